/- The interpreter LI and its soundness (part 1 of 3). -/
import Derived.WalkKit
import Derived.Deep.Quiet
import Derived.StillTail
import Derived.Lib.Bytealg
import Derived.ChangeKeysEq
import Derived.Lib.ConvBytes

/-! The interpreter LI: a deterministic reading of the model's Code over values and a small heap of its own. -/
namespace Go.LI
open Go

/-- An address of the shared heap. -/
structure GA where
  b : Nat
  o : Nat
  deriving DecidableEq
def GA.add (a : GA) (n : Nat) : GA := ⟨a.b, a.o + n⟩

inductive IV where
  | bool (b : Bool)
  | int (k : IntKind) (n : Int)
  | float (k : FloatKind) (b : Nat)
  | str (s : List UInt8)
  | ptr (a : Option GA)
  | loc (k o : Nat)
  | slice (a : Option GA) (n : Nat)
  | func (f : Nat) (caps : List IV)
  | nilFunc
  | nilIface
  | iface (t : Nat) (v : IV)
  | agg (cs : List IV)
  | tuple (vs : List IV)
  | fo (k : FloatKind) (b : Option Nat)
  | any
  deriving Inhabited

def undefI : IV := .tuple []

def ofValue0 : Value → Option IV
  | .bool b => some (.bool b)
  | .int k n => some (.int k n)
  | .float k b => some (.float k b)
  | .string s => some (.str s.data.toList)
  | .pointer none => some (.ptr none)
  | .slice none 0 0 => some (.slice none 0)
  | .nilFunc => some .nilFunc
  | .nilIface => some .nilIface
  | _ => none

def ofList0 : List Value → Option (List IV)
  | [] => some []
  | v :: vs => match ofValue0 v, ofList0 vs with
    | some x, some xs => some (x :: xs)
    | _, _ => none

def ofValue : Value → Option IV
  | .agg cs => match ofList0 cs.toList with
    | some xs => some (.agg xs)
    | none => none
  | v => ofValue0 v

def IV.cells : IV → List IV
  | .agg cs => cs
  | v => [v]

mutual
def noLoc : IV → Bool
  | .loc _ _ => false
  | .func _ cs => noLocs cs
  | .iface _ v => noLoc v
  | .agg cs => noLocs cs
  | .tuple vs => noLocs vs
  | _ => true
def noLocs : List IV → Bool
  | [] => true
  | v :: vs => noLoc v && noLocs vs
end

/-- A value of one cell. -/
def cellI : IV → Bool
  | .agg _ | .tuple _ => false
  | _ => true
def cellsI : List IV → Bool
  | [] => true
  | v :: vs => cellI v && cellsI vs

mutual
/-- No address anywhere. -/
def isFlat : IV → Bool
  | .loc _ _ => false
  | .ptr a => a.isNone
  | .slice a n => a.isNone && n == 0
  | .func _ cs => isFlats cs
  | .iface _ v => isFlat v
  | .agg cs => isFlats cs
  | .tuple vs => isFlats vs
  | .fo _ _ => false
  | _ => true
def isFlats : List IV → Bool
  | [] => true
  | v :: vs => isFlat v && isFlats vs
end

/-! ### The shared heap -/
structure Blk where
  cells : List IV
  elem : Nat
  mode : Nat      -- 0: read alone; 1: written too; else: gone
  deriving Inhabited
abbrev GH := List Blk

def gld (G : GH) (a : GA) : Option IV :=
  match G[a.b]? with
  | some k => if k.mode ≤ 1 then k.cells[a.o]? else none
  | none => none
def ldInt (G : GH) (kd : IntKind) (a : GA) : Option Int :=
  match gld G a with
  | some (.int k n) => if k = kd then some n else none
  | _ => none
def ldFloat (G : GH) (kd : FloatKind) (a : GA) : Option Nat :=
  match gld G a with
  | some (.float k n) => if k = kd then some n else none
  | _ => none
def ldBool (G : GH) (a : GA) : Option Bool :=
  match gld G a with
  | some (.bool b) => some b
  | _ => none
def ldStr (G : GH) (a : GA) : Option (List UInt8) :=
  match gld G a with
  | some (.str b) => some b
  | _ => none
def ldPtr (G : GH) (a : GA) : Option (Option GA) :=
  match gld G a with
  | some (.ptr b) => some b
  | _ => none
def ldSlice (G : GH) (a : GA) : Option (Option GA × Nat) :=
  match gld G a with
  | some (.slice b n) => some (b, n)
  | _ => none

def splice (cs : List IV) (o : Nat) (vs : List IV) : List IV := cs.take o ++ vs ++ cs.drop (o + vs.length)
/-- Cells are written, in a block that may be written. -/
def gst (G : GH) (a : GA) (vs : List IV) : Option GH :=
  match G[a.b]? with
  | some k => if k.mode = 1 ∧ a.o + vs.length ≤ k.cells.length then some (G.set a.b { k with cells := splice k.cells a.o vs }) else none
  | none => none
/-- Cells are read. -/
def grd (G : GH) (a : GA) (n : Nat) : Option (List IV) :=
  match G[a.b]? with
  | some k => if k.mode ≤ 1 ∧ a.o + n ≤ k.cells.length then some ((k.cells.drop a.o).take n) else none
  | none => none
def gnew (G : GH) (cells : List IV) (elem : Nat) : GH := G ++ [⟨cells, elem, 1⟩]
def gaddr (G : GH) : GA := ⟨G.length, 0⟩
/-- A block is gone: who reads it fails. -/
def gkill (G : GH) (b : Nat) : GH :=
  match G[b]? with
  | some k => G.set b { k with mode := 2 }
  | none => G
/-- May this block be taken over by an append? -/
def gown (G : GH) (b elem : Nat) : Bool :=
  match G[b]? with
  | some k => decide (k.mode = 1) && (k.elem == elem)
  | none => false
/-- Is this block one that may be written? -/
def gmark (G : GH) (b : Nat) : Bool :=
  match G[b]? with
  | some k => decide (k.mode = 1)
  | none => false
/-- Does a slice lie in a block of these elements? -/
def gcut (G : GH) (a : Option GA) (elem : Nat) : Bool :=
  match a with
  | none => true
  | some a => match G[a.b]? with
    | some k => decide (k.mode ≤ 1) && (k.elem == elem)
    | none => false
def gfreeze (G : GH) : GH := G.map fun k => { k with mode := if k.mode ≤ 1 then 0 else 2 }

def bytesI (s : List UInt8) : List IV := s.map fun b => .int .u8 b.toNat
def asBytes : List IV → Option (List UInt8)
  | [] => some []
  | .int .u8 n :: r => match asBytes r with
    | some l => some (UInt8.ofNat n.toNat :: l)
    | none => none
  | _ => none

/-- The most bytes that a list may come to here. -/
def roomI : Nat := 2 ^ 40
/-- The most bytes that a text may come to here. -/
def roomS : Nat := 2 ^ 62

/-- append: what was there and what comes on, in a new block; the old one is gone. -/
def gappend (G : GH) (elem size bytes : Nat) (a : Option GA) (n : Nat) (x : List IV) (m : Nat) : Option (Option GA × GH) :=
  if (n + m) * bytes ≤ roomI then
    match a with
    | none => if n = 0 then (if m = 0 then some (none, G) else some (some (gaddr G), gnew G x elem)) else none
    | some a => match gown G a.b elem, grd G a (n * size) with
      | true, some old => some (some (gaddr G), gnew (gkill G a.b) (old ++ x) elem)
      | _, _ => none
  else none

/-! ### Types -/
inductive Leaf where
  | int (k : IntKind) | float (k : FloatKind) | bool | str | ptr | slice | raw
def leaves (P : Program) : Nat → TypeId → List Leaf
  | 0, _ => []
  | d + 1, t => match P.underlying t with
    | some (.int k) => [.int k]
    | some (.float k) => [.float k]
    | some .bool => [.bool]
    | some .string => [.str]
    | some (.pointer _) => [.ptr]
    | some (.slice _) => [.slice]
    | some (.struct fs) => fs.toList.flatMap fun f => leaves P d f.type
    | some (.array n e) => (List.replicate n (leaves P d e)).flatten
    | some _ => [.raw]
    | none => []
def aggT (P : Program) (t : TypeId) : Bool :=
  match P.underlying t with
  | some (.struct _) | some (.array _ _) => true
  | _ => false
def fieldsT (P : Program) (t : TypeId) : Array Field :=
  match P.underlying t with
  | some (.struct fs) => fs
  | _ => #[]
/-- A part of a row of cells. -/
def partI (P : Program) (t : TypeId) (cs : List IV) (off : Nat) : Option IV :=
  match P.underlying t with
  | some _ => if aggT P t then (if off + P.cellsOf t ≤ cs.length then some (.agg ((cs.drop off).take (P.cellsOf t))) else none) else cs[off]?
  | none => none
def zeroT (P : Program) (t : TypeId) : Option IV :=
  match P.info? t with
  | some i => match i.zero with
    | some v => ofValue v
    | none => none
  | none => none

section
variable {R : Type}

def ldLeaf (G : GH) (a : GA) : Leaf → (IV → Option R) → Option R
  | .int kd, k => match ldInt G kd a with | some n => k (.int kd n) | none => none
  | .float kd, k => match ldFloat G kd a with | some n => k (.float kd n) | none => none
  | .bool, k => match ldBool G a with | some n => k (.bool n) | none => none
  | .str, k => match ldStr G a with | some n => k (.str n) | none => none
  | .ptr, k => match ldPtr G a with | some n => k (.ptr n) | none => none
  | .slice, k => match ldSlice G a with | some n => k (.slice n.1 n.2) | none => none
  | .raw, k => match gld G a with | some v => k v | none => none
def ldCells (G : GH) (a : GA) : List Leaf → Nat → (List IV → Option R) → Option R
  | [], _, k => k []
  | l :: ls, i, k => ldLeaf G (a.add i) l fun v => ldCells G a ls (i + 1) fun vs => k (v :: vs)

/-- A variable is loaded. -/
def loadC (P : Program) (t : TypeId) (x : IV) (F : List (List IV)) (G : GH) (k : IV → Option R) : Option R :=
  match x with
  | .ptr (some a) =>
    if aggT P t then (if (leaves P 20 t).length = P.cellsOf t then ldCells G a (leaves P 20 t) 0 fun vs => k (.agg vs) else none)
    else match leaves P 20 t with
      | [l] => ldLeaf G a l k
      | _ => none
  | .loc b o => match F[b]? with
    | some cs => match partI P t cs o with
      | some v => k v
      | none => none
    | none => none
  | _ => none

def storeC (P : Program) (t : TypeId) (x v : IV) (F : List (List IV)) (G : GH) (k : List (List IV) → GH → Option R) : Option R :=
  if v.cells.length = P.cellsOf t ∧ cellsI v.cells = true ∧ P.cellsOf t ≠ 0 then
    match x with
    | .ptr (some a) => if noLocs v.cells then (match gst G a v.cells with | some G' => k F G' | none => none) else none
    | .loc b o => match F[b]? with
      | some cs => if o + v.cells.length ≤ cs.length then k (F.set b (splice cs o v.cells)) G else none
      | none => none
    | _ => none
  else none

/-! ### Operations on values -/
def shlI (k : IntKind) (x y : Int) : Int := k.wrap (x * 2 ^ (min y.toNat k.bits))
def shrI (k : IntKind) (x y : Int) : Int := x.fdiv (2 ^ (min y.toNat k.bits))
def andI (k : IntKind) (x y : Int) : Int := k.wrap (BitVec.ofInt k.bits x &&& BitVec.ofInt k.bits y).toNat
def orI (k : IntKind) (x y : Int) : Int := k.wrap (BitVec.ofInt k.bits x ||| BitVec.ofInt k.bits y).toNat
def xorI (k : IntKind) (x y : Int) : Int := k.wrap (BitVec.ofInt k.bits x ^^^ BitVec.ofInt k.bits y).toNat
def notI (k : IntKind) (x y : Int) : Int := k.wrap (BitVec.ofInt k.bits x &&& ~~~ BitVec.ofInt k.bits y).toNat
def feq (k : FloatKind) (x y : Nat) : Bool := k.format.order x y == some .eq
def flt (k : FloatKind) (x y : Nat) : Bool := k.format.order x y == some .lt
def fgt (k : FloatKind) (x y : Nat) : Bool := k.format.order x y == some .gt
def fle (k : FloatKind) (x y : Nat) : Bool := k.format.order x y == some .lt || k.format.order x y == some .eq
def fge (k : FloatKind) (x y : Nat) : Bool := k.format.order x y == some .gt || k.format.order x y == some .eq
def f2i (s : FloatKind) (b : Nat) (d : IntKind) : Option Int :=
  match (s.decode b).toInt .zero with
  | some n => if d.min ≤ n ∧ n ≤ d.max then some n else none
  | none => none
def f2f (s : FloatKind) (b : Nat) (d : FloatKind) : Option Nat :=
  if s = d then some b else
  match s.decode b with
  | .nan _ _ => none
  | .infinity g => some (d.encode (.infinity g))
  | .number g m e => if (d.decode (d.encode (.number g m e))).isInfinity then none else some (d.encode (.number g m e))
def fmax (k : FloatKind) (x y : Nat) : Option Nat :=
  match k.format.order x y with
  | none => none
  | some .lt => some y
  | some .gt => some x
  | some .eq => some (if (k.decode x).neg then y else x)
def fmin (k : FloatKind) (x y : Nat) : Option Nat :=
  match k.format.order x y with
  | none => none
  | some .lt => some x
  | some .gt => some y
  | some .eq => some (if (k.decode x).neg then x else y)

/-- Two values of one cell: are they equal? -/
def eqLeaf : Leaf → IV → IV → Option Bool
  | .bool, .bool a, .bool b => some (a == b)
  | .int q, .int k a, .int k' b => if k = q ∧ k' = q then some (a == b) else none
  | .float q, .float k a, .float k' b => if k = q ∧ k' = q then some (feq q a b) else none
  | .str, .str a, .str b => some (a == b)
  | _, _, _ => none
def eqLeaves : List Leaf → List IV → List IV → Option Bool
  | [], [], [] => some true
  | l :: ls, x :: xs, y :: ys => match eqLeaf l x y, eqLeaves ls xs ys with
    | some a, some b => some (a && b)
    | _, _ => none
  | _, _, _ => none
def plainFields (P : Program) (ps : TypeId → Option Nat) : List Field → Nat → Option Nat
  | [], off => some off
  | f :: fs, off => match ps f.type with
    | some s => if f.name ≠ "_" ∧ f.offset = off ∧ P.cellsOf f.type = s then plainFields P ps fs (off + s) else none
    | none => none
/-- May values of this type be told apart leaf by leaf? How many cells they have. -/
def plainSize (P : Program) : Nat → TypeId → Option Nat
  | 0, _ => none
  | d + 1, t => match P.underlying t with
    | some (.int _) | some (.float _) | some .bool | some .string => some 1
    | some (.struct fs) => if P.stoodInHeld t then none else plainFields P (plainSize P d) fs.toList 0
    | some (.array n e) => match plainSize P d e with
      | some s => if P.cellsOf e = s then some (n * s) else none
      | none => none
    | _ => none

def binC (P : Program) (op : BinOp) (t : TypeId) (x y : IV) (k : IV → Option R) : Option R :=
  match x, y with
  | .int kx a, .int ky b =>
    match op with
    | .shl => cond (decide (b < 0)) none (k (.int kx (shlI kx a b)))
    | .shr => cond (decide (b < 0)) none (k (.int kx (shrI kx a b)))
    | _ => if kx = ky then
      match op with
      | .add => k (.int kx (kx.wrap (a + b)))
      | .sub => k (.int kx (kx.wrap (a - b)))
      | .mul => k (.int kx (kx.wrap (a * b)))
      | .quo => cond (b == 0) none (k (.int kx (kx.wrap (a.tdiv b))))
      | .rem => cond (b == 0) none (k (.int kx (a.tmod b)))
      | .and => k (.int kx (andI kx a b))
      | .or => k (.int kx (orI kx a b))
      | .xor => k (.int kx (xorI kx a b))
      | .andNot => k (.int kx (notI kx a b))
      | .eql => k (.bool (a == b))
      | .neq => k (.bool (a != b))
      | .lss => k (.bool (decide (a < b)))
      | .leq => k (.bool (decide (a ≤ b)))
      | .gtr => k (.bool (decide (a > b)))
      | .geq => k (.bool (decide (a ≥ b)))
      | _ => none
      else none
  | .float kx a, .float ky b => if kx = ky then
      match op with
      | .add => match kx.format.add a b with | some r => k (.float kx r) | none => none
      | .sub => match kx.format.sub a b with | some r => k (.float kx r) | none => none
      | .mul => match kx.format.mul a b with | some r => k (.float kx r) | none => none
      | .quo => match kx.format.div a b with | some r => k (.float kx r) | none => none
      | .eql => k (.bool (feq kx a b))
      | .neq => k (.bool (!feq kx a b))
      | .lss => k (.bool (flt kx a b))
      | .leq => k (.bool (fle kx a b))
      | .gtr => k (.bool (fgt kx a b))
      | .geq => k (.bool (fge kx a b))
      | _ => none
      else none
  | .str a, .str b =>
    match op with
    | .add => cond (decide (a.length + b.length ≤ roomS)) (k (.str (a ++ b))) none
    | .eql => k (.bool (a == b))
    | .neq => k (.bool (!(a == b)))
    | .lss => k (.bool (Op.bytesLess a b))
    | .leq => k (.bool (Op.bytesLess a b || a == b))
    | .gtr => k (.bool (!(Op.bytesLess a b || a == b)))
    | .geq => k (.bool (!(Op.bytesLess a b)))
    | _ => none
  | .bool a, .bool b =>
    match op, P.underlying t with
    | .eql, some .bool => k (.bool (a == b))
    | .neq, some .bool => k (.bool (!(a == b)))
    | _, _ => none
  | .ptr a, .ptr none =>
    match op, P.underlying t with
    | .eql, some (.pointer _) => k (.bool a.isNone)
    | .neq, some (.pointer _) => k (.bool (!a.isNone))
    | _, _ => none
  | .ptr none, .ptr b =>
    match op, P.underlying t with
    | .eql, some (.pointer _) => k (.bool b.isNone)
    | .neq, some (.pointer _) => k (.bool (!b.isNone))
    | _, _ => none
  | .slice a _, .slice none _ =>
    match op, P.underlying t with
    | .eql, some (.slice _) => k (.bool a.isNone)
    | .neq, some (.slice _) => k (.bool (!a.isNone))
    | _, _ => none
  | .agg xs, .agg ys =>
    if aggT P t && (plainSize P 20 t).isSome && !P.eqGuardType P.depth t then
      match op, eqLeaves (leaves P 20 t) xs ys with
      | .eql, some b => k (.bool b)
      | .neq, some b => k (.bool (!b))
      | _, _ => none
    else none
  | _, _ => none

def unC (op : UnOp) (x : IV) (k : IV → Option R) : Option R :=
  match op, x with
  | .neg, .int kd n => k (.int kd (kd.wrap (0 - n)))
  | .xor, .int kd n => k (.int kd (xorI kd (if kd.signed then -1 else kd.max) n))
  | .neg, .float kd b => k (.float kd (Op.negFloat kd b))
  | .not, .bool b => k (.bool (!b))
  | _, _ => none

def convC (P : Program) (src dst : TypeId) (x : IV) (G : GH) (k : IV → GH → Option R) : Option R :=
  match P.underlying src, P.underlying dst, x with
  | some _, some (.int kd), .int _ n => k (.int kd (kd.wrap n)) G
  | some _, some (.float kd), .int _ n => k (.float kd (kd.nearest n)) G
  | some _, some (.int kd), .float s b => match f2i s b kd with | some n => k (.int kd n) G | none => none
  | some _, some (.float kd), .float s b => match f2f s b kd with | some n => k (.float kd n) G | none => none
  | some .string, some .string, .str s => k (.str s) G
  | some .string, some (.slice e), .str s =>
    match P.underlying e with
    | some (.int .u8) => if P.cellsOf e = 1 then k (.slice (some (gaddr G)) s.length) (gnew G (bytesI s) e) else none
    | _ => none
  | some (.slice e), some .string, .slice a n =>
    match P.underlying e, a with
    | some (.int .u8), none => if n = 0 then k (.str []) G else none
    | some (.int .u8), some a => match grd G a n with
      | some cs => match asBytes cs with
        | some l => k (.str l) G
        | none => none
      | none => none
    | _, _ => none
  | some (.slice e), some (.slice _), .slice (some a) n =>
    match P.underlying e with
    | some (.int .u8) => if src = dst then (if n = 0 then none else (bif gmark G a.b then k (.slice (some a) n) G else none)) else none
    | _ => none
  | _, _, _ => none

/-- copy, as builtinC has it. -/
def copyK (G : GH) (sz : Nat) (a : Option GA) (n : Nat) (b : Option GA) (m : Nat) (k : Int → GH → Option R) : Option R :=
  match a, b with
  | some a, some b => match grd G b (min m n * sz) with
    | some cs => match gst G a cs with
      | some G' => k (min m n : Nat) G'
      | none => none
    | none => none
  | _, _ => if min m n = 0 then k 0 G else none

def fillI (place : Nat → Option (Nat × Nat)) (cells : List IV) : List (Nat × IV) → Option (List IV)
  | [] => some cells
  | (i, v) :: rest => match place i with
    | none => none
    | some (off, size) => if v.cells.length ≠ size ∨ cells.length < off + v.cells.length then none else fillI place (splice cells off v.cells) rest

/-- What stands in a temporary, if it is known. -/
def tmpv (env : List IV) (t : Nat) : Option IV :=
  match env[t]? with
  | some .any => none
  | x => x
def ev (env : List IV) : Operand → Option IV
  | .tmp t => tmpv env t
  | .const v => ofValue v
  | .global _ => none
  | .func f => some (.func f [])
def evs (env : List IV) : List Operand → Option (List IV)
  | [] => some []
  | x :: xs => match ev env x, evs env xs with
    | some v, some vs => some (v :: vs)
    | _, _ => none
def evParts (env : List IV) : List (Nat × Operand) → Option (List (Nat × IV))
  | [] => some []
  | (i, x) :: xs => match ev env x, evParts env xs with
    | some v, some vs => some ((i, v) :: vs)
    | _, _ => none

/-- A function in which a difference may be no number (a mark in its list of locals); or a product (another mark). -/
def soft2 (lo : List Nat) : Bool := lo.contains 888889
def soft (lo : List Nat) : Bool := lo.contains 888888 || soft2 lo
def softB (op : BinOp) (x y : IV) : Option IV :=
  match op, x, y with
  | .sub, .float k a, .float k' b => if k = k' then some (.fo k (k.format.sub a b)) else none
  | .eql, .fo k o, .float k' b => if k = k' then some (.bool (match o with | some r => feq k r b | none => false)) else none
  | .neq, .fo k o, .float k' b => if k = k' then some (.bool (match o with | some r => !feq k r b | none => true)) else none
  | _, _, _ => none
/-- With the other mark: a product may be no number; it may be added to, and compared by >. -/
def soft2C (P : Program) (op : BinOp) (t : TypeId) (x y : IV) (k : IV → Option R) : Option R :=
  match op, x, y with
  | .mul, .float kd a, .float kd' b => if kd = kd' then (match kd.format.mul a b with | some r => k (.float kd r) | none => k (.fo kd none)) else none
  | .add, .float kd _, .fo kd' none => if kd = kd' then k (.fo kd none) else none
  | .gtr, .fo kd none, .float kd' _ => if kd = kd' then k (.bool false) else none
  | _, _, _ => binC P op t x y k
def softC (P : Program) (lo : List Nat) (op : BinOp) (t : TypeId) (x y : IV) (k : IV → Option R) : Option R :=
  if soft2 lo = true then soft2C P op t x y k else (match softB op x y with | some v => k v | none => none)

def intI (x : Option IV) : Option Int :=
  match x with
  | some (.int _ n) => some n
  | _ => none
def loI (env : List IV) (lo : Option Operand) : Option Int :=
  match lo with
  | some l => intI (ev env l)
  | none => some 0
def hiI (env : List IV) (hi : Option Operand) (x : IV) : Option Int :=
  match hi with
  | some h => intI (ev env h)
  | none => match x with
    | .str s => some (s.length : Int)
    | .slice _ n => some (n : Int)
    | _ => none

/-- An address is 'a' places on. -/
def addrI (x : IV) (n : Nat) : Option IV :=
  match x with
  | .ptr (some a) => some (.ptr (some (a.add n)))
  | .loc b o => some (.loc b (o + n))
  | _ => none

def idx? (a : Option GA) (n : Nat) (i : Int) (size : Nat) : Option GA :=
  match a with
  | some a => if 0 ≤ i ∧ i < (n : Int) then some (a.add (i.toNat * size)) else none
  | none => none

def cutA (a : Option GA) (n : Nat) : Option GA :=
  match a with
  | some a => some (a.add n)
  | none => none

def minmaxC (mx : Bool) : List IV → IV → (IV → Option R) → Option R
  | [], x, k => k x
  | y :: ys, x, k => match x, y with
    | .int kx a, .int _ b => minmaxC mx ys (.int kx (if mx then (if b > a then b else a) else (if b < a then b else a))) k
    | .float kx a, .float _ b => match (if mx then fmax kx a b else fmin kx a b) with
      | some r => minmaxC mx ys (.float kx r) k
      | none => none
    | _, _ => none

/-! ### What comes back from a call, in its type's form -/
def ivInt (kd : IntKind) : IV → Option Int
  | .int k n => bif k == kd then some n else none
  | _ => none
def ivFloat (kd : FloatKind) : IV → Option Nat
  | .float k n => bif k == kd then some n else none
  | _ => none
def ivBool : IV → Option Bool
  | .bool b => some b
  | _ => none
def ivStr : IV → Option (List UInt8)
  | .str s => some s
  | _ => none
def ivPtr : IV → Option (Option GA)
  | .ptr a => some a
  | _ => none
def ivSlice : IV → Option (Option GA × Nat)
  | .slice a n => some (a, n)
  | _ => none
def ivAgg (n : Nat) : IV → Option (List IV)
  | .agg cs => bif cs.length == n then some cs else none
  | _ => none
def ivTup (n : Nat) : IV → Option (List IV)
  | .tuple cs => bif cs.length == n then some cs else none
  | _ => none
def castL : Leaf → IV → (IV → Option R) → Option R
  | .int kd, v, k => match ivInt kd v with | some n => k (.int kd n) | none => none
  | .float kd, v, k => match ivFloat kd v with | some n => k (.float kd n) | none => none
  | .bool, v, k => match ivBool v with | some n => k (.bool n) | none => none
  | .str, v, k => match ivStr v with | some n => k (.str n) | none => none
  | .ptr, v, k => match ivPtr v with | some n => k (.ptr n) | none => none
  | .slice, v, k => match ivSlice v with | some n => k (.slice n.1 n.2) | none => none
  | .raw, v, k => k v
def castCells : List Leaf → List IV → Nat → (List IV → Option R) → Option R
  | [], _, _, k => k []
  | l :: ls, cs, i, k => castL l (cs.getD i undefI) fun v => castCells ls cs (i + 1) fun vs => k (v :: vs)
def cast1 (P : Program) (t : TypeId) (v : IV) (k : IV → Option R) : Option R :=
  if aggT P t then
    (if (leaves P 20 t).length = P.cellsOf t then (match ivAgg (P.cellsOf t) v with
      | some cs => castCells (leaves P 20 t) cs 0 fun cs => k (.agg cs)
      | none => none) else none)
  else match leaves P 20 t with
    | [l] => castL l v k
    | _ => k v
def castTs (P : Program) : List TypeId → List IV → Nat → (List IV → Option R) → Option R
  | [], _, _, k => k []
  | t :: ts, cs, i, k => cast1 P t (cs.getD i undefI) fun v => castTs P ts cs (i + 1) fun vs => k (v :: vs)
def castT (P : Program) (t : TypeId) (v : IV) (k : IV → Option R) : Option R :=
  match P.underlying t with
  | some (.tuple ts) => match ivTup ts.toList.length v with
    | some cs => castTs P ts.toList cs 0 fun cs => k (.tuple cs)
    | none => none
  | _ => cast1 P t v k

abbrev Ora (R : Type) := Nat → List IV → GH → (IV → GH → Option R) → Option R

def builtinC (P : Program) (b : Builtin) (argTypes : Array TypeId) (args : List IV) (G : GH) (k : IV → GH → Option R) : Option R :=
  match b with
  | .len => match argTypes[0]?, args with
    | some t, [x] => match P.underlying t, x with
      | some .string, .str s => k (.int .i64 s.length) G
      | some (.slice _), .slice _ n => k (.int .i64 n) G
      | some (.array n _), _ => k (.int .i64 n) G
      | _, _ => none
    | _, _ => none
  | .max => match args with | x :: xs => minmaxC true xs x fun v => k v G | [] => none
  | .min => match args with | x :: xs => minmaxC false xs x fun v => k v G | [] => none
  | .append => match argTypes.toList, args with
    | [t, u], [.slice a n, x] => match P.underlying t with
      | some (.slice e) => match P.info? e, zeroT P e with
        | some i, some z => if ¬ (0 < i.bytes ∧ i.bytes ≤ 2 ^ 20 ∧ 0 < i.size ∧ z.cells.length = i.size) then none else match x, P.underlying u with
          | .slice b m, some (.slice _) => match (match b with | some b => grd G b (m * i.size) | none => if m = 0 then some [] else none) with
            | some new => match gappend G e i.size i.bytes a n new m with
              | some (a', G') => k (.slice a' (n + m)) G'
              | none => none
            | none => none
          | .str s, some .string => if i.size = 1 then match gappend G e i.size i.bytes a n (bytesI s) s.length with
              | some (a', G') => k (.slice a' (n + s.length)) G'
              | none => none
            else none
          | _, _ => none
        | _, _ => none
      | _ => none
    | _, _ => none
  | .copy => match argTypes.toList, args with
    | [t, _], [.slice a n, .slice b m] => match P.underlying t with
      | some (.slice e) => if P.cellsOf e = 0 then none else match a, b with
        | some a, some b => match grd G b (min m n * P.cellsOf e) with
          | some cs => match gst G a cs with
            | some G' => k (.int .i64 (min m n : Nat)) G'
            | none => none
          | none => none
        | _, _ => if min m n = 0 then k (.int .i64 0) G else none
      | _ => none
    | _, _ => none
  | _ => none

def isLo (lo : List Nat) (dst : Option Tmp) : Bool :=
  match dst with
  | some d => lo.contains d
  | none => false
/-- A new variable: of this call alone, or in the shared heap. -/
def allocC (lo : List Nat) (dst : Option Tmp) (t : TypeId) (cs : List IV) (F : List (List IV)) (G : GH) (k : IV → List (List IV) → GH → Option R) : Option R :=
  if isLo lo dst then k (.loc F.length 0) (F ++ [cs]) G
  else if noLocs cs && cellsI cs then k (.ptr (some (gaddr G))) F (gnew G cs t) else none

/-- What an operation does; its order among its fellows is not asked here. 'sand': the region draws its order: calls may only read. -/
def opC (P : Program) (O : Ora R) (lo : List Nat) (sand : Bool) (o : Oper) (env : List IV) (F : List (List IV)) (G : GH)
    (k : IV → List (List IV) → GH → Option R) : Option R :=
  match o.op with
  | .move x | .assign x => match ev env x with | some v => k v F G | none => none
  | .pick c a b => match ev env c, ev env a, ev env b with
    | some (.bool c), some x, some y => cond c (k x F G) (k y F G)
    | _, _, _ => none
  | .alloc t => match zeroT P t with
    | some v => allocC lo o.dst t v.cells F G k
    | none => none
  | .box t x => match ev env x with
    | some v => allocC lo o.dst t v.cells F G k
    | none => none
  | .build t ps => match zeroT P t, evParts env ps.toList, P.underlying t with
    | some z, some vs, some (.struct fs) => if fs.toList.all fun f => (P.info? f.type).isSome then
        (match fillI (fun i => (fs[i]?).map fun f => (f.offset, P.cellsOf f.type)) z.cells vs with
        | some cs => k (.agg cs) F G
        | none => none) else none
    | some z, some vs, some (.array _ e) => if (P.info? e).isSome then
        (match fillI (fun i => some (i * P.cellsOf e, P.cellsOf e)) z.cells vs with
        | some cs => k (.agg cs) F G
        | none => none) else none
    | _, _, _ => none
  | .buildSlice t len ps => match P.underlying t, evParts env ps.toList with
    | some (.slice e), some vs => match zeroT P e with
      | some z => if len * P.cellsOf e ≤ 2 ^ 20 ∧ z.cells.length = P.cellsOf e ∧ 0 < P.cellsOf e then
          match fillI (fun i => some (i * P.cellsOf e, P.cellsOf e)) (List.replicate len z.cells).flatten vs with
          | some cs => if noLocs cs && cellsI cs then k (.slice (some (gaddr G)) len) F (gnew G cs e) else none
          | none => none
        else none
      | none => none
    | _, _ => none
  | .load t x => match ev env x with | some a => loadC P t a F G fun v => k v F G | none => none
  | .store t x v => match ev env x, ev env v with
    | some a, some v => storeC P t a v F G fun F G => k undefI F G
    | _, _ => none
  | .nilCheck x => match ev env x with
    | some (.ptr a) => match a with | some a => k (.ptr (some a)) F G | none => none
    | some (.loc b i) => k (.loc b i) F G
    | some (.func f cs) => k (.func f cs) F G
    | _ => none
  | .binOp op t x y _ => match ev env x, ev env y with
    | some a, some b => if (soft lo && !sand) = true then softC P lo op t a b (fun v => k v F G) else binC P op t a b fun v => k v F G
    | _, _ => none
  | .unOp op _ x => match ev env x with | some a => unC op a fun v => k v F G | none => none
  | .convert s d x => match ev env x with | some a => convC P s d a G fun v G => k v F G | none => none
  | .makeInterface t x => match ev env x, P.underlying t with
    | _, some (.interface _) => none
    | some v, some _ => k (.iface t v) F G
    | _, _ => none
  | .makeFunc (.func f) first caps => match evs env caps.toList with
    | some cs => if first.size = 0 then k (.func f cs) F G else none
    | none => none
  | .makeSlice t l c => match P.underlying t, ev env l, ev env c with
    | some (.slice e), some (.int _ l), some (.int _ c) => match P.info? e, zeroT P e with
      | some i, some z => cond (decide (0 ≤ l ∧ l ≤ c ∧ c * i.bytes ≤ roomI ∧ c ≤ roomI) && decide (z.cells.length = i.size ∧ 0 < i.size) && (noLocs z.cells && cellsI z.cells))
          (k (.slice (some (gaddr G)) l.toNat) F (gnew G (List.replicate l.toNat z.cells).flatten e)) none
      | _, _ => none
    | _, _, _ => none
  | .slice t x lo hi mx => match mx, ev env x with
    | none, some x =>
      match loI env lo, hiI env hi x with
      | some l, some h => match P.underlying t, x with
        | some .string, .str s => cond (decide (0 ≤ l ∧ l ≤ h ∧ h ≤ (s.length : Int))) (k (.str ((s.drop l.toNat).take (h.toNat - l.toNat))) F G) none
        | some (.slice e), .slice a n => if P.cellsOf e = 0 then none else cond (decide (0 ≤ l ∧ l ≤ h ∧ h ≤ (n : Int)) && gcut G a e)
            (k (.slice (cutA a (l.toNat * P.cellsOf e)) (h.toNat - l.toNat)) F G) none
        | _, _ => none
      | _, _ => none
    | _, _ => none
  | .fieldAddr t x f => match ev env x, (fieldsT P t)[f]? with
    | some a, some fd => if P.cellsOf fd.type = 0 then none else match addrI a fd.offset with | some v => k v F G | none => none
    | _, _ => none
  | .field t x f => match ev env x, (fieldsT P t)[f]? with
    | some (.agg cs), some fd => match partI P fd.type cs fd.offset with | some v => k v F G | none => none
    | _, _ => none
  | .indexAddr t x i => match P.underlying t, ev env x, ev env i with
    | some (.slice e), some (.slice a n), some (.int _ i) => if P.cellsOf e = 0 then none else match idx? a n i (P.cellsOf e) with
      | some a => k (.ptr (some a)) F G
      | none => none
    | some (.array n e), some a, some (.int _ i) => if P.cellsOf e = 0 then none else if 0 ≤ i ∧ i < (n : Int) then
        (match addrI a (i.toNat * P.cellsOf e) with | some v => k v F G | none => none) else none
    | _, _, _ => none
  | .index t x i => match P.underlying t, ev env x, ev env i with
    | some .string, some (.str s), some (.int _ i) => cond (decide (0 ≤ i ∧ i < (s.length : Int))) (k (.int .u8 ((s.getD i.toNat 0).toNat)) F G) none
    | some (.array n e), some (.agg cs), some (.int _ i) => if 0 ≤ i ∧ i < (n : Int) then
        (match partI P e cs (i.toNat * P.cellsOf e) with | some v => k v F G | none => none) else none
    | _, _, _ => none
  | .extract x i => match ev env x with
    | some (.tuple vs) => match vs[i]? with | some v => k v F G | none => none
    | _ => none
  | .call c => match evs env c.args.toList with
    | some args => match c.callee with
      | .builtin b => builtinC P b c.argTypes args G fun v G => k v F G
      | .value f => match ev env f with
        | some (.func f caps) => if noLocs args && noLocs caps then
            (if sand then O f (args ++ caps) (gfreeze G) fun v _ => castT P o.type v fun v => if isFlat v then k v F G else none
             else O f (args ++ caps) G fun v G => castT P o.type v fun v => k v F G) else none
        | _ => none
      | _ => none
    | none => none
  | _ => none

/-! ### Regions, code, calls -/
def putI (env : List IV) (d : Option Tmp) (v : IV) : List IV :=
  match d with
  | some d => env.set d v
  | none => env

def opsC (P : Program) (O : Ora R) (lo : List Nat) (sand : Bool) (all : Array Oper) :
    List Oper → List IV → List (List IV) → GH → (List IV → List (List IV) → GH → Option R) → Option R
  | [], env, F, G, k => k env F G
  | o :: os, env, F, G, k =>
    match o.guard with
    | none => opC P O lo sand o env F G fun v F G => opsC P O lo sand all os (putI env o.dst v) F G k
    | some (j, want) =>
      match (all[j]?).bind (·.dst) with
      | none => none
      | some d =>
        match env[d]? with
        | some (.bool b) =>
          cond b
            (if want then opC P O lo sand o (env.set d (.bool true)) F G fun v F G => opsC P O lo sand all os (putI (env.set d (.bool true)) o.dst v) F G k
             else opsC P O lo sand all os (putI (env.set d (.bool true)) o.dst undefI) F G k)
            (if want then opsC P O lo sand all os (putI (env.set d (.bool false)) o.dst undefI) F G k
             else opC P O lo sand o (env.set d (.bool false)) F G fun v F G => opsC P O lo sand all os (putI (env.set d (.bool false)) o.dst v) F G k)
        | some (.tuple []) => opsC P O lo sand all os (putI env o.dst undefI) F G k
        | _ => none

/-- Does an operation leave memory alone (whatever it reads)? -/
def quietOp : Op → Bool
  | .move _ | .assign _ | .pick .. | .build .. | .load .. | .nilCheck _ | .binOp .. | .unOp .. | .makeInterface .. | .makeFunc ..
  | .slice .. | .fieldAddr .. | .field .. | .indexAddr .. | .index .. | .extract .. => true
  | .convert .. => true
  | .call c => match c.callee with
    | .builtin .len | .builtin .max | .builtin .min => true
    | .value _ => true
    | _ => false
  | _ => false
def quietN : List Oper → Nat
  | [] => 0
  | o :: os => if quietOp o.op then quietN os + 1 else 0
/-- Does a conversion make memory? -/
def convMakes (P : Program) : Op → Bool
  | .convert _ d _ => match P.underlying d with | some (.slice _) => true | _ => false
  | _ => false
/-- The order that is drawn is not to be seen: all is quiet, or what is not stands at the end, in one order. -/
def drawOk (P : Program) (ops : Array Oper) : Bool :=
  let n := quietN ops.toList
  (ops.toList.take n).all (fun o => !convMakes P o.op) &&
  (if n = ops.size then Region.lexB .any ops else Region.lexTailB .any ops n)

/-- Does an operation neither make nor write memory, nor call, nor change what it reads? -/
def loneOp : Op → Bool
  | .move _ | .assign _ | .pick .. | .build .. | .load .. | .nilCheck _ | .binOp .. | .unOp .. | .makeInterface .. | .fieldAddr .. | .field .. | .indexAddr .. | .index .. | .extract .. => true
  | _ => false
def loneN : List Oper → Nat
  | [] => 0
  | o :: os => if loneOp o.op then loneN os + 1 else 0
/-- One operation writes, the others read alone, none has a guard. -/
def drawS (ops : Array Oper) : Bool :=
  decide (loneN ops.toList < ops.size) && (ops.toList.drop (loneN ops.toList + 1)).all (fun o => loneOp o.op) && ops.toList.all (fun o => o.guard.isNone) && Region.lexB .any ops && (match ops.toList[loneN ops.toList]? with | some ⟨none, .store .., _, _, _, _⟩ => true | _ => false)

/-! ### Operations that are not ordered -/
/-- Is an operation carried out? -/
def wantI (all : Array Oper) (o : Oper) (env : List IV) : Option Bool :=
  match o.guard with
  | none => some true
  | some (j, want) => match (all[j]?).bind (·.dst) with
    | none => none
    | some d => match env[d]? with
      | some (.bool b) => some (b == want)
      | some (.tuple []) => some false
      | _ => none

inductive Fp where
  | none | rf (b : Nat) | wf (b : Nat) | nf | rg | wg | bad
def sliceT (P : Program) (t : TypeId) : Bool := match P.underlying t with | some (.slice _) => true | _ => false
def fpOp (P : Program) (lo : List Nat) (sand : Bool) (env : List IV) (o : Oper) : Fp :=
  match o.op with
  | .move _ | .assign _ | .pick .. | .build .. | .nilCheck _ | .binOp .. | .unOp .. | .makeInterface .. | .makeFunc .. | .fieldAddr .. | .field .. | .indexAddr .. | .index .. | .extract .. => .none
  | .load _ x => match ev env x with | some (.loc b _) => .rf b | some (.ptr _) => .rg | _ => .bad
  | .store _ x _ => match ev env x with | some (.loc b _) => .wf b | some (.ptr _) => .wg | _ => .bad
  | .alloc _ | .box .. => if isLo lo o.dst then .nf else .wg
  | .makeSlice .. | .buildSlice .. => .wg
  | .convert s d _ => if sliceT P s || sliceT P d then .wg else .none
  | .slice .. => .rg
  | .call c => match c.callee with
    | .builtin .len | .builtin .max | .builtin .min => .none
    | .builtin _ => .wg
    | .value _ => if sand then .rg else .wg
    | _ => .bad
  | _ => .bad

/-- The places whose content an operation's footprint hangs on. -/
def opAddrs (all : Array Oper) (o : Oper) : List Tmp :=
  (match o.op with
   | .load _ (.tmp t) => [t]
   | .store _ (.tmp t) _ => [t]
   | .call c => match c.callee, c.args.toList with
     | .builtin .append, [.tmp t, .tmp u] => [t, u]
     | _, _ => []
   | _ => []) ++
  (match o.guard with
   | some (j, _) => ((all[j]?).bind (·.dst)).toList
   | none => [])
def isAlloc : Op → Bool
  | .alloc _ | .box .. => true
  | _ => false
def selfOk (all : Array Oper) (x : Oper) : Bool :=
  match x.dst with
  | none => true
  | some d => !(opAddrs all x).contains d
/-- What comes later leaves them alone. -/
def lateOk (all : Array Oper) (x y : Oper) : Bool :=
  match y.dst with
  | none => true
  | some d => !(opAddrs all x).contains d && !(isAlloc x.op && x.dst == some d)
def fpW (P : Program) (lo : List Nat) (sand : Bool) (all : Array Oper) (E : List IV) (o : Oper) : Fp :=
  match wantI all o E with
  | some false => .none
  | _ => fpOp P lo sand E o
def boxOf (E : List IV) (o : Oper) : Option Nat :=
  if isAlloc o.op then (match o.dst with
    | some d => match E[d]? with
      | some (.loc n _) => some n
      | _ => none
    | none => none) else none
def boxNe (n : Option Nat) (b : Nat) : Bool :=
  match n with
  | some n => n != b
  | none => false
def fpOk (nx ny : Option Nat) : Fp → Fp → Bool
  | .bad, _ | _, .bad => false
  | .none, _ | _, .none => true
  | .rf _, .rf _ | .rf _, .rg | .rf _, .wg => true
  | .rf b, .wf b' => b != b'
  | .rf b, .nf => boxNe ny b
  | .wf b, .rf b' | .wf b, .wf b' => b != b'
  | .wf _, .rg | .wf _, .wg => true
  | .wf b, .nf => boxNe ny b
  | .nf, .rf b | .nf, .wf b => boxNe nx b
  | .nf, .rg | .nf, .wg => true
  | .nf, .nf => false
  | .rg, .wg | .wg, .rg | .wg, .wg => false
  | .rg, _ | .wg, _ => true
def pairOk (P : Program) (lo : List Nat) (sand : Bool) (all : Array Oper) (E : List IV) (x y : Oper) : Bool :=
  fpOk (boxOf E x) (boxOf E y) (fpW P lo sand all E x) (fpW P lo sand all E y)

/-- Who comes before whom: one mask for each. -/
def ancM (o : Oper) (acc : List Nat) : Nat := o.after.toList.foldl (fun m e => if Region.binds .any e then m ||| (1 <<< e.on) ||| acc.getD e.on 0 else m) 0
def ancs : List Oper → List Nat → List Nat
  | [], acc => acc
  | o :: os, acc => ancs os (acc ++ [ancM o acc])
def drawD (P : Program) (lo : List Nat) (ops : Array Oper) (E : List IV) : Bool :=
  (List.range ops.size).all fun j => match ops[j]? with
    | none => true
    | some y => selfOk ops y && y.after.toList.all (fun e => !Region.binds .any e || decide (e.on < j)) && (List.range j).all fun i => match ops[i]? with
        | none => true
        | some x => lateOk ops x y && (((ancs ops.toList []).getD j 0).testBit i || (x.apart ops y && pairOk P lo false ops E x y))


/-- The mark of a function whose drawn regions with one call let it write. -/
def soloMark : Nat := 777777
def isVCall : Op → Bool
  | .call c => match c.callee with | .value _ => true | _ => false
  | _ => false
def isRead : Op → Bool
  | .load .. | .slice .. => true
  | _ => false
/-- One call, and what reads comes before or behind it. -/
def soloC (ops : Array Oper) : Bool :=
  decide (ops.toList.countP (fun o => isVCall o.op) = 1) && (List.range ops.size).all fun i => match ops[i]? with
    | none => true
    | some x => !isVCall x.op || (List.range ops.size).all fun j => match ops[j]? with
      | none => true
      | some y => !isRead y.op || ((ancs ops.toList []).getD i 0).testBit j || ((ancs ops.toList []).getD j 0).testBit i

/-! ### Regions whose boxes have places of their own -/
mutual
def ivEq : IV → IV → Bool
  | .bool a, .bool b => a == b
  | .int k a, .int j b => decide (k = j) && a == b
  | .float k a, .float j b => decide (k = j) && a == b
  | .str a, .str b => a == b
  | .ptr a, .ptr b => decide (a = b)
  | .loc a b, .loc c d => a == c && b == d
  | .slice a n, .slice b m => decide (a = b) && n == m
  | .func f cs, .func g ds => f == g && ivsEq cs ds
  | .nilFunc, .nilFunc => true
  | .nilIface, .nilIface => true
  | .iface t v, .iface u w => t == u && ivEq v w
  | .agg cs, .agg ds => ivsEq cs ds
  | .tuple cs, .tuple ds => ivsEq cs ds
  | .fo k o, .fo j p => decide (k = j) && decide (o = p)
  | .any, .any => true
  | _, _ => false
def ivsEq : List IV → List IV → Bool
  | [], [] => true
  | a :: l, b :: m => ivEq a b && ivsEq l m
  | _, _ => false
end
/-- Is a heap another one's beginning? -/
def preG : GH → GH → Bool
  | [], _ => true
  | k :: G, j :: H => ivsEq k.cells j.cells && (k.elem == j.elem) && (k.mode == j.mode) && preG G H
  | _ :: _, [] => false
/-- A box that is not there yet. -/
def holeF : List IV := [.slice none 1]
def isHole : Option (List IV) → Bool
  | some [.slice none 1] => true
  | _ => false
def isOwn (lo : List Nat) (o : Oper) : Bool := isAlloc o.op && isLo lo o.dst
/-- A block that is not there yet. -/
def holeG : Blk := ⟨[.slice none 1], 0, 0⟩
def isHoleG (x : Option Blk) : Bool :=
  match x with
  | some k => k.elem == 0 && k.mode == 0 && (match k.cells with | [.slice none 1] => true | _ => false)
  | none => false
def gMark : Nat := 6000000
def isBS (o : Oper) : Bool := match o.op with | .buildSlice .. => true | _ => false
/-- Where a region's own slice stands (with another mark). -/
def slotG (lo : List Nat) (id : Nat) (ops : List Oper) (base : Nat) (o : Oper) : Option Nat :=
  if lo.contains (gMark + id) && isBS o then some (base + (ops.filter isBS).findIdx (fun x => x.dst == o.dst)) else none
def slotGN (lo : List Nat) (id : Nat) (ops : List Oper) : Nat := if lo.contains (gMark + id) then ops.countP isBS else 0
/-- The heap with places for what the region makes. -/
def padG (n : Nat) (G : GH) : GH := match n with
  | 0 => G
  | n + 1 => G ++ List.replicate (n + 1) holeG
theorem padG_eq (n : Nat) (G : GH) : padG n G = G ++ List.replicate n holeG := by
  cases n with
  | zero => exact (List.append_nil G).symm
  | succ n => rfl
/-- Where a region's own box stands. -/
def slotI (lo : List Nat) (ops : List Oper) (base : Nat) (o : Oper) : Option Nat :=
  if isOwn lo o then some (base + (ops.filter (isOwn lo)).findIdx (fun x => x.dst == o.dst)) else none
def slotN (lo : List Nat) (ops : List Oper) : Nat := ops.countP (isOwn lo)
/-- A box comes to its place. -/
def placeC (s : Nat) (cs : List IV) (F : List (List IV)) (G : GH) (k : IV → List (List IV) → GH → Option R) : Option R :=
  if isHole F[s]? then k (.loc s 0) (F.set s cs) G else none
/-- What only makes new memory. -/
def newOp : Op → Bool
  | .call c => match c.callee with | .value _ => true | _ => false
  | .makeSlice .. | .buildSlice .. => true
  | _ => false
/-- A load of a block that was there ahead of the region. -/
def oldA (gb : Nat) : Option GA → Bool
  | some a => Nat.blt a.b gb
  | none => true
def oldOk (gb : Nat) (op : Op) (env : List IV) : Bool :=
  match op with
  | .load _ x => match ev env x with
    | some (.ptr p) => oldA gb p
    | _ => true
  | .slice _ x _ _ _ => match ev env x with
    | some (.slice p _) => oldA gb p
    | _ => true
  | _ => true
/-- An operation of such a region: calls only make new memory, what is loaded was there ahead of it. -/
def opS (P : Program) (O : Ora R) (lo : List Nat) (sl : Oper → Option Nat) (gs : Oper → Option Nat) (gb : Nat) (o : Oper) (env : List IV) (F : List (List IV)) (G : GH) (k : IV → List (List IV) → GH → Option R) : Option R :=
  match sl o with
  | some s => match o.op with
    | .alloc t => match zeroT P t with
      | some v => placeC s v.cells F G k
      | none => none
    | .box _ x => match ev env x with
      | some v => placeC s v.cells F G k
      | none => none
    | _ => none
  | none => match gs o with
    | some s => if (isBS o && Nat.ble gb s) = true then opC P O lo false o env F [] (fun v _ G' => match v, G' with
      | .slice _ n, [b] => if isHoleG G[s]? then k (.slice (some ⟨s, 0⟩) n) F (G.set s b) else none
      | _, _ => none) else none
    | none => if newOp o.op then (if Nat.ble gb G.length = true then opC P O lo false o env F G (fun v F' G' => if preG G G' then k v F' G' else none) else none)
    else if oldOk gb o.op env = true then opC P O lo false o env F G k else none
def opsS (P : Program) (O : Ora R) (lo : List Nat) (sl : Oper → Option Nat) (gs : Oper → Option Nat) (gb : Nat) (all : Array Oper) : List Oper → List IV → List (List IV) → GH → (List IV → List (List IV) → GH → Option R) → Option R
  | [], env, F, G, k => k env F G
  | o :: os, env, F, G, k => match wantI all o env with
    | some true => opS P O lo sl gs gb o env F G fun v F G => opsS P O lo sl gs gb all os (putI env o.dst v) F G k
    | some false => opsS P O lo sl gs gb all os (putI env o.dst undefI) F G k
    | none => none
inductive Fs where
  | none | rf (b : Nat) | wf (b : Nat) | rg | ro | ng | wg | wh (s : Nat) | ap (a b : Nat) | bad
/-- Which blocks an append reads. -/
def apOf (E : List IV) (op : Op) : Option (Nat × Nat) :=
  match op with
  | .call c => match c.callee, c.args.toList with
    | .builtin .append, [.tmp t, .tmp u] => match tmpv E t, tmpv E u with
      | some (.slice (some a) _), some (.slice (some b) _) => some (a.b, b.b)
      | _, _ => none
    | _, _ => none
  | _ => none
def isSl : Op → Bool
  | .load .. | .slice .. => true
  | _ => false
def fpS (P : Program) (lo : List Nat) (sl : Oper → Option Nat) (gs : Oper → Option Nat) (E : List IV) (o : Oper) : Fs :=
  match sl o with
  | some s => .wf s
  | none => match gs o with
    | some s => .wh s
    | none => if newOp o.op then .ng else match fpOp P lo false E o with
    | .none => .none
    | .rf b => .rf b
    | .wf b => .wf b
    | .rg => if isSl o.op then .ro else .rg
    | .wg => match apOf E o.op with | some x => .ap x.1 x.2 | none => .wg
    | _ => .bad
def fpSW (P : Program) (lo : List Nat) (sl : Oper → Option Nat) (gs : Oper → Option Nat) (all : Array Oper) (E : List IV) (o : Oper) : Fs :=
  match wantI all o E with
  | some false => .none
  | _ => fpS P lo sl gs E o
def fsOk : Fs → Fs → Bool
  | .bad, _ | _, .bad => false
  | .none, _ | _, .none => true
  | .rf b, .wf b' => b != b'
  | .rf _, _ => true
  | .wf b, .rf b' | .wf b, .wf b' => b != b'
  | .wf _, _ => true
  | _, .rf _ | _, .wf _ => true
  | .rg, .rg | .rg, .ro | .rg, .ng => true
  | .ro, .rg | .ro, .ro | .ro, .ng | .ro, .wh _ => true
  | .ng, .ro => true
  | .wh _, .ro => true
  | .wh s, .wh s' => s != s'
  | .wh s, .ap a b | .ap a b, .wh s => s != a && s != b
  | _, _ => false
def drawN (P : Program) (lo : List Nat) (sl : Oper → Option Nat) (gs : Oper → Option Nat) (ops : Array Oper) (E : List IV) : Bool :=
  (List.range ops.size).all fun j => match ops[j]? with
    | none => true
    | some y => selfOk ops y && y.after.toList.all (fun e => !Region.binds .any e || decide (e.on < j)) && (List.range j).all fun i => match ops[i]? with
        | none => true
        | some x => lateOk ops x y && (((ancs ops.toList []).getD j 0).testBit i || (x.apart ops y && fsOk (fpSW P lo sl gs ops E x) (fpSW P lo sl gs ops E y)))
/-- The mark of such a region. -/
def nMark : Nat := 5000000

/-- How large a code is. -/
def weightC : Code → Nat
  | .region _ ops _ => ops.size
  | .seq a b => weightC a + weightC b
  | .cond _ a b => 1 + weightC a + weightC b
  | .block _ c => weightC c
  | .loop c => 5 + weightC c
  | _ => 0
def cutE (ea : List (Option Nat)) (b : Code) : Bool := decide (1 < ea.count none) && decide (2 < weightC b)
/-- A code's ends, but returns, as often as an evaluation comes to them. -/
def endsC : Code → List (Option Nat)
  | .skip => [none]
  | .region _ ops _ => if ops.toList.any (fun o => o.guard.isSome || match o.op with | .pick .. => true | _ => false) then [none, none] else [none]
  | .seq a b => if cutE (endsC a) b then (endsC a).filter (·.isSome) ++ endsC b else (endsC a).flatMap fun e => match e with
    | none => endsC b
    | e => [e]
  | .cond _ a b => endsC a ++ endsC b
  | .block id c => (endsC c).map fun e => if e = some id then none else e
  | .loop c => ((endsC c).filter (·.isSome)).eraseDups
  | .exit id => [some id]
  | _ => []
/-- Does what follows 'a' stand behind several of its ends? -/
def cutS (a b : Code) : Bool := cutE (endsC a) b

inductive Ex where
  | normal | exit (id : Nat) | ret

def loopN (body : List IV → List (List IV) → GH → (Ex → List IV → List (List IV) → GH → Option R) → Option R) :
    Nat → List IV → List (List IV) → GH → (Ex → List IV → List (List IV) → GH → Option R) → Option R
  | 0, _, _, _, _ => none
  | n + 1, env, F, G, k => body env F G fun e env F G => match e with
    | .normal => loopN body n env F G k
    | e => k e env F G

/-- A step that is not taken in an evaluation with an unknown bound: what follows stays one. -/
def stepN (n : Nat) (x : Option R) : Option R :=
  match n with
  | 0 => none
  | _ + 1 => x

/-- The first region of a code. -/
def headId : Code → Nat
  | .region id _ _ => id
  | .seq a _ => headId a
  | .block _ c => headId c
  | .loop c => headId c
  | .cond _ a _ => headId a
  | _ => 0
/-- What is dead is forgotten: the list of a function's locals may bear, for a loop and for a join, at each of its ends, which temporaries live: bits over 2 ^ 40. -/
def keepF : Nat → List IV → List IV
  | _, [] => []
  | m, v :: vs => (bif m % 2 == 1 then v else .any) :: keepF (m / 2) vs
def maskOf : List Nat → Nat → Option Nat
  | [], _ => none
  | e :: es, key => bif Nat.ble 1099511627776 e && e % 1099511627776 == key then some (e / 1099511627776) else maskOf es key
def keepK (lo : List Nat) (key : Nat) (env : List IV) : List IV :=
  match maskOf lo key with
  | some m => keepF m env
  | none => env
/-- Is anything told of what lives there? -/
def maskQ (lo : List Nat) (key : Nat) : Bool := (maskOf lo key).isSome
def exNum : Ex → Nat
  | .normal => 0
  | .ret => 1
  | .exit j => j + 2
def keepE (lo : List Nat) (h : Nat) (e : Ex) (env : List IV) : List IV := keepK lo (h + exNum e * 1048576) env
/-- Is a value known where the locals are but these? -/
def locOk (n : Nat) : IV → Bool
  | .loc b _ => decide (b < n)
  | v => noLoc v
/-- At a round's end the round's own variables are dropped, if nothing leads to them. -/
def dropF (n : Nat) (env : List IV) (F : List (List IV)) : List (List IV) :=
  bif Nat.ble F.length n then F else bif env.all (locOk n) && (F.take n).all (fun cs => cs.all (locOk n)) then F.take n else F
/-- What follows a round or a join: what is dead is forgotten, its own variables are dropped. -/
def kpD (lo : List Nat) (h n : Nat) (k : Ex → List IV → List (List IV) → GH → Option R) : Ex → List IV → List (List IV) → GH → Option R := fun e env F G => k e (keepE lo h e env) (dropF n (keepE lo h e env) F) G

def codeC (P : Program) (O : Ora R) (lo : List Nat) (fuel : Nat) :
    Code → List IV → List (List IV) → GH → (Ex → List IV → List (List IV) → GH → Option R) → Option R
  | .skip, env, F, G, k => k .normal env F G
  | .region id ops draw, env, F, G, k =>
    if draw then
      (if lo.contains (nMark + id) = true then
        opsS P O lo (slotI lo ops.toList F.length) (slotG lo id ops.toList G.length) G.length ops ops.toList env (F ++ List.replicate (slotN lo ops.toList) holeF) (padG (slotGN lo id ops.toList) G) fun env' F' G' => if drawN P lo (slotI lo ops.toList F.length) (slotG lo id ops.toList G.length) ops env' = true then k .normal env' F' G' else none
       else if (drawOk P ops && !(lo.contains soloMark && soloC ops)) = true then
        opsC P O lo true ops (ops.toList.take (quietN ops.toList)) env F G fun env F G =>
          opsC P O lo false ops (ops.toList.drop (quietN ops.toList)) env F G fun env F G => k .normal env F G
       else if drawS ops then
        match ops.toList[loneN ops.toList]? with
        | some ⟨none, .store t x v, _, _, _, _⟩ => match ev env x with
          | some (.loc b i) => opsC P O lo true ops (ops.toList.take (loneN ops.toList)) env (F.set b []) G fun env _ _ => match ev env x, ev env v with
            | some (.loc b' i'), some v => if b' = b ∧ i' = i then storeC P t (.loc b i) v F G fun F' G' =>
                opsC P O lo true ops (ops.toList.drop (loneN ops.toList + 1)) env (F.set b []) G fun env _ _ => k .normal env F' G'
              else none
            | _, _ => none
          | _ => none
        | _ => none
       else opsC P O lo false ops ops.toList env F G fun env F G => if drawD P lo ops env = true then k .normal env F G else none)
    else opsC P O lo false ops ops.toList env F G fun env F G => k .normal env F G
  | .seq a b, env, F, G, k => if cutS a b then
      (bif maskQ lo (4 * headId b + 2) then stepN fuel (codeC P O lo fuel a (keepK lo (4 * headId b + 2) env) F G (kpD lo (4 * headId b + 3) F.length fun e env F G => match e with
        | .normal => codeC P O lo fuel b env F G k
        | e => k e env F G))
      else stepN fuel (codeC P O lo fuel a env F G fun e env F G => match e with
        | .normal => codeC P O lo fuel b env F G k
        | e => k e env F G))
    else codeC P O lo fuel a env F G fun e env F G => match e with
      | .normal => codeC P O lo fuel b env F G k
      | e => k e env F G
  | .cond c a b, env, F, G, k => match ev env c with
    | some (.bool t) => cond t (codeC P O lo fuel a env F G k) (codeC P O lo fuel b env F G k)
    | _ => none
  | .block id c, env, F, G, k => codeC P O lo fuel c env F G fun e env F G => match e with
    | .exit j => if j = id then k .normal env F G else k (.exit j) env F G
    | e => k e env F G
  | .loop c, env, F, G, k => bif maskQ lo (4 * headId c) then loopN (fun env F G k => codeC P O lo fuel c env F G (kpD lo (4 * headId c) F.length k)) fuel (keepK lo (4 * headId c) env) F G k
    else loopN (fun env F G k => codeC P O lo fuel c env F G k) fuel env F G k
  | .exit id, env, F, G, k => k (.exit id) env F G
  | .ret, env, F, G, k => k .ret env F G
  | _, _, _, _, _ => none

def resL (P : Program) (env : List IV) (F : List (List IV)) (G : GH) : List ResultVar → (List IV → Option R) → Option R
  | [], k => k []
  | .tmp t :: rs, k => match tmpv env t with
    | some v => resL P env F G rs fun vs => k (v :: vs)
    | none => none
  | .cell a t :: rs, k => match tmpv env a with
    | some x => loadC P t x F G fun v => resL P env F G rs fun vs => k (v :: vs)
    | none => none

def resC (P : Program) (fn : Func) (env : List IV) (F : List (List IV)) (G : GH) (k : IV → GH → Option R) : Option R :=
  resL P env F G fn.results.toList fun vs => match vs with
    | [v] => if noLoc v then k v G else none
    | vs => if noLocs vs then k (.tuple vs) G else none

/-- The bytes of a slice. -/
def bytesS (G : GH) (a : Option GA) (n : Nat) : Option (List UInt8) :=
  match a with
  | some a => (grd G a n).bind asBytes
  | none => if n = 0 then some [] else none
/-- A function without a Go body that reads a slice, by its name. -/
def externS (fn : Func) (args : List IV) (G : GH) (k : IV → GH → Option R) : Option R :=
  if fn.name = "internal/bytealg.IndexByte" then match args with
    | [.slice a n, .int .u8 c] => match bytesS G a n with
      | some l => k (.int .i64 (Go.Lib.indexByte l c.toNat.toUInt8)) G
      | none => none
    | _ => none
  else none
/-- A function without a Go body, by its name. -/
def externC (fn : Func) (args : List IV) (G : GH) (k : IV → GH → Option R) : Option R :=
  if fn.origin = "" then
    if fn.name = "math.Float64bits" then match args with | [.float .f64 b] => k (.int .u64 b) G | _ => none
    else if fn.name = "math.Float64frombits" then match args with | [.int .u64 n] => k (.float .f64 n.toNat) G | _ => none
    else if fn.name = "math.Float32bits" then match args with | [.float .f32 b] => k (.int .u32 b) G | _ => none
    else if fn.name = "math.Float32frombits" then match args with | [.int .u32 n] => k (.float .f32 n.toNat) G | _ => none
    else if fn.name = "math/bits.Add64" then match args with
      | [.int _ x, .int _ y, .int _ c] => if c.toNat > 1 then none else k (.tuple [.int .u64 (Int.ofNat ((x.toNat + y.toNat + c.toNat) % 2 ^ 64)), .int .u64 (Int.ofNat ((x.toNat + y.toNat + c.toNat) / 2 ^ 64))]) G
      | _ => none
    else if fn.name = "math/bits.Sub64" then match args with
      | [.int _ x, .int _ y, .int _ c] => if c.toNat > 1 then none else k (.tuple [.int .u64 (Int.ofNat ((x.toNat + 2 ^ 64 - y.toNat - c.toNat) % 2 ^ 64)), .int .u64 (Int.ofNat (if x.toNat < y.toNat + c.toNat then 1 else 0))]) G
      | _ => none
    else if fn.name = "math.archFloor" then match args with
      | [.float .f64 x] => match FloatKind.f64.decode x with
        | .nan _ _ => none
        | d => k (.float .f64 (FloatKind.f64.encode (d.integral .down))) G
      | _ => none
    else if fn.name = "internal/bytealg.IndexByteString" then match args with
      | [.str s, .int .u8 c] => k (.int .i64 (Go.Lib.indexByte s c.toNat.toUInt8)) G
      | _ => none
    else if fn.name = "internal/bytealg.CountString" then match args with
      | [.str s, .int .u8 c] => k (.int .i64 (Go.Lib.countByte s c.toNat.toUInt8 : Nat)) G
      | _ => none
    else externS fn args G k
  else none

/-- A call: the body, from the arguments. -/
def bodyC (P : Program) (O : Ora R) (lo : List Nat) (fuel : Nat) (fn : Func) (args : List IV) (G : GH) (k : IV → GH → Option R) : Option R :=
  match fn.body with
  | none => externC fn args G k
  | some c => codeC P O lo fuel c (args ++ List.replicate (fn.ntmps - args.length) undefI) [] G fun e env F G =>
    match e with
    | .exit _ => none
    | _ => resC P fn env F G k

end
end Go.LI

namespace Go.LI
open Go
section
variable {R : Type}
/-- The mark of a function that is run in an empty heap: it neither takes nor gives addresses. -/
def pureMark : Nat := 999999
/-- All calls by the interpreter, so deep. -/
def runC (P : Program) (lo : Nat → List Nat) (fuel : Nat) : Nat → Ora R
  | 0, _, _, _, _ => none
  | n + 1, f, args, G, k => match P.funcs[f]? with
    | some fn => if (lo f).contains pureMark then (if isFlats args then bodyC P (runC P lo fuel n) (lo f) fuel fn args [] (fun v _ => if isFlat v then k v G else none) else none)
      else bodyC P (runC P lo fuel n) (lo f) fuel fn args G k
    | none => none
end
end Go.LI

/-! An operation's outcome does not hang on what follows. -/
namespace Go.LI
open Go

section
variable {R : Type} {P : Program}

theorem ldLeaf_param (G : GH) (a : GA) (l : Leaf) (k : IV → Option R) : ldLeaf G a l k = (ldLeaf G a l some).bind k := by
  cases l <;> simp only [ldLeaf] <;> split <;> rfl
theorem ldCells_param {R : Type} (G : GH) (a : GA) (ls : List Leaf) : ∀ (i : Nat) (k : List IV → Option R), ldCells G a ls i k = (ldCells G a ls i some).bind k := by
  suffices H : ∀ (R : Type) (i : Nat) (k : List IV → Option R), ldCells G a ls i k = (ldCells G a ls i some).bind k from H R
  induction ls with
  | nil => intro R i k; rfl
  | cons l ls ih =>
    intro R i k
    simp only [ldCells]
    rw [ldLeaf_param, ldLeaf_param G (a.add i) l (fun v => ldCells G a ls (i + 1) fun vs => some (v :: vs)), Option.bind_assoc]
    congr 1
    funext v
    rw [ih _ (i + 1) (fun vs => k (v :: vs)), ih _ (i + 1) (fun vs => some (v :: vs)), Option.bind_assoc]
    rfl

theorem cond_bind {α β : Type} (c : Bool) (x y : Option α) (k : α → Option β) : (cond c x y).bind k = cond c (x.bind k) (y.bind k) := by cases c <;> rfl
theorem loadC_param (t : TypeId) (x : IV) (F : List (List IV)) (G : GH) (k : IV → Option R) : loadC P t x F G k = (loadC P t x F G some).bind k := by
  unfold loadC
  split
  · split
    · split
      · rw [ldCells_param, ldCells_param (k := fun vs => some (IV.agg vs)), Option.bind_assoc]; rfl
      · rfl
    · split
      · rw [ldLeaf_param]
      · rfl
  · split
    · split <;> rfl
    · rfl
  · rfl

theorem storeC_param (t : TypeId) (x v : IV) (F : List (List IV)) (G : GH) (k : List (List IV) → GH → Option R) : storeC P t x v F G k = (storeC P t x v F G fun F G => some (F, G)).bind fun x => k x.1 x.2 := by
  unfold storeC
  split
  · split
    · split
      · split <;> rfl
      · rfl
    · split
      · split <;> rfl
      · rfl
    · rfl
  · rfl

theorem binC_param (op : BinOp) (t : TypeId) (x y : IV) (k : IV → Option R) : binC P op t x y k = (binC P op t x y some).bind k := by
  unfold binC
  repeat' first
    | rfl
    | rw [cond_bind]
    | split

theorem soft2C_param (op : BinOp) (t : TypeId) (x y : IV) (k : IV → Option R) : soft2C P op t x y k = (soft2C P op t x y some).bind k := by
  unfold soft2C
  split
  · split
    · split <;> rfl
    · rfl
  · split <;> rfl
  · split <;> rfl
  · exact binC_param op t x y k
theorem softC_param (lo : List Nat) (op : BinOp) (t : TypeId) (x y : IV) (k : IV → Option R) : softC P lo op t x y k = (softC P lo op t x y some).bind k := by
  unfold softC
  split
  · exact soft2C_param op t x y k
  · split <;> rfl

theorem unC_param (op : UnOp) (x : IV) (k : IV → Option R) : unC op x k = (unC op x some).bind k := by
  unfold unC
  split <;> rfl

theorem convC_param (s d : TypeId) (x : IV) (G : GH) (k : IV → GH → Option R) : convC P s d x G k = (convC P s d x G fun v G => some (v, G)).bind fun x => k x.1 x.2 := by
  unfold convC
  repeat' first
    | rfl
    | (rw [cond_bind]; rfl)
    | split

theorem minmaxC_param (mx : Bool) : ∀ (ys : List IV) (x : IV) (k : IV → Option R), minmaxC mx ys x k = (minmaxC mx ys x some).bind k
  | [], x, k => rfl
  | y :: ys, x, k => by
    simp only [minmaxC]
    split
    · exact minmaxC_param mx ys _ k
    · split
      · exact minmaxC_param mx ys _ k
      · rfl
    · rfl

theorem builtinC_param (b : Builtin) (ts : Array TypeId) (args : List IV) (G : GH) (k : IV → GH → Option R) : builtinC P b ts args G k = (builtinC P b ts args G fun v G => some (v, G)).bind fun x => k x.1 x.2 := by
  unfold builtinC
  split
  · repeat' first
      | rfl
      | split
  · split
    · rw [minmaxC_param, minmaxC_param (k := fun v => some (v, G)), Option.bind_assoc]; rfl
    · rfl
  · split
    · rw [minmaxC_param, minmaxC_param (k := fun v => some (v, G)), Option.bind_assoc]; rfl
    · rfl
  · repeat' first
      | rfl
      | split
  · repeat' first
      | rfl
      | split
  · rfl

theorem allocC_param (lo : List Nat) (d : Option Tmp) (t : TypeId) (cs : List IV) (F : List (List IV)) (G : GH) (k : IV → List (List IV) → GH → Option R) :
    allocC lo d t cs F G k = (allocC lo d t cs F G fun v F G => some (v, F, G)).bind fun x => k x.1 x.2.1 x.2.2 := by
  unfold allocC
  split
  · rfl
  · split <;> rfl

/-- A call of a Go function? -/
def isCall : Op → Bool
  | .call c => match c.callee with
    | .value _ => true
    | _ => false
  | _ => false

theorem opC_param {O : Ora R} {O' : Ora (IV × List (List IV) × GH)} {lo : List Nat} {sand : Bool} {o : Oper} (env : List IV) (F : List (List IV)) (G : GH) (k : IV → List (List IV) → GH → Option R) (hc : isCall o.op = false) :
    opC P O lo sand o env F G k = (opC P O' lo sand o env F G fun v F G => some (v, F, G)).bind fun x => k x.1 x.2.1 x.2.2 := by
  unfold opC
  split
  · split <;> rfl
  · split <;> rfl
  · split
    · rw [cond_bind]; rfl
    · rfl
  · split
    · rw [allocC_param]
    · rfl
  · split
    · rw [allocC_param]
    · rfl
  · repeat' first
      | rfl
      | split
  · repeat' first
      | rfl
      | split
  · split
    · rw [loadC_param, loadC_param (k := fun v => some (v, F, G)), Option.bind_assoc]; rfl
    · rfl
  · split
    · rw [storeC_param, storeC_param (k := fun F G => some (undefI, F, G)), Option.bind_assoc]; rfl
    · rfl
  · repeat' first
      | rfl
      | split
  · split
    · split
      · rw [softC_param, softC_param (k := fun v => some (v, F, G)), Option.bind_assoc]; rfl
      · rw [binC_param, binC_param (k := fun v => some (v, F, G)), Option.bind_assoc]; rfl
    · rfl
  · split
    · rw [unC_param, unC_param (k := fun v => some (v, F, G)), Option.bind_assoc]; rfl
    · rfl
  · split
    · rw [convC_param, convC_param (k := fun v G => some (v, F, G)), Option.bind_assoc]; rfl
    · rfl
  · repeat' first
      | rfl
      | split
  · repeat' first
      | rfl
      | split
  · repeat' first
      | rfl
      | rw [cond_bind]
      | split
  · repeat' first
      | rfl
      | rw [cond_bind]
      | split
  · repeat' first
      | rfl
      | split
  · repeat' first
      | rfl
      | split
  · repeat' first
      | rfl
      | split
  · repeat' first
      | rfl
      | rw [cond_bind]
      | split
  · repeat' first
      | rfl
      | split
  · rename_i c ho
    rw [ho] at hc
    simp only [isCall] at hc
    split
    · split
      · rw [builtinC_param, builtinC_param (k := fun v G => some (v, F, G)), Option.bind_assoc]; rfl
      · rename_i hcc; rw [hcc] at hc; cases hc
      · rfl
    · rfl
  · rfl
theorem convC_qparam {s d : TypeId} {x : Operand} {v : IV} {G : GH} (hm : convMakes P (.convert s d x) = false) (k : IV → GH → Option R) : convC P s d v G k = (convC P s d v G fun v _ => some v).bind fun v => k v G := by
  simp only [convMakes] at hm
  unfold convC
  split
  · rfl
  · rfl
  · split <;> rfl
  · split <;> rfl
  · rfl
  · rename_i hd; rw [hd] at hm; cases hm
  · repeat' first
      | rfl
      | split
  · rename_i hd; rw [hd] at hm; cases hm
  · rfl

def quietB : Builtin → Bool
  | .len | .max | .min => true
  | _ => false
theorem builtinC_qparam {b : Builtin} {ts : Array TypeId} {args : List IV} {G : GH} (hb : quietB b = true) (k : IV → GH → Option R) : builtinC P b ts args G k = (builtinC P b ts args G fun v _ => some v).bind fun v => k v G := by
  unfold builtinC
  split
  · repeat' first
      | rfl
      | split
  · split
    · rw [minmaxC_param]
    · rfl
  · split
    · rw [minmaxC_param]
    · rfl
  · cases hb
  · cases hb
  · rfl

theorem opC_qparam {O : Ora R} {O' : Ora IV} {lo : List Nat} {sand : Bool} {o : Oper} (env : List IV) (F : List (List IV)) (G : GH) (k : IV → List (List IV) → GH → Option R) (hc : isCall o.op = false) (hq : quietOp o.op = true) (hm : convMakes P o.op = false) :
    opC P O lo sand o env F G k = (opC P O' lo sand o env F G fun v _ _ => some v).bind fun v => k v F G := by
  unfold opC
  split
  · split <;> rfl
  · split <;> rfl
  · split
    · rw [cond_bind]; rfl
    · rfl
  · rename_i ho; rw [ho] at hq; cases hq
  · rename_i ho; rw [ho] at hq; cases hq
  · repeat' first
      | rfl
      | split
  · rename_i ho; rw [ho] at hq; cases hq
  · split
    · rw [loadC_param]
    · rfl
  · rename_i ho; rw [ho] at hq; cases hq
  · repeat' first
      | rfl
      | split
  · split
    · split
      · rw [softC_param]
      · rw [binC_param]
    · rfl
  · split
    · rw [unC_param]
    · rfl
  · rename_i s d x ho
    rw [ho] at hm
    split
    · exact convC_qparam hm _
    · rfl
  · repeat' first
      | rfl
      | split
  · repeat' first
      | rfl
      | split
  · rename_i ho; rw [ho] at hq; cases hq
  · repeat' first
      | rfl
      | rw [cond_bind]
      | split
  · repeat' first
      | rfl
      | split
  · repeat' first
      | rfl
      | split
  · repeat' first
      | rfl
      | split
  · repeat' first
      | rfl
      | rw [cond_bind]
      | split
  · repeat' first
      | rfl
      | split
  · rename_i c ho
    rw [ho] at hc
    simp only [isCall] at hc
    split
    · split
      · rename_i b hcc
        rw [ho] at hq
        simp only [quietOp, hcc] at hq
        exact builtinC_qparam (by cases b <;> first | rfl | cases hq) _
      · rename_i hcc; rw [hcc] at hc; cases hc
      · rfl
    · rfl
  · rfl
end
end Go.LI

/-! What comes back from a call is what came back. -/
namespace Go.LI
open Go

section
variable {R : Type} {P : Program}

theorem ivasInt_out {kd : IntKind} {v : IV} {n : Int} (h : ivInt kd v = some n) : v = .int kd n := by
  cases v with
  | int k m =>
    simp only [ivInt] at h
    by_cases hk : k = kd
    · subst hk; simp at h; rw [h]
    · rw [show (k == kd) = false by simpa using hk] at h; cases h
  | _ => cases h
theorem ivasFloat_out {kd : FloatKind} {v : IV} {n : Nat} (h : ivFloat kd v = some n) : v = .float kd n := by
  cases v with
  | float k m =>
    simp only [ivFloat] at h
    by_cases hk : k = kd
    · subst hk; simp at h; rw [h]
    · rw [show (k == kd) = false by simpa using hk] at h; cases h
  | _ => cases h
theorem ivasAgg_out {n : Nat} {v : IV} {cs : List IV} (h : ivAgg n v = some cs) : v = .agg cs ∧ cs.length = n := by
  cases v with
  | agg k =>
    simp only [ivAgg] at h
    by_cases hk : k.length = n
    · rw [show (k.length == n) = true by simpa using hk] at h; injection h with h; subst h; exact ⟨rfl, hk⟩
    · rw [show (k.length == n) = false by simpa using hk] at h; cases h
  | _ => cases h
theorem ivasTup_out {n : Nat} {v : IV} {cs : List IV} (h : ivTup n v = some cs) : v = .tuple cs ∧ cs.length = n := by
  cases v with
  | tuple k =>
    simp only [ivTup] at h
    by_cases hk : k.length = n
    · rw [show (k.length == n) = true by simpa using hk] at h; injection h with h; subst h; exact ⟨rfl, hk⟩
    · rw [show (k.length == n) = false by simpa using hk] at h; cases h
  | _ => cases h

theorem castL_out {l : Leaf} {v : IV} {k : IV → Option R} {r : R} (h : castL l v k = some r) : k v = some r := by
  cases l <;> simp only [castL] at h
  case raw => exact h
  case int => split at h; (rename_i n hn; rw [ivasInt_out hn]; exact h); cases h
  case float => split at h; (rename_i n hn; rw [ivasFloat_out hn]; exact h); cases h
  case bool => cases v <;> first | (cases h; done) | exact h
  case str => cases v <;> first | (cases h; done) | exact h
  case ptr => cases v <;> first | (cases h; done) | exact h
  case slice => cases v <;> first | (cases h; done) | exact h

theorem castCells_out : ∀ {ls : List Leaf} {cs : List IV} {i : Nat} {k : List IV → Option R} {r : R}, castCells ls cs i k = some r → i + ls.length = cs.length → k (cs.drop i) = some r
  | [], cs, i, k, r, h, hl => by rw [List.drop_of_length_le (by simp at hl; omega)]; exact h
  | l :: ls, cs, i, k, r, h, hl => by
    have h1 := castL_out h
    have h2 := castCells_out h1 (by simp at hl; omega)
    have hlt : i < cs.length := by simp at hl; omega
    rw [List.drop_eq_getElem_cons hlt]
    simpa [List.getD, hlt] using h2

theorem cast1_out {t : TypeId} {v : IV} {k : IV → Option R} {r : R} (h : cast1 P t v k = some r) : k v = some r := by
  unfold cast1 at h
  split at h
  · split at h
    · rename_i hl
      split at h
      · rename_i cs hcs
        obtain ⟨rfl, hc⟩ := ivasAgg_out hcs
        have := castCells_out h (by rw [hl, hc]; simp)
        simpa using this
      · cases h
    · cases h
  · split at h
    · exact castL_out h
    · exact h

theorem castTs_out : ∀ {ls : List TypeId} {cs : List IV} {i : Nat} {k : List IV → Option R} {r : R}, castTs P ls cs i k = some r → i + ls.length = cs.length → k (cs.drop i) = some r
  | [], cs, i, k, r, h, hl => by rw [List.drop_of_length_le (by simp at hl; omega)]; exact h
  | l :: ls, cs, i, k, r, h, hl => by
    have h1 := cast1_out h
    have h2 := castTs_out h1 (by simp at hl; omega)
    have hlt : i < cs.length := by simp at hl; omega
    rw [List.drop_eq_getElem_cons hlt]
    simpa [List.getD, hlt] using h2

theorem castT_out {t : TypeId} {v : IV} {k : IV → Option R} {r : R} (h : castT P t v k = some r) : k v = some r := by
  unfold castT at h
  split at h
  · split at h
    · rename_i cs hcs
      obtain ⟨rfl, hc⟩ := ivasTup_out hcs
      have := castTs_out h (by rw [← hc]; simp)
      simpa using this
    · cases h
  · exact cast1_out h

end
end Go.LI

/-! How the interpreter's values and memory stand to the model's. -/
namespace Go.LI
open Go Go.RowKit

structure Ent where
  blk : Nat
  off : Nat
  size : Nat
  esz : Nat
  rw : Bool

structure Map where
  g : Nat → Option Ent
  f : Nat → Option Nat

inductive VRel (m : Map) : IV → Value → Prop
  | bool (b) : VRel m (.bool b) (.bool b)
  | int (k n) : VRel m (.int k n) (.int k n)
  | float (k b) : VRel m (.float k b) (.float k b)
  | str (s : List UInt8) : VRel m (.str s) (.string ⟨⟨s⟩⟩)
  | ptrNil : VRel m (.ptr none) (.pointer none)
  | ptr (a : GA) (e : Ent) (h : m.g a.b = some e) : VRel m (.ptr (some a)) (.pointer (some ⟨e.blk, e.off + a.o, none⟩))
  | loc (k o b : Nat) (h : m.f k = some b) : VRel m (.loc k o) (.pointer (some ⟨b, o, none⟩))
  | sliceNil : VRel m (.slice none 0) (.slice none 0 0)
  | slice (a : GA) (e : Ent) (n c : Nat) (h : m.g a.b = some e) (hn : n ≤ c) (hc : e.rw = true → a.o + c * e.esz ≤ e.size) :
      VRel m (.slice (some a) n) (.slice (some ⟨e.blk, e.off + a.o, none⟩) n c)
  | sliceE (a : GA) (a' : Addr) : VRel m (.slice (some a) 0) (.slice (some a') 0 0)
  | func (f : Nat) (cs : List IV) (cs' : Array Value) (hs : cs.length = cs'.size) (h : ∀ (i : Nat) (iv : IV) (v : Value), cs[i]? = some iv → cs'[i]? = some v → VRel m iv v) :
      VRel m (.func f cs) (.func (.func f) #[] cs')
  | nilFunc : VRel m .nilFunc .nilFunc
  | nilIface : VRel m .nilIface .nilIface
  | iface (t iv v) (h : VRel m iv v) : VRel m (.iface t iv) (.iface t v)
  | agg (cs : List IV) (cs' : Array Value) (hs : cs.length = cs'.size) (h : ∀ (i : Nat) (iv : IV) (v : Value), cs[i]? = some iv → cs'[i]? = some v → VRel m iv v) :
      VRel m (.agg cs) (.agg cs')
  | tuple (cs : List IV) (cs' : Array Value) (hs : cs.length = cs'.size) (h : ∀ (i : Nat) (iv : IV) (v : Value), cs[i]? = some iv → cs'[i]? = some v → VRel m iv v) :
      VRel m (.tuple cs) (.tuple cs')
  | fo (k : FloatKind) (o : Option Nat) (b : Nat) (h : ∀ r, o = some r → b = r) (hn : o = none → (k.format.read b).isNaN = true) : VRel m (.fo k o) (.float k b)

/-- Lists of values. -/
def LRel (m : Map) (cs : List IV) (cs' : List Value) : Prop := cs.length = cs'.length ∧ ∀ (i : Nat) (iv : IV) (v : Value), cs[i]? = some iv → cs'[i]? = some v → VRel m iv v

def Map.le (m m' : Map) : Prop := (∀ b e, m.g b = some e → m'.g b = some e) ∧ (∀ k b, m.f k = some b → m'.f k = some b)
def Map.noF (m : Map) : Map := { m with f := fun _ => none }

theorem Map.le_refl (m : Map) : m.le m := ⟨fun _ _ h => h, fun _ _ h => h⟩
theorem Map.le_trans {a b c : Map} (h : a.le b) (k : b.le c) : a.le c := ⟨fun _ _ x => k.1 _ _ (h.1 _ _ x), fun _ _ x => k.2 _ _ (h.2 _ _ x)⟩
theorem Map.noF_le (m : Map) : m.noF.le m := ⟨fun _ _ h => h, fun _ _ h => by cases h⟩
theorem Map.noF_mono {m m' : Map} (h : m.le m') : m.noF.le m'.noF := ⟨h.1, fun _ _ h => by cases h⟩

theorem VRel.mono {m m' : Map} (hm : m.le m') {iv : IV} {v : Value} (h : VRel m iv v) : VRel m' iv v := by
  induction h with
  | bool => exact .bool _
  | int => exact .int _ _
  | float => exact .float _ _
  | str => exact .str _
  | ptrNil => exact .ptrNil
  | ptr a e h => exact .ptr a e (hm.1 _ _ h)
  | loc k o b h => exact .loc k o b (hm.2 _ _ h)
  | sliceNil => exact .sliceNil
  | slice a e n c h hn hc => exact .slice a e n c (hm.1 _ _ h) hn hc
  | sliceE => exact .sliceE _ _
  | func f cs cs' hs _ ih => exact .func f cs cs' hs ih
  | nilFunc => exact .nilFunc
  | nilIface => exact .nilIface
  | iface t iv v _ ih => exact .iface t iv v ih
  | agg cs cs' hs _ ih => exact .agg cs cs' hs ih
  | tuple cs cs' hs _ ih => exact .tuple cs cs' hs ih
  | fo k o b h hn => exact .fo k o b h hn

theorem LRel.mono {m m' : Map} (hm : m.le m') {cs : List IV} {cs' : List Value} (h : LRel m cs cs') : LRel m' cs cs' :=
  ⟨h.1, fun i iv v a b => (h.2 i iv v a b).mono hm⟩

/-- A value without local addresses stands so without the locals. -/
theorem VRel.noF {m : Map} {iv : IV} {v : Value} (h : VRel m iv v) : noLoc iv = true → VRel m.noF iv v := by
  induction h with
  | bool => intro _; exact .bool _
  | int => intro _; exact .int _ _
  | float => intro _; exact .float _ _
  | str => intro _; exact .str _
  | ptrNil => intro _; exact .ptrNil
  | ptr a e h => intro _; exact .ptr a e h
  | loc k o b h => intro hn; simp [noLoc] at hn
  | sliceNil => intro _; exact .sliceNil
  | slice a e n c h hn hc => intro _; exact .slice a e n c h hn hc
  | sliceE => intro _; exact .sliceE _ _
  | func f cs cs' hs _ ih => intro hn; exact .func f cs cs' hs fun i iv v a b => ih i iv v a b (noLocs_get (by simpa [noLoc] using hn) a)
  | nilFunc => intro _; exact .nilFunc
  | nilIface => intro _; exact .nilIface
  | iface t iv v _ ih => intro hn; exact .iface t iv v (ih (by simpa [noLoc] using hn))
  | agg cs cs' hs _ ih => intro hn; exact .agg cs cs' hs fun i iv v a b => ih i iv v a b (noLocs_get (by simpa [noLoc] using hn) a)
  | tuple cs cs' hs _ ih => intro hn; exact .tuple cs cs' hs fun i iv v a b => ih i iv v a b (noLocs_get (by simpa [noLoc] using hn) a)
  | fo k o b h hn => intro _; exact .fo k o b h hn
where
  noLocs_get : ∀ {cs : List IV} {i : Nat} {iv : IV}, noLocs cs = true → cs[i]? = some iv → noLoc iv = true
    | [], _, _, _, h => by simp at h
    | c :: cs, 0, iv, hn, h => by simp [noLocs] at hn; simp at h; rw [← h]; exact hn.1
    | c :: cs, i + 1, iv, hn, h => by simp [noLocs] at hn; exact noLocs_get hn.2 (by simpa using h)


/-! ### Memory -/
/-- What can be read: mapped memory holds related values. -/
structure MemOk (P : Program) (m : Map) (F : List (List IV)) (G : GH) (w : World) : Prop where
  g : ∀ (a : GA) (iv : IV) (e : Ent), gld G a = some iv → m.g a.b = some e → e.blk < w.heap.size ∧ ∃ v, w.cell? ⟨e.blk, e.off + a.o, none⟩ = some v ∧ VRel m iv v
  z : ∀ (b : Nat) (k : Blk) (e : Ent), G[b]? = some k → k.mode ≤ 1 → m.g b = some e → e.rw = true → e.esz = P.cellsOf k.elem
  f : ∀ (i : Nat) (cs : List IV) (b : Nat), F[i]? = some cs → m.f i = some b → b < w.heap.size ∧ ∀ (o : Nat) (iv : IV), cs[o]? = some iv → ∃ v, w.cell? ⟨b, o, none⟩ = some v ∧ VRel m iv v

/-- What must not be written lies beyond the cells. -/
def FrOk (n : Nat) (fr : Nat × Nat) : Prop := fr.1 = fr.2 ∨ n ≤ fr.1
theorem FrOk.no {n : Nat} {fr : Nat × Nat} (h : FrOk n fr) : ∀ o, o < n → ¬ (fr.1 ≤ o ∧ o < fr.2) := by
  intro o ho hh
  rcases h with h | h <;> omega
/-- A block of the shared heap stands at a row of the model's. -/
structure GB (P : Program) (B K : Nat → Prop) (m : Map) (k : Blk) (e : Ent) (w : World) (c : Array Value) (t : TypeId) (fr : Nat × Nat) : Prop where
  row : w.heap[e.blk]? = some (.cells c t fr)
  fits : e.off + k.cells.length ≤ c.size
  cells : ∀ (i : Nat) (iv : IV), k.cells[i]? = some iv → ∃ v, c[e.off + i]? = some v ∧ VRel m.noF iv v ∧ v.oneCell' = true
  ro : k.mode = 0 → B e.blk
  esz : e.rw = true → e.esz = P.cellsOf k.elem
  rw : k.mode = 1 → ¬ K e.blk ∧ t = k.elem ∧ e.rw = true ∧ c.size = e.off + e.size ∧ FrOk c.size fr

structure FB (K : Nat → Prop) (m : Map) (cs : List IV) (b : Nat) (w : World) (c : Array Value) (t : TypeId) : Prop where
  row : w.heap[b]? = some (.cells c t (0, 0))
  size : c.size = cs.length
  cells : ∀ (i : Nat) (iv : IV), cs[i]? = some iv → ∃ v, c[i]? = some v ∧ VRel m iv v
  own : ¬ K b

structure HRel (P : Program) (B K : Nat → Prop) (w0 : World) (m : Map) (F : List (List IV)) (G : GH) (w : World) : Prop where
  bk : ∀ b, B b → K b
  frame : ∀ b, K b → b < w0.heap.size ∧ w.heap[b]? = w0.heap[b]?
  os : w.os = w0.os
  tape : w.tape = w0.tape
  output : w.output = w0.output
  size : w0.heap.size ≤ w.heap.size
  gdom : ∀ b e, m.g b = some e → b < G.length
  fdom : ∀ k b, m.f k = some b → k < F.length
  gblk : ∀ (b : Nat) (k : Blk) (e : Ent), G[b]? = some k → k.mode ≤ 1 → m.g b = some e → ∃ c t fr, GB P B K m k e w c t fr
  fblk : ∀ (i : Nat) (cs : List IV) (b : Nat), F[i]? = some cs → m.f i = some b → ∃ c t, FB K m cs b w c t
  ginj : ∀ (b1 b2 : Nat) (k1 k2 : Blk) (e1 e2 : Ent), G[b1]? = some k1 → G[b2]? = some k2 → k1.mode = 1 → k2.mode = 1 → m.g b1 = some e1 → m.g b2 = some e2 → b1 ≠ b2 → e1.blk ≠ e2.blk
  gf : ∀ (b i : Nat) (k : Blk) (e : Ent) (r : Nat), G[b]? = some k → k.mode = 1 → m.g b = some e → m.f i = some r → e.blk ≠ r
  finj : ∀ i j r s, m.f i = some r → m.f j = some s → i ≠ j → r ≠ s

def Map.addF (m : Map) (i b : Nat) : Map := { m with f := fun k => if k = i then some b else m.f k }
def Map.addG (m : Map) (i : Nat) (e : Ent) : Map := { m with g := fun k => if k = i then some e else m.g k }

theorem Map.addG_self (m : Map) (i : Nat) (e : Ent) : (m.addG i e).g i = some e := by simp [Map.addG]
theorem Map.le_addF {m : Map} {i b : Nat} (h : m.f i = none) : m.le (m.addF i b) := by
  refine ⟨fun _ _ x => x, fun k c x => ?_⟩
  simp only [Map.addF]
  split
  · rename_i hk; subst hk; rw [h] at x; cases x
  · exact x
theorem Map.le_addG {m : Map} {i : Nat} {e : Ent} (h : m.g i = none) : m.le (m.addG i e) := by
  refine ⟨fun k c x => ?_, fun _ _ x => x⟩
  simp only [Map.addG]
  split
  · rename_i hk; subst hk; rw [h] at x; cases x
  · exact x

section
variable {P : Program} {B K : Nat → Prop} {w0 : World} {m : Map} {F : List (List IV)} {G : GH} {w : World}

theorem HRel.g_none (h : HRel P B K w0 m F G w) {b : Nat} (hb : G.length ≤ b) : m.g b = none := by
  cases hm : m.g b with
  | none => rfl
  | some e => have := h.gdom _ _ hm; omega
theorem HRel.f_none (h : HRel P B K w0 m F G w) {b : Nat} (hb : F.length ≤ b) : m.f b = none := by
  cases hm : m.f b with
  | none => rfl
  | some e => have := h.fdom _ _ hm; omega

theorem lt_of_row {w : World} {b : Nat} {o : Obj} (h : w.heap[b]? = some o) : b < w.heap.size := (Array.getElem?_eq_some_iff.1 h).1

/-- Only new blocks have come. -/
theorem HRel.grow (h : HRel P B K w0 m F G w) {w' : World} (hb : Below w.heap.size w w') : HRel P B K w0 m F G w' where
  bk := h.bk
  frame := fun b hk => by
    obtain ⟨h1, h2⟩ := h.frame b hk
    exact ⟨h1, (hb.block b (Nat.lt_of_lt_of_le h1 h.size)).trans h2⟩
  os := hb.os.trans h.os
  tape := hb.tape.trans h.tape
  output := hb.output.trans h.output
  size := Nat.le_trans h.size hb.size
  gdom := h.gdom
  fdom := h.fdom
  gblk := fun b k e h1 h2 he => by
    obtain ⟨c, t, fr, hg⟩ := h.gblk b k e h1 h2 he
    exact ⟨c, t, fr, { hg with row := (hb.block _ (lt_of_row hg.row)).trans hg.row }⟩
  fblk := fun i cs b h1 he => by
    obtain ⟨c, t, hf⟩ := h.fblk i cs b h1 he
    exact ⟨c, t, { hf with row := (hb.block _ (lt_of_row hf.row)).trans hf.row }⟩
  ginj := h.ginj
  gf := h.gf
  finj := h.finj

theorem below_drawn (w : World) (n : Nat) : Below w.heap.size w { w with drawn := n } := ⟨rfl, rfl, rfl, Nat.le_refl _, fun _ _ => rfl⟩
theorem cell?_eq {w : World} {b o : Nat} {c : Array Value} {t : TypeId} {fr : Nat × Nat} (h : w.heap[b]? = some (.cells c t fr)) : w.cell? ⟨b, o, none⟩ = c[o]? := by
  simp [World.cell?, h]

theorem HRel.mem (h : HRel P B K w0 m F G w) : MemOk P m F G w where
  z := fun b k e h1 h2 h3 h4 => by
    obtain ⟨c, t, fr, hg⟩ := h.gblk b k e h1 h2 h3
    exact hg.esz h4
  g := fun a iv e hg he => by
    unfold gld at hg
    split at hg
    · rename_i k hk
      split at hg
      · rename_i hm
        obtain ⟨c, t, fr, hgb⟩ := h.gblk _ _ e hk hm he
        obtain ⟨v, hv, hr, _⟩ := hgb.cells _ _ hg
        exact ⟨lt_of_row hgb.row, v, by rw [cell?_eq hgb.row]; exact hv, hr.mono m.noF_le⟩
      · cases hg
    · cases hg
  f := fun i cs b hi hb => by
    obtain ⟨c, t, hf⟩ := h.fblk i cs b hi hb
    refine ⟨lt_of_row hf.row, fun o iv ho => ?_⟩
    obtain ⟨v, hv, hr⟩ := hf.cells o iv ho
    exact ⟨v, by rw [cell?_eq hf.row]; exact hv, hr⟩

theorem MemOk.grow (h : MemOk P m F G w) {w' : World} (hb : Below w.heap.size w w') : MemOk P m F G w' where
  z := h.z
  g := fun a iv e hg he => by
    obtain ⟨h1, v, h2, h3⟩ := h.g a iv e hg he
    exact ⟨Nat.lt_of_lt_of_le h1 hb.size, v, (hb.cell (p := ⟨e.blk, _, none⟩) h1).trans h2, h3⟩
  f := fun i cs b hi hb' => by
    obtain ⟨h1, h2⟩ := h.f i cs b hi hb'
    refine ⟨Nat.lt_of_lt_of_le h1 hb.size, fun o iv ho => ?_⟩
    obtain ⟨v, h3, h4⟩ := h2 o iv ho
    exact ⟨v, (hb.cell (p := ⟨b, o, none⟩) h1).trans h3, h4⟩

end
end Go.LI

/-! The quiet operations: what the interpreter says of them the model does. -/
namespace Go.LI
open Go Go.RowKit

theorem run_und {P : Program} {w : World} {t : TypeId} {d : TypeDesc} (h : P.underlying t = some d) : (underlying t).run P w = .ok d w := run_underlying h w

def ARel (m : Map) (cs : List IV) (cs' : Array Value) : Prop := cs.length = cs'.size ∧ ∀ (i : Nat) (iv : IV) (v : Value), cs[i]? = some iv → cs'[i]? = some v → VRel m iv v

theorem ARel.mono {m m' : Map} (hm : m.le m') {cs : List IV} {cs' : Array Value} (h : ARel m cs cs') : ARel m' cs cs' := ⟨h.1, fun i iv v a b => (h.2 i iv v a b).mono hm⟩
theorem ARel.get {m : Map} {cs : List IV} {cs' : Array Value} (h : ARel m cs cs') {i : Nat} {iv : IV} (hi : cs[i]? = some iv) : ∃ v, cs'[i]? = some v ∧ VRel m iv v := by
  have h1 : i < cs.length := (List.getElem?_eq_some_iff.1 hi).1
  have h2 : i < cs'.size := by rw [← h.1]; exact h1
  exact ⟨cs'[i], Array.getElem?_eq_getElem h2, h.2 i iv _ hi (Array.getElem?_eq_getElem h2)⟩
/-- The temporaries: what is known of them. -/
def ERel (m : Map) (cs : List IV) (cs' : Array Value) : Prop := cs.length = cs'.size ∧ ∀ (i : Nat) (iv : IV) (v : Value), cs[i]? = some iv → cs'[i]? = some v → iv ≠ .any → VRel m iv v
theorem ARel.toE {m : Map} {cs : List IV} {cs' : Array Value} (h : ARel m cs cs') : ERel m cs cs' := ⟨h.1, fun i iv v a b _ => h.2 i iv v a b⟩
theorem ERel.mono {m m' : Map} (hm : m.le m') {cs : List IV} {cs' : Array Value} (h : ERel m cs cs') : ERel m' cs cs' := ⟨h.1, fun i iv v a b c => (h.2 i iv v a b c).mono hm⟩
theorem ERel.get {m : Map} {cs : List IV} {cs' : Array Value} (h : ERel m cs cs') {i : Nat} {iv : IV} (hi : cs[i]? = some iv) (hn : iv ≠ .any) : ∃ v, cs'[i]? = some v ∧ VRel m iv v := by
  have h1 : i < cs.length := (List.getElem?_eq_some_iff.1 hi).1
  have h2 : i < cs'.size := by rw [← h.1]; exact h1
  exact ⟨cs'[i], Array.getElem?_eq_getElem h2, h.2 i iv _ hi (Array.getElem?_eq_getElem h2) hn⟩
theorem tmpv_some {env : List IV} {t : Nat} {iv : IV} (h : tmpv env t = some iv) : env[t]? = some iv ∧ iv ≠ .any := by
  unfold tmpv at h
  split at h
  · cases h
  · rename_i hn
    exact ⟨h, fun hc => hn (hc ▸ h)⟩
theorem ERel.getv {m : Map} {cs : List IV} {cs' : Array Value} (h : ERel m cs cs') {i : Nat} {iv : IV} (hi : tmpv cs i = some iv) : ∃ v, cs'[i]? = some v ∧ VRel m iv v :=
  h.get (tmpv_some hi).1 (tmpv_some hi).2
theorem keepF_get : ∀ (k : Nat) (env : List IV), (keepF k env).length = env.length ∧ ∀ (i : Nat) (iv : IV), (keepF k env)[i]? = some iv → iv ≠ .any → env[i]? = some iv
  | k, [] => ⟨rfl, fun i iv h => by simp [keepF] at h⟩
  | k, v :: vs => by
    obtain ⟨h1, h2⟩ := keepF_get (k / 2) vs
    refine ⟨by simp [keepF, h1], fun i iv hi hn => ?_⟩
    cases i with
    | zero =>
      simp only [keepF, List.getElem?_cons_zero] at hi ⊢
      cases hb : (k % 2 == 1) <;> rw [hb] at hi
      · simp at hi; exact absurd hi.symm hn
      · exact hi
    | succ i =>
      simp only [keepF, List.getElem?_cons_succ] at hi ⊢
      exact h2 i iv hi hn
theorem ERel.keep {m : Map} {cs : List IV} {cs' : Array Value} (h : ERel m cs cs') (lo : List Nat) (key : Nat) : ERel m (keepK lo key cs) cs' := by
  unfold keepK
  split
  · rename_i k _
    obtain ⟨h1, h2⟩ := keepF_get k cs
    exact ⟨h1.trans h.1, fun i iv v a b c => h.2 i iv v (h2 i iv a c) b c⟩
  · exact h
theorem ERel.keepE {m : Map} {cs : List IV} {cs' : Array Value} (h : ERel m cs cs') (lo : List Nat) (c : Nat) (e : Ex) : ERel m (keepE lo c e cs) cs' := h.keep lo _
theorem ARel.nil (m : Map) : ARel m [] #[] := ⟨rfl, fun i iv v h => by simp at h⟩
theorem VRel.undef (m : Map) : VRel m undefI Go.undef := .tuple [] #[] rfl fun i iv v h => by simp at h

theorem ofValue0_rel {m : Map} {v : Value} {iv : IV} (h : ofValue0 v = some iv) : VRel m iv v := by
  unfold ofValue0 at h
  split at h <;> first | (injection h with h; subst h; constructor) | cases h

theorem ofList0_rel {m : Map} : ∀ {vs : List Value} {ivs : List IV}, ofList0 vs = some ivs → ivs.length = vs.length ∧ ∀ (i : Nat) (iv : IV) (v : Value), ivs[i]? = some iv → vs[i]? = some v → VRel m iv v
  | [], ivs, h => by simp [ofList0] at h; subst h; exact ⟨rfl, fun i iv v h => by simp at h⟩
  | v :: vs, ivs, h => by
    simp only [ofList0] at h
    split at h
    · rename_i x xs hx hxs
      injection h with h
      subst h
      obtain ⟨h1, h2⟩ := ofList0_rel (m := m) hxs
      refine ⟨by simp [h1], fun i iv v' a b => ?_⟩
      cases i with
      | zero => simp at a b; subst a; subst b; exact ofValue0_rel hx
      | succ i => exact h2 i iv v' (by simpa using a) (by simpa using b)
    · cases h

theorem ofValue_rel {m : Map} {v : Value} {iv : IV} (h : ofValue v = some iv) : VRel m iv v := by
  unfold ofValue at h
  split at h
  · rename_i cs
    split at h
    · rename_i xs hx
      injection h with h
      subst h
      obtain ⟨h1, h2⟩ := ofList0_rel (m := m) hx
      exact .agg xs cs (by simpa using h1) fun i iv v a b => h2 i iv v a (by simpa using b)
    · cases h
  · exact ofValue0_rel h

theorem ev_rel {m : Map} {env : List IV} {a : Act} (hE : ERel m env a.tmps) {x : Operand} {iv : IV} (h : ev env x = some iv) : VRel m iv (a.eval x) := by
  cases x with
  | tmp t =>
    obtain ⟨v, hv, hr⟩ := hE.getv h
    simp only [Act.eval]
    rw [show a.tmps.getD t Go.undef = v by simp [Array.getD_eq_getD_getElem?, hv]]
    exact hr
  | const v => exact ofValue_rel h
  | global g => simp [ev] at h
  | func f => simp [ev] at h; subst h; exact .func f [] #[] rfl fun i iv v h => by simp at h

theorem evs_rel {m : Map} {env : List IV} {a : Act} (hE : ERel m env a.tmps) : ∀ {xs : List Operand} {ivs : List IV}, evs env xs = some ivs →
    ivs.length = xs.length ∧ ∀ (i : Nat) (iv : IV) (v : Value), ivs[i]? = some iv → (xs.map a.eval)[i]? = some v → VRel m iv v
  | [], ivs, h => by simp [evs] at h; subst h; exact ⟨rfl, fun i iv v h => by simp at h⟩
  | x :: xs, ivs, h => by
    simp only [evs] at h
    split at h
    · rename_i v vs hv hvs
      injection h with h
      subst h
      obtain ⟨h1, h2⟩ := evs_rel hE hvs
      refine ⟨by simp [h1], fun i iv v' a b => ?_⟩
      cases i with
      | zero => simp at a b; subst a; subst b; exact ev_rel hE hv
      | succ i => exact h2 i iv v' (by simpa using a) (by simpa using b)
    · cases h

theorem evs_arel {m : Map} {env : List IV} {a : Act} (hE : ERel m env a.tmps) {xs : Array Operand} {ivs : List IV} (h : evs env xs.toList = some ivs) : ARel m ivs (xs.map a.eval) := by
  obtain ⟨h1, h2⟩ := evs_rel hE h
  exact ⟨by simpa using h1, fun i iv v a b => h2 i iv v a (by simpa using b)⟩

inductive PRel (m : Map) : List (Nat × IV) → List (Nat × Value) → Prop
  | nil : PRel m [] []
  | cons (i : Nat) (iv : IV) (v : Value) (xs ys) (h : VRel m iv v) (hs : PRel m xs ys) : PRel m ((i, iv) :: xs) ((i, v) :: ys)

theorem evParts_rel {m : Map} {env : List IV} {a : Act} (hE : ERel m env a.tmps) : ∀ {xs : List (Nat × Operand)} {ivs : List (Nat × IV)}, evParts env xs = some ivs →
    PRel m ivs (xs.map fun p => (p.1, a.eval p.2))
  | [], ivs, h => by simp [evParts] at h; subst h; exact .nil
  | (i, x) :: xs, ivs, h => by
    simp only [evParts] at h
    split at h
    · rename_i v vs hv hvs
      injection h with h
      subst h
      exact .cons _ _ _ _ _ (ev_rel hE hv) (evParts_rel hE hvs)
    · cases h

section
variable {R : Type} {P : Program} {K : Nat → Prop} {w0 : World} {m : Map} {F : List (List IV)} {G : GH} {w : World} {O : Ora R} {lo : List Nat} {sand : Bool} {o : Oper} {env : List IV} {a : Act} {k : IV → List (List IV) → GH → Option R} {r : R}

/-- In each world that has only grown the operation yields this value, and leaves it as it is. -/
def QuietAt (P : Program) (o : Oper) (a : Act) (w : World) (v' : Value) : Prop := ∀ w', Below w.heap.size w w' → (execOp a.eval o).run P w' = .ok (.value v') w'
def QuietOk (P : Program) (m : Map) (o : Oper) (a : Act) (w : World) (F : List (List IV)) (G : GH) (k : IV → List (List IV) → GH → Option R) (r : R) : Prop :=
  ∃ v v', QuietAt P o a w v' ∧ VRel m v v' ∧ k v F G = some r

theorem q_move {x : Operand} (ho : o.op = .move x ∨ o.op = .assign x) (h : opC P O lo sand o env F G k = some r) (hE : ERel m env a.tmps) : QuietOk P m o a w F G k r := by
  rcases ho with ho | ho <;>
  · simp only [opC, ho] at h
    split at h
    · rename_i v hv
      exact ⟨v, a.eval x, fun w' _ => by simp [execOp, ho], ev_rel hE hv, h⟩
    · cases h

theorem q_pick {c x y : Operand} (ho : o.op = .pick c x y) (h : opC P O lo sand o env F G k = some r) (hE : ERel m env a.tmps) : QuietOk P m o a w F G k r := by
  simp only [opC, ho] at h
  split at h
  · rename_i b vx vy hc hx hy
    have hb := ev_rel hE hc
    generalize hbv : a.eval c = bv at hb
    cases hb
    cases b
    · refine ⟨vy, a.eval y, fun w' _ => ?_, ev_rel hE hy, h⟩
      simp [execOp, ho, hbv, asBool]
    · refine ⟨vx, a.eval x, fun w' _ => ?_, ev_rel hE hx, h⟩
      simp [execOp, ho, hbv, asBool]
  · cases h

theorem q_extract {x : Operand} {i : Nat} (ho : o.op = .extract x i) (h : opC P O lo sand o env F G k = some r) (hE : ERel m env a.tmps) : QuietOk P m o a w F G k r := by
  simp only [opC, ho] at h
  split at h
  · rename_i vs hx
    split at h
    · rename_i v hv
      have hb := ev_rel hE hx
      generalize hbv : a.eval x = bv at hb
      cases hb with
      | tuple _ cs' hs hc =>
        obtain ⟨v', hv', hr⟩ := ARel.get ⟨hs, hc⟩ hv
        refine ⟨v, v', fun w' _ => ?_, hr, h⟩
        simp [execOp, ho, hbv, Instr.extract, hv']
    · cases h
  · cases h

theorem q_unOp {op : UnOp} {t : TypeId} {x : Operand} (ho : o.op = .unOp op t x) (h : opC P O lo sand o env F G k = some r) (hE : ERel m env a.tmps) : QuietOk P m o a w F G k r := by
  simp only [opC, ho] at h
  split at h
  · rename_i v hv
    have hb := ev_rel hE hv
    generalize hbv : a.eval x = bv at hb
    unfold unC at h
    split at h
    · cases hb; exact ⟨_, _, fun w' _ => by simp [execOp, ho, hbv, Op.unary, Op.intArith], .int _ _, h⟩
    · cases hb; exact ⟨_, _, fun w' _ => by simp [execOp, ho, hbv, Op.unary, Op.intBits, xorI], .int _ _, h⟩
    · cases hb; exact ⟨_, _, fun w' _ => by simp [execOp, ho, hbv, Op.unary], .float _ _, h⟩
    · cases hb; exact ⟨_, _, fun w' _ => by simp [execOp, ho, hbv, Op.unary], .bool _, h⟩
    · cases h
  · cases h

theorem q_nilCheck {x : Operand} (ho : o.op = .nilCheck x) (h : opC P O lo sand o env F G k = some r) (hE : ERel m env a.tmps) : QuietOk P m o a w F G k r := by
  simp only [opC, ho] at h
  split at h
  · rename_i p hv
    split at h
    · rename_i q
      have hb := ev_rel hE hv
      generalize hbv : a.eval x = bv at hb
      cases hb with
      | ptr _ e he => exact ⟨_, _, fun w' _ => by simp [execOp, ho, hbv], .ptr q e he, h⟩
    · cases h
  · rename_i b i hv
    have hb := ev_rel hE hv
    generalize hbv : a.eval x = bv at hb
    cases hb with
    | loc _ _ c hc => exact ⟨_, _, fun w' _ => by simp [execOp, ho, hbv], .loc b i c hc, h⟩
  · rename_i f cs hv
    have hb := ev_rel hE hv
    generalize hbv : a.eval x = bv at hb
    cases hb with
    | func _ _ cs' hs hc => exact ⟨_, _, fun w' _ => by simp [execOp, ho, hbv], .func f cs cs' hs hc, h⟩
  · cases h

theorem q_makeInterface {t : TypeId} {x : Operand} (ho : o.op = .makeInterface t x) (h : opC P O lo sand o env F G k = some r) (hE : ERel m env a.tmps) : QuietOk P m o a w F G k r := by
  simp only [opC, ho] at h
  split at h
  · cases h
  · rename_i v d hn hv hu
    refine ⟨_, .iface t (a.eval x), fun w' _ => ?_, .iface t v _ (ev_rel hE hv), h⟩
    have : ∀ ms, d ≠ .interface ms := fun ms hd => hn ms hd
    simp only [execOp, ho, Instr.makeInterface, Sem.run_bind]
    cases d <;> first | (exact absurd rfl (this _)) | simp [underlying, hu]
  · cases h

theorem q_makeFunc {f : Nat} {first caps : Array Operand} (ho : o.op = .makeFunc (.func f) first caps) (h : opC P O lo sand o env F G k = some r) (hE : ERel m env a.tmps) : QuietOk P m o a w F G k r := by
  simp only [opC, ho] at h
  split at h
  · rename_i cs hcs
    split at h
    · rename_i hz
      have hf : first = #[] := Array.eq_empty_of_size_eq_zero hz
      subst hf
      obtain ⟨h1, h2⟩ := evs_arel hE hcs
      exact ⟨_, .func (.func f) #[] (caps.map a.eval), fun w' _ => by simp [execOp, ho, Instr.makeFunc], .func f cs _ h1 h2, h⟩
    · cases h
  · cases h

end
end Go.LI

/-! Structs and arrays compared leaf by leaf. -/
namespace Go.LI
open Go Go.RowKit

section
variable {P : Program} {w : World} {m : Map}

theorem und_info {t : TypeId} {d : TypeDesc} (h : P.underlying t = some d) : ∃ i, P.info? t = some i ∧ P.cellsOf t = i.size := by
  unfold Program.underlying at h
  cases hi : P.info? t with
  | none => rw [hi] at h; cases h
  | some i => exact ⟨i, rfl, by simp [Program.cellsOf, hi]⟩

theorem run_sizeT {t : TypeId} {d : TypeDesc} (h : P.underlying t = some d) : (sizeOf t).run P w = .ok (P.cellsOf t) w := by
  obtain ⟨i, hi, hs⟩ := und_info h
  simp [sizeOf, typeInfo, hi, hs]

theorem run_isAggT {t : TypeId} {d : TypeDesc} (h : P.underlying t = some d) : (isAgg t).run P w = .ok (aggT P t) w := by
  simp only [isAgg, Sem.run_bind, run_und h, Result.andThen_ok, aggT, h]
  cases d <;> rfl

def partV (P : Program) (t : TypeId) (cs : Array Value) (off s : Nat) : Value := if aggT P t then .agg (cs.extract off (off + s)) else cs.getD off Go.undef

theorem run_partV {t : TypeId} {d : TypeDesc} (h : P.underlying t = some d) (cs : Array Value) (off : Nat) (hc : aggT P t = false → off < cs.size) :
    (part t cs off).run P w = .ok (partV P t cs off (P.cellsOf t)) w := by
  simp only [part, Sem.run_bind, run_isAggT h, Result.andThen_ok, partV]
  cases ha : aggT P t
  · have := hc ha
    simp [this]
  · simp [run_sizeT h]

/-- These cells stand there. -/
def CellsAt (m : Map) (X : Array Value) (off : Nat) (xs : List IV) : Prop := ∀ (i : Nat) (iv : IV), xs[i]? = some iv → ∃ v, X[off + i]? = some v ∧ VRel m iv v

theorem CellsAt.split {X : Array Value} {off : Nat} {xs ys : List IV} (h : CellsAt m X off (xs ++ ys)) : CellsAt m X off xs ∧ CellsAt m X (off + xs.length) ys := by
  refine ⟨fun i iv hi => h i iv ?_, fun i iv hi => ?_⟩
  · rw [List.getElem?_append_left (List.getElem?_eq_some_iff.1 hi).1]; exact hi
  · obtain ⟨v, hv, hr⟩ := h (xs.length + i) iv (by rw [List.getElem?_append_right (by omega)]; simpa using hi)
    exact ⟨v, by rw [← hv]; congr 1; omega, hr⟩

theorem CellsAt.extract {X : Array Value} {off s o : Nat} {xs : List IV} (h : CellsAt m X (off + o) xs) (hl : o + xs.length ≤ s) : CellsAt m (X.extract off (off + s)) o xs := by
  intro i iv hi
  obtain ⟨v, hv, hr⟩ := h i iv hi
  have h1 : i < xs.length := (List.getElem?_eq_some_iff.1 hi).1
  have h2 : off + o + i < X.size := (Array.getElem?_eq_some_iff.1 hv).1
  refine ⟨v, ?_, hr⟩
  rw [Array.getElem?_extract]
  rw [if_pos (by omega)]
  rw [← hv]; congr 1; omega

theorem eqLeaves_len : ∀ {ls : List Leaf} {xs ys : List IV} {b : Bool}, eqLeaves ls xs ys = some b → xs.length = ls.length ∧ ys.length = ls.length
  | [], [], [], _, _ => ⟨rfl, rfl⟩
  | l :: ls, x :: xs, y :: ys, b, h => by
    simp only [eqLeaves] at h
    split at h
    · rename_i h1 h2
      obtain ⟨a1, a2⟩ := eqLeaves_len h2
      exact ⟨by simp [a1], by simp [a2]⟩
    · cases h
  | [], x :: xs, ys, b, h => by simp [eqLeaves] at h
  | [], [], y :: ys, b, h => by simp [eqLeaves] at h
  | l :: ls, [], ys, b, h => by simp [eqLeaves] at h
  | l :: ls, x :: xs, [], b, h => by simp [eqLeaves] at h

theorem eqLeaves_append : ∀ {l1 l2 : List Leaf} {xs ys : List IV} {b : Bool}, eqLeaves (l1 ++ l2) xs ys = some b →
    ∃ x1 x2 y1 y2 b1 b2, xs = x1 ++ x2 ∧ ys = y1 ++ y2 ∧ eqLeaves l1 x1 y1 = some b1 ∧ eqLeaves l2 x2 y2 = some b2 ∧ b = (b1 && b2)
  | [], l2, xs, ys, b, h => ⟨[], xs, [], ys, true, b, rfl, rfl, rfl, h, by simp⟩
  | l :: l1, l2, [], ys, b, h => by simp [eqLeaves] at h
  | l :: l1, l2, x :: xs, [], b, h => by simp [eqLeaves] at h
  | l :: l1, l2, x :: xs, y :: ys, b, h => by
    simp only [List.cons_append, eqLeaves] at h
    split at h
    · rename_i a1 a2 h1 h2
      injection h with h
      obtain ⟨x1, x2, y1, y2, b1, b2, e1, e2, e3, e4, e5⟩ := eqLeaves_append h2
      refine ⟨x :: x1, x2, y :: y1, y2, a1 && b1, b2, by simp [e1], by simp [e2], by simp [eqLeaves, h1, e3], e4, ?_⟩
      rw [← h, e5, Bool.and_assoc]
    · cases h

/-- What is shown of each type, by its depth. -/
def EqPlain (P : Program) (m : Map) (d : Nat) (t : TypeId) (s : Nat) : Prop :=
  (leaves P d t).length = s ∧ (∃ q, P.underlying t = some q) ∧ (aggT P t = false → s = 1) ∧ ∀ (D : Nat) (X Y : Array Value) (off : Nat) (xs ys : List IV) (b : Bool), eqLeaves (leaves P d t) xs ys = some b → CellsAt m X off xs → CellsAt m Y off ys →
    ∀ w, (Op.equalIn (D + d) t (partV P t X off s) (partV P t Y off s)).run P w = .ok b w

theorem getD_of {X : Array Value} {off : Nat} {v : Value} (h : X[off]? = some v) : X.getD off Go.undef = v := by
  simp [Array.getD_eq_getD_getElem?, h]

theorem eqFields_plain {d : Nat} (IH : ∀ t s, plainSize P d t = some s → EqPlain P m d t s) : ∀ (fs : List Field) (off0 s : Nat), plainFields P (plainSize P d) fs off0 = some s →
    (fs.flatMap fun f => leaves P d f.type).length + off0 = s ∧ ∀ (D : Nat) (X Y : Array Value) (xs ys : List IV) (b : Bool), eqLeaves (fs.flatMap fun f => leaves P d f.type) xs ys = some b → CellsAt m X off0 xs → CellsAt m Y off0 ys →
    ∀ w, (Op.eqFields (D + d) X Y fs).run P w = .ok b w
  | [], off0, s, h => by
    simp [plainFields] at h
    subst h
    refine ⟨by simp, fun D X Y xs ys b hb _ _ w => ?_⟩
    simp only [List.flatMap_nil] at hb
    cases xs <;> cases ys <;> simp [eqLeaves] at hb
    subst hb
    rfl
  | f :: fs, off0, s, h => by
    simp only [plainFields] at h
    split at h
    · rename_i sf hsf
      split at h
      · rename_i hc
        obtain ⟨hn, ho, hcs⟩ := hc
        obtain ⟨hl, ⟨q, hu⟩, hs1, he⟩ := IH _ _ hsf
        obtain ⟨hlen, hfs⟩ := eqFields_plain IH fs _ _ h
        refine ⟨by simp only [List.flatMap_cons, List.length_append, hl]; omega, fun D X Y xs ys b hb hX hY w => ?_⟩
        simp only [List.flatMap_cons] at hb
        obtain ⟨x1, x2, y1, y2, b1, b2, e1, e2, e3, e4, e5⟩ := eqLeaves_append hb
        subst e1; subst e2
        obtain ⟨l1, l2⟩ := eqLeaves_len e3
        obtain ⟨hX1, hX2⟩ := hX.split
        obtain ⟨hY1, hY2⟩ := hY.split
        have r1 := he D X Y off0 x1 y1 b1 e3 hX1 hY1 w
        have r2 := hfs D X Y x2 y2 b2 e4 (by rw [l1, hl] at hX2; exact hX2) (by rw [l2, hl] at hY2; exact hY2) w
        have inb : ∀ {X : Array Value} {x1 : List IV}, CellsAt m X off0 x1 → x1.length = (leaves P d f.type).length → aggT P f.type = false → off0 < X.size := by
          intro X x1 hX1 hl1 ha
          have := hs1 ha
          have h0 : 0 < x1.length := by omega
          obtain ⟨v, hv, _⟩ := hX1 0 x1[0] (List.getElem?_eq_getElem h0)
          have := (Array.getElem?_eq_some_iff.1 hv).1
          omega
        simp only [Op.eqFields, hn, ne_eq, not_false_eq_true, if_true, Sem.run_bind]
        rw [← ho] at r1 inb
        rw [run_partV hu X f.offset (inb (by rw [ho]; exact hX1) l1), Result.andThen_ok, run_partV hu Y f.offset (inb (by rw [ho]; exact hY1) l2), Result.andThen_ok, hcs, r1, Result.andThen_ok]
        cases b1
        · simp [e5]
        · simp only [Bool.not_true, Bool.false_eq_true, if_false]
          rw [r2, e5]; simp
      · cases h
    · cases h

theorem eqItems_plain {d : Nat} {e : TypeId} {s : Nat} (H : EqPlain P m d e s) (hc : P.cellsOf e = s) : ∀ (n j : Nat) (D : Nat) (X Y : Array Value) (xs ys : List IV) (b : Bool), eqLeaves (List.replicate n (leaves P d e)).flatten xs ys = some b → CellsAt m X (j * s) xs → CellsAt m Y (j * s) ys →
    ∀ w, (Op.eqItems (D + d) e (P.cellsOf e) X Y (List.range' j n)).run P w = .ok b w
  | 0, j, D, X, Y, xs, ys, b, hb, _, _, w => by
    simp only [List.replicate_zero, List.flatten_nil] at hb
    cases xs <;> cases ys <;> simp [eqLeaves] at hb
    subst hb
    rfl
  | n + 1, j, D, X, Y, xs, ys, b, hb, hX, hY, w => by
    obtain ⟨hl, ⟨q, hu⟩, hs1, he⟩ := H
    simp only [List.replicate_succ, List.flatten_cons] at hb
    obtain ⟨x1, x2, y1, y2, b1, b2, e1, e2, e3, e4, e5⟩ := eqLeaves_append hb
    subst e1; subst e2
    obtain ⟨l1, l2⟩ := eqLeaves_len e3
    obtain ⟨hX1, hX2⟩ := hX.split
    obtain ⟨hY1, hY2⟩ := hY.split
    have r1 := he D X Y (j * s) x1 y1 b1 e3 hX1 hY1 w
    have ej : j * s + s = (j + 1) * s := by rw [Nat.add_mul, Nat.one_mul]
    have r2 := eqItems_plain ⟨hl, ⟨q, hu⟩, hs1, he⟩ hc n (j + 1) D X Y x2 y2 b2 e4 (by rw [l1, hl, ej] at hX2; exact hX2) (by rw [l2, hl, ej] at hY2; exact hY2) w
    have inb : ∀ {X : Array Value} {x1 : List IV}, CellsAt m X (j * s) x1 → x1.length = (leaves P d e).length → aggT P e = false → j * s < X.size := by
      intro X x1 hX1 hl1 ha
      have := hs1 ha
      have h0 : 0 < x1.length := by omega
      obtain ⟨v, hv, _⟩ := hX1 0 x1[0] (List.getElem?_eq_getElem h0)
      have := (Array.getElem?_eq_some_iff.1 hv).1
      omega
    simp only [List.range'_succ, Op.eqItems, Sem.run_bind]
    rw [hc, run_partV hu X (j * s) (inb hX1 l1), Result.andThen_ok, run_partV hu Y (j * s) (inb hY1 l2), Result.andThen_ok, hc, r1, Result.andThen_ok]
    rw [hc] at r2
    cases b1
    · simp [e5]
    · simp only [Bool.not_true, Bool.false_eq_true, if_false]
      rw [r2, e5]; simp

theorem eq_plain : ∀ (d : Nat) (t : TypeId) (s : Nat), plainSize P d t = some s → EqPlain P m d t s := by
  intro d
  induction d with
  | zero => intro t s h; simp [plainSize] at h
  | succ d ih =>
    intro t s h
    unfold plainSize at h
    have leafCase : ∀ (l : Leaf) (q : TypeDesc), P.underlying t = some q → leaves P (d + 1) t = [l] → aggT P t = false → s = 1 →
        (∀ (D : Nat) (x y : IV) (b : Bool) (vx vy : Value), eqLeaf l x y = some b → VRel m x vx → VRel m y vy → ∀ w, (Op.equalIn (D + (d + 1)) t vx vy).run P w = .ok b w) → EqPlain P m (d + 1) t s := by
      intro l q hu hl ha hs H
      refine ⟨by rw [hl, hs]; rfl, ⟨q, hu⟩, fun _ => hs, fun D X Y off xs ys b hb hX hY w => ?_⟩
      rw [hl] at hb
      obtain ⟨l1, l2⟩ := eqLeaves_len hb
      match xs, ys, l1, l2 with
      | [x], [y], _, _ =>
        simp only [eqLeaves] at hb
        split at hb
        · rename_i a1 a2 h1 h2
          injection hb with hb
          injection h2 with h2
          obtain ⟨vx, hvx, rx⟩ := hX 0 x rfl
          obtain ⟨vy, hvy, ry⟩ := hY 0 y rfl
          simp only [Nat.add_zero] at hvx hvy
          simp only [partV, ha, Bool.false_eq_true, if_false]
          rw [getD_of hvx, getD_of hvy, H D x y a1 vx vy h1 rx ry w]
          rw [← hb, ← h2]; simp
        · cases hb
    split at h
    · rename_i k hu
      injection h with h
      refine leafCase (.int k) _ hu (by simp [leaves, hu]) (by simp [aggT, hu]) h.symm fun D x y b vx vy hb rx ry w => ?_
      unfold eqLeaf at hb
      split at hb
      · rename_i hq; cases hq
      · rename_i hq
        injection hq with hq; subst hq
        split at hb
        · rename_i hk
          obtain ⟨rfl, rfl⟩ := hk
          injection hb with hb
          cases rx; cases ry
          rw [← hb]
          exact run_equalIn_int w (D + d) t _ _ _ _ hu
        · cases hb
      · rename_i hq; cases hq
      · rename_i hq; cases hq
      · cases hb
    · rename_i k hu
      injection h with h
      refine leafCase (.float k) _ hu (by simp [leaves, hu]) (by simp [aggT, hu]) h.symm fun D x y b vx vy hb rx ry w => ?_
      unfold eqLeaf at hb
      split at hb
      · rename_i hq; cases hq
      · rename_i hq; cases hq
      · rename_i hq
        injection hq with hq; subst hq
        split at hb
        · rename_i hk
          obtain ⟨rfl, rfl⟩ := hk
          injection hb with hb
          cases rx; cases ry
          rw [← hb]
          show (Op.equalIn (D + d + 1) t _ _).run P w = _
          simp [Op.equalIn, run_und hu, Op.floatEq, feq]
        · cases hb
      · rename_i hq; cases hq
      · cases hb
    · rename_i hu
      injection h with h
      refine leafCase .bool _ hu (by simp [leaves, hu]) (by simp [aggT, hu]) h.symm fun D x y b vx vy hb rx ry w => ?_
      unfold eqLeaf at hb
      split at hb
      · injection hb with hb
        cases rx; cases ry
        rw [← hb]
        show (Op.equalIn (D + d + 1) t _ _).run P w = _
        simp [Op.equalIn, run_und hu]
      · rename_i hq; cases hq
      · rename_i hq; cases hq
      · rename_i hq; cases hq
      · cases hb
    · rename_i hu
      injection h with h
      refine leafCase .str _ hu (by simp [leaves, hu]) (by simp [aggT, hu]) h.symm fun D x y b vx vy hb rx ry w => ?_
      unfold eqLeaf at hb
      split at hb
      · rename_i hq; cases hq
      · rename_i hq; cases hq
      · rename_i hq; cases hq
      · rename_i a b' hq
        injection hb with hb
        cases rx; cases ry
        rw [← hb]
        have := run_equalIn_string w (D + d) t ⟨⟨a⟩⟩ ⟨⟨b'⟩⟩ hu
        rw [ByteArray.toList_eq, ByteArray.toList_eq] at this
        exact this
      · cases hb
    · rename_i fs hu
      split at h
      · cases h
      · rename_i hst
        obtain ⟨hlen, hf⟩ := eqFields_plain ih fs.toList 0 s h
        have hl : leaves P (d + 1) t = fs.toList.flatMap fun f => leaves P d f.type := by simp [leaves, hu]
        have ha : aggT P t = true := by simp [aggT, hu]
        refine ⟨by rw [hl]; simpa using hlen, ⟨_, hu⟩, (fun h => by rw [ha] at h; cases h), fun D X Y off xs ys b hb hX hY w => ?_⟩
        have hff : P.fieldsOf t = fs := by simp [Program.fieldsOf, hu]
        obtain ⟨l1, l2⟩ := eqLeaves_len hb
        rw [hl] at hb l1 l2
        simp only [partV, ha, if_true]
        rw [show D + (d + 1) = (D + d) + 1 by omega, run_equalIn_struct w (D + d) t _ _ (by rw [hff]; exact hu) (by simpa using hst), hff]
        exact hf D _ _ xs ys b hb (hX.extract (by omega)) (hY.extract (by omega)) w
    · rename_i n e hu
      split at h
      · rename_i se hse
        split at h
        · rename_i hc
          injection h with h
          have H := ih e se hse
          obtain ⟨i, hi, _⟩ := und_info H.2.1.choose_spec
          have hl : leaves P (d + 1) t = (List.replicate n (leaves P d e)).flatten := by simp [leaves, hu]
          have ha : aggT P t = true := by simp [aggT, hu]
          have hlen : (List.replicate n (leaves P d e)).flatten.length = n * se := by simp [H.1]
          refine ⟨by rw [hl, hlen, h], ⟨_, hu⟩, (fun h => by rw [ha] at h; cases h), fun D X Y off xs ys b hb hX hY w => ?_⟩
          obtain ⟨l1, l2⟩ := eqLeaves_len hb
          rw [hl] at hb l1 l2
          simp only [partV, ha, if_true]
          rw [show D + (d + 1) = (D + d) + 1 by omega, run_equalIn_array w (D + d) _ _ hu hi, List.range_eq_range']
          exact eqItems_plain H hc n 0 D _ _ xs ys b hb (by rw [Nat.zero_mul]; exact hX.extract (by omega)) (by rw [Nat.zero_mul]; exact hY.extract (by omega)) w
        · cases h
      · cases h
    · cases h

/-- A whole struct or array. -/
theorem run_equal_plain {t : TypeId} (ha : aggT P t = true) (hp : (plainSize P 20 t).isSome = true) {xs ys : List IV} {X Y : Array Value} {b : Bool} (hb : eqLeaves (leaves P 20 t) xs ys = some b)
    (hX : VRel m (.agg xs) (.agg X)) (hY : VRel m (.agg ys) (.agg Y)) : (Op.equal t (.agg X) (.agg Y)).run P w = .ok b w := by
  obtain ⟨s, hs⟩ := Option.isSome_iff_exists.1 hp
  obtain ⟨hl, _, _, he⟩ := eq_plain (m := m) 20 t s hs
  obtain ⟨l1, l2⟩ := eqLeaves_len hb
  cases hX with
  | agg _ _ hsx hx =>
    cases hY with
    | agg _ _ hsy hy =>
      have h := he 9980 X Y 0 xs ys b hb (fun i iv hi => by rw [Nat.zero_add]; exact ARel.get ⟨hsx, hx⟩ hi) (fun i iv hi => by rw [Nat.zero_add]; exact ARel.get ⟨hsy, hy⟩ hi) w
      simp only [partV, ha, if_true, Nat.zero_add] at h
      rw [show X.extract 0 s = X by rw [← hl, ← l1, hsx]; exact Array.extract_size, show Y.extract 0 s = Y by rw [← hl, ← l2, hsy]; exact Array.extract_size] at h
      exact h
end
end Go.LI

/-! The quiet operations, second part: arithmetic, comparisons, conversions. -/
namespace Go.LI
open Go Go.RowKit

theorem run_v {P : Program} {w w' : World} {s : Sem Value} {v : Value} (h : s.run P w = .ok v w') : (do pure (Next.value (← s)) : Sem Next).run P w = .ok (.value v) w' := by
  simp [h]

section
variable {P : Program} {w : World}


theorem run_guard_int (op : BinOp) (t : TypeId) (x y : Operand) (k k' : IntKind) (n n' : Int) : (eqGuard op t x y (.int k n) (.int k' n')).run P w = .ok () w := by
  cases op <;> simp [eqGuard]
theorem run_guard_float (op : BinOp) (t : TypeId) (x y : Operand) (k k' : FloatKind) (n n' : Nat) : (eqGuard op t x y (.float k n) (.float k' n')).run P w = .ok () w := by
  cases op <;> simp [eqGuard]
theorem run_guard_str (op : BinOp) (t : TypeId) (x y : Operand) (n n' : ByteArray) : (eqGuard op t x y (.string n) (.string n')).run P w = .ok () w := by
  cases op <;> simp [eqGuard]
theorem run_guard_bool (op : BinOp) (t : TypeId) (x y : Operand) (n n' : Bool) : (eqGuard op t x y (.bool n) (.bool n')).run P w = .ok () w := by
  cases op <;> simp [eqGuard]
theorem run_guard_ptr (op : BinOp) (t : TypeId) (x y : Operand) (n n' : Option Addr) : (eqGuard op t x y (.pointer n) (.pointer n')).run P w = .ok () w := by
  cases op <;> simp [eqGuard]
theorem run_guard_slice (op : BinOp) (t : TypeId) (x y : Operand) (n n' : Option Addr) (a b c d : Nat) : (eqGuard op t x y (.slice n a b) (.slice n' c d)).run P w = .ok () w := by
  cases op <;> simp [eqGuard]

theorem run_equal_bool {t : TypeId} (h : P.underlying t = some .bool) (a b : Bool) : (Op.equal t (.bool a) (.bool b)).run P w = .ok (a == b) w := by
  show (Op.equalIn (9999 + 1) t _ _).run P w = _
  generalize 9999 = d
  simp [Op.equalIn, run_und h]
theorem run_equal_ptr_nil {t e : TypeId} (h : P.underlying t = some (.pointer e)) (a : Option Addr) : (Op.equal t (.pointer a) (.pointer none)).run P w = .ok a.isNone w := by
  show (Op.equalIn (9999 + 1) t _ _).run P w = _
  generalize 9999 = d
  cases a <;> simp [Op.equalIn, run_und h]
theorem run_equal_nil_ptr {t e : TypeId} (h : P.underlying t = some (.pointer e)) (a : Option Addr) : (Op.equal t (.pointer none) (.pointer a)).run P w = .ok a.isNone w := by
  show (Op.equalIn (9999 + 1) t _ _).run P w = _
  generalize 9999 = d
  cases a <;> simp [Op.equalIn, run_und h]
theorem run_equal_slice_nil' {t e : TypeId} (h : P.underlying t = some (.slice e)) (a : Option Addr) (n c x y : Nat) : (Op.equal t (.slice a n c) (.slice none x y)).run P w = .ok a.isNone w := by
  show (Op.equalIn (9999 + 1) t _ _).run P w = _
  generalize 9999 = d
  cases a <;> simp [Op.equalIn, run_und h]
theorem run_eql_bool {t : TypeId} (h : P.underlying t = some .bool) (a b : Bool) : (binOp .eql t (.bool a) (.bool b)).run P w = .ok (.bool (a == b)) w := by
  simp only [binOp, Sem.run_bind, run_equal_bool h, Result.andThen_ok, Sem.run_pure]
theorem run_neq_bool {t : TypeId} (h : P.underlying t = some .bool) (a b : Bool) : (binOp .neq t (.bool a) (.bool b)).run P w = .ok (.bool (!(a == b))) w := by
  simp only [binOp, Sem.run_bind, run_equal_bool h, Result.andThen_ok, Sem.run_pure]
theorem run_eql_pn {t e : TypeId} (h : P.underlying t = some (.pointer e)) (a : Option Addr) : (binOp .eql t (.pointer a) (.pointer none)).run P w = .ok (.bool a.isNone) w := by
  cases a <;> simp only [binOp, Sem.run_bind, run_equal_ptr_nil h, Result.andThen_ok, Sem.run_pure]
theorem run_neq_pn {t e : TypeId} (h : P.underlying t = some (.pointer e)) (a : Option Addr) : (binOp .neq t (.pointer a) (.pointer none)).run P w = .ok (.bool (!a.isNone)) w := by
  cases a <;> simp only [binOp, Sem.run_bind, run_equal_ptr_nil h, Result.andThen_ok, Sem.run_pure]
theorem run_eql_np {t e : TypeId} (h : P.underlying t = some (.pointer e)) (a : Option Addr) : (binOp .eql t (.pointer none) (.pointer a)).run P w = .ok (.bool a.isNone) w := by
  cases a <;> simp only [binOp, Sem.run_bind, run_equal_nil_ptr h, Result.andThen_ok, Sem.run_pure]
theorem run_neq_np {t e : TypeId} (h : P.underlying t = some (.pointer e)) (a : Option Addr) : (binOp .neq t (.pointer none) (.pointer a)).run P w = .ok (.bool (!a.isNone)) w := by
  cases a <;> simp only [binOp, Sem.run_bind, run_equal_nil_ptr h, Result.andThen_ok, Sem.run_pure]
theorem run_eql_sn {t e : TypeId} (h : P.underlying t = some (.slice e)) (a : Option Addr) (n c x y : Nat) : (binOp .eql t (.slice a n c) (.slice none x y)).run P w = .ok (.bool a.isNone) w := by
  simp only [binOp, Sem.run_bind, run_equal_slice_nil' h, Result.andThen_ok, Sem.run_pure]
theorem run_neq_sn {t e : TypeId} (h : P.underlying t = some (.slice e)) (a : Option Addr) (n c x y : Nat) : (binOp .neq t (.slice a n c) (.slice none x y)).run P w = .ok (.bool (!a.isNone)) w := by
  simp only [binOp, Sem.run_bind, run_equal_slice_nil' h, Result.andThen_ok, Sem.run_pure]

end

section
variable {R : Type} {P : Program} {m : Map} {F : List (List IV)} {G : GH} {w : World} {O : Ora R} {lo : List Nat} {sand : Bool} {o : Oper} {env : List IV} {a : Act} {k : IV → List (List IV) → GH → Option R} {r : R}

/-- What a comparison or a sum comes to, of related values. -/
theorem bin_rel {R : Type} {op : BinOp} {t : TypeId} {x y : IV} {k : IV → Option R} {r : R} {vx vy : Value} (ox oy : Operand) (h : binC P op t x y k = some r) (hx : VRel m x vx) (hy : VRel m y vy) :
    ∃ v v', (∀ w : World, (do eqGuard op t ox oy vx vy; binOp op t vx vy : Sem Value).run P w = .ok v' w) ∧ VRel m v v' ∧ k v = some r := by
  unfold binC at h
  split at h
  · rename_i kx a ky b
    cases hx; cases hy
    split at h
    · by_cases hb : b < 0
      · simp [hb] at h
      · rw [show decide (b < 0) = false by simp [hb]] at h
        exact ⟨_, _, fun w => by simp [run_guard_int, binOp, Op.shift, hb, shlI], .int kx _, h⟩
    · by_cases hb : b < 0
      · simp [hb] at h
      · rw [show decide (b < 0) = false by simp [hb]] at h
        exact ⟨_, _, fun w => by simp [run_guard_int, binOp, Op.shift, hb, shrI], .int kx _, h⟩
    · split at h
      · rename_i hk
        subst hk
        split at h
        · exact ⟨_, _, fun w => by simp [run_guard_int, binOp, Op.intArith], .int kx _, h⟩
        · exact ⟨_, _, fun w => by simp [run_guard_int, binOp, Op.intArith], .int kx _, h⟩
        · exact ⟨_, _, fun w => by simp [run_guard_int, binOp, Op.intArith], .int kx _, h⟩
        · by_cases hb : b = 0
          · simp [hb] at h
          · rw [show (b == 0) = false by simp [hb]] at h
            exact ⟨_, _, fun w => by simp [run_guard_int, binOp, Op.intDiv, hb], .int kx _, h⟩
        · by_cases hb : b = 0
          · simp [hb] at h
          · rw [show (b == 0) = false by simp [hb]] at h
            exact ⟨_, _, fun w => by simp [run_guard_int, binOp, Op.intDiv, hb], .int kx _, h⟩
        · exact ⟨_, _, fun w => by simp [run_guard_int, binOp, Op.intBits, andI], .int kx _, h⟩
        · exact ⟨_, _, fun w => by simp [run_guard_int, binOp, Op.intBits, orI], .int kx _, h⟩
        · exact ⟨_, _, fun w => by simp [run_guard_int, binOp, Op.intBits, xorI], .int kx _, h⟩
        · exact ⟨_, _, fun w => by simp [run_guard_int, binOp, Op.intBits, notI], .int kx _, h⟩
        · exact ⟨_, _, fun w => by simp [run_guard_int, binOp, Op.intCmp], .bool _, h⟩
        · exact ⟨_, _, fun w => by simp [run_guard_int, binOp, Op.intCmp], .bool _, h⟩
        · exact ⟨_, _, fun w => by simp [run_guard_int, binOp, Op.intCmp], .bool _, h⟩
        · exact ⟨_, _, fun w => by simp [run_guard_int, binOp, Op.intCmp], .bool _, h⟩
        · exact ⟨_, _, fun w => by simp [run_guard_int, binOp, Op.intCmp], .bool _, h⟩
        · exact ⟨_, _, fun w => by simp [run_guard_int, binOp, Op.intCmp], .bool _, h⟩
        · cases h
      · cases h
  · rename_i kx a ky b
    cases hx; cases hy
    split at h
    · rename_i hk
      subst hk
      split at h
      · split at h
        · rename_i q hq; exact ⟨_, _, fun w => by simp [run_guard_float, binOp, Op.floatArith, hq], .float kx _, h⟩
        · cases h
      · split at h
        · rename_i q hq; exact ⟨_, _, fun w => by simp [run_guard_float, binOp, Op.floatArith, hq], .float kx _, h⟩
        · cases h
      · split at h
        · rename_i q hq; exact ⟨_, _, fun w => by simp [run_guard_float, binOp, Op.floatArith, hq], .float kx _, h⟩
        · cases h
      · split at h
        · rename_i q hq; exact ⟨_, _, fun w => by simp [run_guard_float, binOp, Op.floatArith, hq], .float kx _, h⟩
        · cases h
      · exact ⟨_, _, fun w => by simp [run_guard_float, binOp, Op.floatCmp, feq], .bool _, h⟩
      · exact ⟨_, _, fun w => by simp [run_guard_float, binOp, Op.floatCmp, feq, bne], .bool _, h⟩
      · exact ⟨_, _, fun w => by simp [run_guard_float, binOp, Op.floatCmp, flt], .bool _, h⟩
      · exact ⟨_, _, fun w => by simp [run_guard_float, binOp, Op.floatCmp, fle], .bool _, h⟩
      · exact ⟨_, _, fun w => by simp [run_guard_float, binOp, Op.floatCmp, fgt], .bool _, h⟩
      · exact ⟨_, _, fun w => by simp [run_guard_float, binOp, Op.floatCmp, fge], .bool _, h⟩
      · cases h
    · cases h
  · rename_i a b
    cases hx; cases hy
    have ha : (⟨⟨a⟩⟩ : ByteArray).toList = a := ByteArray.toList_eq _
    have hb : (⟨⟨b⟩⟩ : ByteArray).toList = b := ByteArray.toList_eq _
    split at h
    · by_cases hl : a.length + b.length ≤ roomS
      · rw [show decide (a.length + b.length ≤ roomS) = true by simp [hl]] at h
        have e1 : (⟨⟨a⟩⟩ : ByteArray).size = a.length := rfl
        have e2 : (⟨⟨b⟩⟩ : ByteArray).size = b.length := rfl
        have e3 : ((⟨⟨a⟩⟩ : ByteArray) ++ ⟨⟨b⟩⟩) = ⟨⟨a ++ b⟩⟩ := by
          apply ByteArray.ext; apply Array.ext'; simp [ByteArray.data_append]
        have e4 : ¬ (((a.length + b.length : Nat) : Int) > IntKind.i64.max) := by
          have : (IntKind.i64.max) = 9223372036854775807 := by decide
          rw [this]; unfold roomS at hl; omega
        exact ⟨_, .string ⟨⟨a ++ b⟩⟩, fun w => by simp only [Sem.run_bind, run_guard_str, Result.andThen_ok, binOp, Op.stringOp, e1, e2, e4, if_false, e3, Sem.run_pure], .str _, h⟩
      · rw [show decide (a.length + b.length ≤ roomS) = false by simp [hl]] at h
        cases h
    · exact ⟨_, _, fun w => by simp only [Sem.run_bind, run_guard_str, Result.andThen_ok, binOp, Op.stringOp, ha, hb, Sem.run_pure], .bool _, h⟩
    · exact ⟨_, _, fun w => by simp only [Sem.run_bind, run_guard_str, Result.andThen_ok, binOp, Op.stringOp, ha, hb, Sem.run_pure], .bool _, h⟩
    · exact ⟨_, _, fun w => by simp only [Sem.run_bind, run_guard_str, Result.andThen_ok, binOp, Op.stringOp, ha, hb, Sem.run_pure], .bool _, h⟩
    · exact ⟨_, _, fun w => by simp only [Sem.run_bind, run_guard_str, Result.andThen_ok, binOp, Op.stringOp, ha, hb, Sem.run_pure], .bool _, h⟩
    · exact ⟨_, _, fun w => by simp only [Sem.run_bind, run_guard_str, Result.andThen_ok, binOp, Op.stringOp, ha, hb, Sem.run_pure], .bool _, h⟩
    · exact ⟨_, _, fun w => by simp only [Sem.run_bind, run_guard_str, Result.andThen_ok, binOp, Op.stringOp, ha, hb, Sem.run_pure], .bool _, h⟩
    · cases h
  · rename_i a b
    cases hx; cases hy
    split at h
    · rename_i hu; exact ⟨_, _, fun w => by simp only [Sem.run_bind, run_guard_bool, Result.andThen_ok, run_eql_bool hu], .bool _, h⟩
    · rename_i hu; exact ⟨_, _, fun w => by simp only [Sem.run_bind, run_guard_bool, Result.andThen_ok, run_neq_bool hu], .bool _, h⟩
    · cases h
  · rename_i a
    cases hy
    split at h
    · rename_i e hu
      cases hx <;> exact ⟨_, _, fun w => by simp only [Sem.run_bind, run_guard_ptr, Result.andThen_ok, run_eql_pn hu]; rfl, .bool _, h⟩
    · rename_i e hu
      cases hx <;> exact ⟨_, _, fun w => by simp only [Sem.run_bind, run_guard_ptr, Result.andThen_ok, run_neq_pn hu]; rfl, .bool _, h⟩
    · cases h
  · rename_i b _
    cases hx
    split at h
    · rename_i e hu
      cases hy <;> exact ⟨_, _, fun w => by simp only [Sem.run_bind, run_guard_ptr, Result.andThen_ok, run_eql_np hu]; rfl, .bool _, h⟩
    · rename_i e hu
      cases hy <;> exact ⟨_, _, fun w => by simp only [Sem.run_bind, run_guard_ptr, Result.andThen_ok, run_neq_np hu]; rfl, .bool _, h⟩
    · cases h
  · rename_i a n b
    cases hy
    split at h
    · rename_i e hu
      cases hx <;> exact ⟨_, _, fun w => by simp only [Sem.run_bind, run_guard_slice, Result.andThen_ok, run_eql_sn hu]; rfl, .bool _, h⟩
    · rename_i e hu
      cases hx <;> exact ⟨_, _, fun w => by simp only [Sem.run_bind, run_guard_slice, Result.andThen_ok, run_neq_sn hu]; rfl, .bool _, h⟩
    · cases h
  · rename_i xs ys
    split at h
    · rename_i hc
      simp only [Bool.and_eq_true, Bool.not_eq_true'] at hc
      obtain ⟨⟨ha, hp⟩, hg⟩ := hc
      cases hx with
      | agg _ X hsx hx =>
        cases hy with
        | agg _ Y hsy hy =>
          have he : ∀ (b : Bool), eqLeaves (leaves P 20 t) xs ys = some b → ∀ w, (Op.equal t (.agg X) (.agg Y)).run P w = .ok b w := fun b hb w =>
            run_equal_plain ha hp hb (.agg xs X hsx hx) (.agg ys Y hsy hy)
          split at h
          · rename_i b hb
            exact ⟨.bool b, .bool b, fun w => by simp only [Sem.run_bind, run_eqGuard_agg w _ _ _ _ _ _ hg, Result.andThen_ok, binOp, he b hb, Sem.run_pure], .bool _, h⟩
          · rename_i b hb
            exact ⟨.bool !b, .bool !b, fun w => by simp only [Sem.run_bind, run_eqGuard_agg w _ _ _ _ _ _ hg, Result.andThen_ok, binOp, he b hb, Sem.run_pure], .bool _, h⟩
          · cases h
    · cases h
  · cases h

theorem q_binOp (hsf : (soft lo && !sand) = false) {op : BinOp} {t yt : TypeId} {x y : Operand} (ho : o.op = .binOp op t x y yt) (h : opC P O lo sand o env F G k = some r) (hE : ERel m env a.tmps) : QuietOk P m o a w F G k r := by
  simp only [opC, ho] at h
  split at h
  · rename_i vx vy hx hy
    rw [hsf] at h
    simp only [Bool.false_eq_true, if_false] at h
    obtain ⟨v, v', h1, h2, h3⟩ := bin_rel x y h (ev_rel hE hx) (ev_rel hE hy)
    refine ⟨v, v', fun w' _ => ?_, h2, h3⟩
    have := h1 w'
    simp only [execOp, ho]
    exact run_v this
  · cases h

end
end Go.LI

/-! The quiet operations, third part: conversions, addresses, parts, loads, cuts, composites, len, min, max. -/
namespace Go.LI
open Go Go.RowKit

section
variable {R : Type} {P : Program} {m : Map} {F : List (List IV)} {G : GH} {w : World} {O : Ora R} {lo : List Nat} {sand : Bool} {o : Oper} {env : List IV} {a : Act} {k : IV → List (List IV) → GH → Option R} {r : R}

theorem fieldsT_some {t : TypeId} {f : Nat} {fd : Field} (h : (fieldsT P t)[f]? = some fd) : ∃ fs, P.underlying t = some (.struct fs) ∧ fs[f]? = some fd := by
  unfold fieldsT at h
  split at h
  · rename_i fs hu; exact ⟨fs, hu, h⟩
  · simp at h

theorem cellsT_pos {t : TypeId} (h : P.cellsOf t ≠ 0) : ∃ i, P.info? t = some i ∧ i.size = P.cellsOf t := by
  unfold Program.cellsOf at *
  cases hi : P.info? t with
  | none => rw [hi] at h; simp at h
  | some i => exact ⟨i, rfl, by simp⟩

theorem run_sizeI {t : TypeId} {i : TypeInfo} (h : P.info? t = some i) : (sizeOf t).run P w = .ok i.size w := by simp [sizeOf, typeInfo, h]

theorem addr_add (b o n : Nat) : (⟨b, o, none⟩ : Addr).add n = ⟨b, o + n, none⟩ := by
  unfold Addr.add
  split
  · rename_i h; subst h; rfl
  · rfl

/-- An address is moved on. -/
theorem addr_rel {x v : IV} {n : Nat} {vx : Value} (h : addrI x n = some v) (hx : VRel m x vx) : ∃ ad, vx = .pointer (some ad) ∧ ad.spot = none ∧ VRel m v (.pointer (some (ad.add n))) := by
  unfold addrI at h
  split at h
  · rename_i p
    injection h with h
    subst h
    cases hx with
    | ptr _ e he =>
      refine ⟨_, rfl, rfl, ?_⟩
      rw [addr_add, show e.off + p.o + n = e.off + (p.add n).o by simp [GA.add]; omega]
      exact .ptr (p.add n) e he
  · rename_i b i
    injection h with h
    subst h
    cases hx with
    | loc _ _ c hc =>
      refine ⟨_, rfl, rfl, ?_⟩
      rw [addr_add]
      exact .loc b (i + n) c hc
  · cases h

theorem q_fieldAddr {t : TypeId} {x : Operand} {f : Nat} (ho : o.op = .fieldAddr t x f) (h : opC P O lo sand o env F G k = some r) (hE : ERel m env a.tmps) : QuietOk P m o a w F G k r := by
  simp only [opC, ho] at h
  split at h
  · rename_i vx fd hx hf
    obtain ⟨fs, hu, hfd⟩ := fieldsT_some hf
    split at h
    · cases h
    · rename_i hc
      split at h
      · rename_i v hv
        obtain ⟨ad, e1, e2, e3⟩ := addr_rel hv (ev_rel hE hx)
        obtain ⟨i, hi, hs⟩ := cellsT_pos hc
        refine ⟨v, _, fun w' _ => ?_, e3, h⟩
        simp only [execOp, ho]
        refine run_v ?_
        simp [Instr.fieldAt, run_und hu, hfd, e1, Instr.sureAddr, fieldPlace, run_sizeI hi, hs, hc]
      · cases h
  · cases h

theorem ARel.part {cs : List IV} {cs' : Array Value} (h : ARel m cs cs') {off n : Nat} (hl : off + n ≤ cs.length) : VRel m (.agg ((cs.drop off).take n)) (.agg (cs'.extract off (off + n))) := by
  have hs : off + n ≤ cs'.size := by rw [← h.1]; exact hl
  refine .agg _ _ (by simp; omega) fun i iv v h1 h2 => ?_
  have hi : i < n := by
    have := (List.getElem?_eq_some_iff.1 h1).1
    simp at this; omega
  rw [List.getElem?_take_of_lt hi, List.getElem?_drop] at h1
  rw [Array.getElem?_extract, if_pos (by omega)] at h2
  exact h.2 _ _ _ h1 h2

theorem part_rel {t : TypeId} {cs : List IV} {cs' : Array Value} {off : Nat} {v : IV} (hA : ARel m cs cs') (h : partI P t cs off = some v) :
    VRel m v (partV P t cs' off (P.cellsOf t)) ∧ (∀ w, (part t cs' off).run P w = .ok (partV P t cs' off (P.cellsOf t)) w) := by
  unfold partI at h
  split at h
  · rename_i q hq
    split at h
    · rename_i ha
      split at h
      · rename_i hl
        injection h with h
        subst h
        exact ⟨by simp only [partV, ha, if_true]; exact hA.part hl, fun w => run_partV hq cs' off (fun h => by rw [ha] at h; cases h)⟩
      · cases h
    · rename_i ha
      have ha' : aggT P t = false := by simpa using ha
      obtain ⟨v', hv', hr⟩ := hA.get h
      refine ⟨?_, fun w => run_partV hq cs' off (fun _ => (Array.getElem?_eq_some_iff.1 hv').1)⟩
      simp only [partV, ha', Bool.false_eq_true, if_false, getD_of hv']
      exact hr
  · cases h

theorem q_field {t : TypeId} {x : Operand} {f : Nat} (ho : o.op = .field t x f) (h : opC P O lo sand o env F G k = some r) (hE : ERel m env a.tmps) : QuietOk P m o a w F G k r := by
  simp only [opC, ho] at h
  split at h
  · rename_i cs fd hx hf
    obtain ⟨fs, hu, hfd⟩ := fieldsT_some hf
    have hb := ev_rel hE hx
    generalize hbv : a.eval x = bv at hb
    cases hb with
    | agg _ cs' hs hc =>
      split at h
      · rename_i v hv
        obtain ⟨h1, h2⟩ := part_rel ⟨hs, hc⟩ hv
        refine ⟨v, _, fun w' _ => ?_, h1, h⟩
        simp only [execOp, ho]
        refine run_v ?_
        simp [Instr.field, run_und hu, hfd, hbv, asAgg, h2]
      · cases h
  · cases h

theorem q_index {t : TypeId} {x y : Operand} (ho : o.op = .index t x y) (h : opC P O lo sand o env F G k = some r) (hE : ERel m env a.tmps) : QuietOk P m o a w F G k r := by
  simp only [opC, ho] at h
  split at h
  · rename_i s kd i hu hx hy
    have hb := ev_rel hE hx
    have hc := ev_rel hE hy
    generalize hbv : a.eval x = bv at hb
    generalize hcv : a.eval y = cv at hc
    cases hb; cases hc
    by_cases hi : 0 ≤ i ∧ i < (s.length : Int)
    · rw [show decide (0 ≤ i ∧ i < (s.length : Int)) = true by simp [hi]] at h
      have hlt : i.toNat < s.length := by omega
      refine ⟨_, .int .u8 ((s.getD i.toNat 0).toNat), fun w' _ => ?_, .int _ _, h⟩
      simp only [execOp, ho]
      refine run_v ?_
      have e1 : (⟨⟨s⟩⟩ : ByteArray)[i.toNat]? = some (s.getD i.toNat 0) := by
        show (if h : i.toNat < (⟨⟨s⟩⟩ : ByteArray).size then some ((⟨⟨s⟩⟩ : ByteArray)[i.toNat]) else none) = _
        rw [dif_pos (show i.toNat < (⟨⟨s⟩⟩ : ByteArray).size from hlt)]
        show some (s[i.toNat]) = _
        simp [List.getD_eq_getElem?_getD, hlt]
      simp [Instr.index, hbv, hcv, asIntOf, run_und hu, hi.1, e1]
    · rw [show decide (0 ≤ i ∧ i < (s.length : Int)) = false by simp; omega] at h
      cases h
  · rename_i n e cs kd i hu hx hy
    split at h
    · rename_i hi
      split at h
      · rename_i v hv
        have hb := ev_rel hE hx
        have hc := ev_rel hE hy
        generalize hbv : a.eval x = bv at hb
        generalize hcv : a.eval y = cv at hc
        cases hc
        cases hb with
        | agg _ cs' hs hcc =>
          obtain ⟨h1, h2⟩ := part_rel ⟨hs, hcc⟩ hv
          have hq : ∃ q, P.underlying e = some q := by
            unfold partI at hv
            split at hv
            · rename_i q hq; exact ⟨q, hq⟩
            · cases hv
          obtain ⟨q, hq⟩ := hq
          refine ⟨v, _, fun w' _ => ?_, h1, h⟩
          simp only [execOp, ho]
          refine run_v ?_
          simp [Instr.index, hbv, hcv, asIntOf, run_und hu, hi.1, hi.2, run_sizeT hq, h2]
      · cases h
    · cases h
  · cases h

theorem q_indexAddr {t : TypeId} {x y : Operand} (ho : o.op = .indexAddr t x y) (h : opC P O lo sand o env F G k = some r) (hE : ERel m env a.tmps) : QuietOk P m o a w F G k r := by
  simp only [opC, ho] at h
  split at h
  · rename_i e p n kd i hu hx hy
    split at h
    · cases h
    · rename_i hz
      obtain ⟨ii, hii, hs⟩ := cellsT_pos hz
      split at h
      · rename_i q hq
        unfold idx? at hq
        split at hq
        · rename_i p
          split at hq
          · rename_i hi
            injection hq with hq
            subst hq
            have hb := ev_rel hE hx
            have hc := ev_rel hE hy
            generalize hbv : a.eval x = bv at hb
            generalize hcv : a.eval y = cv at hc
            cases hc
            cases hb with
            | slice _ en _ c he hn hc' =>
              refine ⟨_, .pointer (some ⟨en.blk, en.off + (p.add (i.toNat * P.cellsOf e)).o, none⟩), fun w' _ => ?_, .ptr _ en he, h⟩
              simp only [execOp, ho]
              refine run_v ?_
              simp [Instr.indexAt, hbv, hcv, asIntOf, run_und hu, hi.1, hi.2, run_sizeI hii, hs, addr_add, GA.add, Nat.add_assoc]
            | sliceE => omega
          · cases hq
        · cases hq
      · cases h
  · rename_i n e vx kd i hu hx hy
    split at h
    · cases h
    · rename_i hz
      obtain ⟨ii, hii, hs⟩ := cellsT_pos hz
      split at h
      · rename_i hi
        split at h
        · rename_i v hv
          have hc := ev_rel hE hy
          generalize hcv : a.eval y = cv at hc
          cases hc
          obtain ⟨ad, e1, e2, e3⟩ := addr_rel hv (ev_rel hE hx)
          refine ⟨v, _, fun w' _ => ?_, e3, h⟩
          simp only [execOp, ho]
          refine run_v ?_
          simp [Instr.indexAt, e1, hcv, asIntOf, run_und hu, hi.1, hi.2, run_sizeI hii, hs, Instr.sureAddr]
        · cases h
      · cases h
  · cases h

/-! ### Cuts -/
theorem loI_rel {l : Option Operand} {n : Int} (h : loI env l = some n) (hE : ERel m env a.tmps) : (l.map a.eval = none ∧ n = 0) ∨ ∃ kd, l.map a.eval = some (.int kd n) := by
  cases l with
  | none => simp [loI] at h; exact .inl ⟨rfl, h.symm⟩
  | some x =>
    right
    simp only [loI, intI] at h
    split at h
    · rename_i kd q hx
      injection h with h
      subst h
      have hb := ev_rel hE hx
      generalize hbv : a.eval x = bv at hb
      cases hb
      exact ⟨kd, by simp [hbv]⟩
    · cases h

theorem hiI_rel {l : Option Operand} {x : IV} {n : Int} (h : hiI env l x = some n) (hE : ERel m env a.tmps) :
    (l.map a.eval = none ∧ ((∃ s, x = .str s ∧ n = s.length) ∨ ∃ p q, x = .slice p q ∧ n = q)) ∨ ∃ kd, l.map a.eval = some (.int kd n) := by
  cases l with
  | none =>
    left
    refine ⟨rfl, ?_⟩
    simp only [hiI] at h
    split at h
    · injection h with h; exact .inl ⟨_, rfl, h.symm⟩
    · injection h with h; exact .inr ⟨_, _, rfl, h.symm⟩
    · cases h
  | some x =>
    right
    simp only [hiI, intI] at h
    split at h
    · rename_i kd q hx
      injection h with h
      subst h
      have hb := ev_rel hE hx
      generalize hbv : a.eval x = bv at hb
      cases hb
      exact ⟨kd, by simp [hbv]⟩
    · cases h

theorem run_sliceBound {kd : IntKind} {n : Int} {y : Nat} {c : BoundsCode} (h : 0 ≤ n ∧ n ≤ (y : Int)) : (Instr.sliceBound (.int kd n) y c).run P w = .ok n.toNat w := by
  simp [Instr.sliceBound, asIntOf, h.1, h.2]

theorem run_sliceBounds {isS : Bool} {len cap : Nat} {lo hi : Option Value} {l h : Int} (hlo : lo = none ∧ l = 0 ∨ ∃ kd, lo = some (.int kd l)) (hhi : hi = none ∧ h = (len : Int) ∨ ∃ kd, hi = some (.int kd h))
    (hc : h ≤ (cap : Int)) (h1 : 0 ≤ l) (h2 : l ≤ h) : (Instr.sliceBounds isS len cap lo hi none).run P w = .ok (l.toNat, h.toNat, cap) w := by
  have hh : 0 ≤ h := by omega
  rcases hhi with ⟨rfl, rfl⟩ | ⟨kd, rfl⟩
  · rcases hlo with ⟨rfl, rfl⟩ | ⟨kd, rfl⟩
    · simp [Instr.sliceBounds]
    · simp [Instr.sliceBounds, run_sliceBound (P := P) (w := w) (kd := kd) (n := l) (y := len) ⟨h1, h2⟩]
  · rcases hlo with ⟨rfl, rfl⟩ | ⟨kd', rfl⟩
    · simp [Instr.sliceBounds, run_sliceBound (P := P) (w := w) (kd := kd) (n := h) (y := cap) ⟨hh, hc⟩]
    · simp [Instr.sliceBounds, run_sliceBound (P := P) (w := w) (kd := kd) (n := h) (y := cap) ⟨hh, hc⟩, run_sliceBound (P := P) (w := w) (kd := kd') (n := l) (y := h.toNat) ⟨h1, by omega⟩]

theorem q_slice (hM : MemOk P m F G w) {t : TypeId} {x : Operand} {l h' mx : Option Operand} (ho : o.op = .slice t x l h' mx) (h : opC P O lo sand o env F G k = some r) (hE : ERel m env a.tmps) : QuietOk P m o a w F G k r := by
  simp only [opC, ho] at h
  split at h
  · rename_i vx hx
    split at h
    · rename_i ln hn hl hh
      have hl' := loI_rel hl hE
      have hh' := hiI_rel hh hE
      split at h
      · rename_i s hu
        by_cases hc : 0 ≤ ln ∧ ln ≤ hn ∧ hn ≤ (s.length : Int)
        · rw [show decide (0 ≤ ln ∧ ln ≤ hn ∧ hn ≤ (s.length : Int)) = true by simp [hc]] at h
          have hb := ev_rel hE hx
          generalize hbv : a.eval x = bv at hb
          cases hb
          have e1 : (⟨⟨s⟩⟩ : ByteArray).size = s.length := rfl
          have e2 : (⟨⟨s⟩⟩ : ByteArray).extract ln.toNat hn.toNat = ⟨⟨(s.drop ln.toNat).take (hn.toNat - ln.toNat)⟩⟩ := by
            apply ByteArray.ext
            rw [ByteArray.data_extract]
            apply Array.ext'
            simp
          refine ⟨_, .string ⟨⟨(s.drop ln.toNat).take (hn.toNat - ln.toNat)⟩⟩, fun w' _ => ?_, .str _, h⟩
          simp only [execOp, ho]
          refine run_v ?_
          have := run_sliceBounds (P := P) (w := w') (isS := false) (len := s.length) (cap := s.length) (lo := l.map a.eval) (hi := h'.map a.eval) hl'
            (by rcases hh' with ⟨q1, ⟨s', q2, q3⟩ | ⟨p, q, q2, q3⟩⟩ | q
                · injection q2 with q2; subst q2; exact .inl ⟨q1, q3⟩
                · cases q2
                · exact .inr q) hc.2.2 hc.1 hc.2.1
          simp [Instr.sliceAt, run_und hu, Instr.slice, hbv, e1, this, e2]
        · rw [show decide (0 ≤ ln ∧ ln ≤ hn ∧ hn ≤ (s.length : Int)) = false by simp; omega] at h
          cases h
      · rename_i e p n hu
        split at h
        · cases h
        · rename_i hz
          obtain ⟨ii, hii, hs⟩ := cellsT_pos hz
          by_cases hc : (0 ≤ ln ∧ ln ≤ hn ∧ hn ≤ (n : Int)) ∧ gcut G p e = true
          · obtain ⟨hc, hcut⟩ := hc
            rw [show decide (0 ≤ ln ∧ ln ≤ hn ∧ hn ≤ (n : Int)) = true by simp [hc], hcut] at h
            have hh2 : ∀ {c : Nat}, (h'.map a.eval = none ∧ hn = (n : Int) ∨ ∃ kd, h'.map a.eval = some (.int kd hn)) := by
              intro c
              rcases hh' with ⟨q1, ⟨s', q2, q3⟩ | ⟨p', q, q2, q3⟩⟩ | q
              · cases q2
              · injection q2 with q2 q4; subst q4; exact .inl ⟨q1, q3⟩
              · exact .inr q
            have hb := ev_rel hE hx
            generalize hbv : a.eval x = bv at hb
            cases hb with
            | sliceNil =>
              have hb2 : ∀ w', _ := fun w' => run_sliceBounds (P := P) (w := w') (isS := true) (len := 0) (cap := 0) (lo := l.map a.eval) (hi := h'.map a.eval) hl' (hh2 (c := 0)) hc.2.2 hc.1 hc.2.1
              have : hn.toNat - ln.toNat = 0 := by omega
              rw [this] at h
              refine ⟨_, .slice none 0 0, fun w' _ => ?_, .sliceNil, h⟩
              simp only [execOp, ho]
              refine run_v ?_
              simp [Instr.sliceAt, run_und hu, Instr.slice, hbv, hb2, run_sizeI hii, this]
            | sliceE p a' =>
              have hb2 : ∀ w', _ := fun w' => run_sliceBounds (P := P) (w := w') (isS := true) (len := 0) (cap := 0) (lo := l.map a.eval) (hi := h'.map a.eval) hl' (hh2 (c := 0)) hc.2.2 hc.1 hc.2.1
              have e1 : hn.toNat - ln.toNat = 0 := by omega
              have e2 : ln.toNat = 0 := by omega
              rw [e1] at h
              refine ⟨_, .slice (some a') 0 0, fun w' _ => ?_, .sliceE _ _, h⟩
              simp only [execOp, ho]
              refine run_v ?_
              simp [Instr.sliceAt, run_und hu, Instr.slice, hbv, hb2, run_sizeI hii, e2]
              omega
            | slice p en _ c he hnc hrw =>
              have hb2 : ∀ w', _ := fun w' => run_sliceBounds (P := P) (w := w') (isS := true) (len := n) (cap := c) (lo := l.map a.eval) (hi := h'.map a.eval) hl' (hh2 (c := c)) (by omega) hc.1 hc.2.1
              by_cases hcl : c = ln.toNat
              · subst hcl
                have e1 : hn.toNat - ln.toNat = 0 := by omega
                rw [e1] at h
                refine ⟨_, .slice (some ⟨en.blk, en.off + p.o, none⟩) 0 0, fun w' _ => ?_, .sliceE _ _, h⟩
                simp only [execOp, ho]
                refine run_v ?_
                simp [Instr.sliceAt, run_und hu, Instr.slice, hbv, hb2, run_sizeI hii, e1]
              · refine ⟨_, .slice (some ⟨en.blk, en.off + (p.add (ln.toNat * P.cellsOf e)).o, none⟩) (hn.toNat - ln.toNat) (c - ln.toNat), fun w' _ => ?_, ?_, h⟩
                · simp only [execOp, ho]
                  refine run_v ?_
                  simp [Instr.sliceAt, run_und hu, Instr.slice, hbv, hb2, run_sizeI hii, hcl, hs, addr_add, GA.add, Nat.add_assoc]
                · refine .slice _ en _ _ he (by omega) fun hw => ?_
                  have h1 := hrw hw
                  simp only [gcut] at hcut
                  split at hcut
                  · rename_i blk hblk
                    simp only [Bool.and_eq_true, decide_eq_true_eq, beq_iff_eq] at hcut
                    have h2 := hM.z _ _ _ hblk hcut.1 he hw
                    rw [hcut.2] at h2
                    simp only [GA.add]
                    rw [← h2]
                    have h3 : ln.toNat ≤ c := by omega
                    have h4 : c * en.esz = ln.toNat * en.esz + (c - ln.toNat) * en.esz := by rw [← Nat.add_mul]; congr 1; omega
                    omega
                  · cases hcut
          · rw [show (decide (0 ≤ ln ∧ ln ≤ hn ∧ hn ≤ (n : Int)) && gcut G p e) = false by
              cases hg : gcut G p e
              · simp
              · simp only [hg, and_true] at hc
                simp only [Bool.and_true]
                exact decide_eq_false hc] at h
            cases h
      · cases h
    · cases h
  · cases h

end
end Go.LI

/-! The quiet operations, fourth part: loads, composites, conversions, len, min, max. -/
set_option linter.unusedVariables false
namespace Go.LI
open Go Go.RowKit

section
variable {R : Type} {P : Program} {m : Map} {F : List (List IV)} {G : GH} {w : World} {O : Ora R} {lo : List Nat} {sand : Bool} {o : Oper} {env : List IV} {a : Act} {k : IV → List (List IV) → GH → Option R} {r : R}

/-! ### Loads -/
theorem ldLeaf_some {R : Type} {G : GH} {a : GA} {l : Leaf} {k : IV → Option R} {r : R} (h : ldLeaf G a l k = some r) : ∃ iv, gld G a = some iv ∧ k iv = some r := by
  cases l with
  | int kd =>
    simp only [ldLeaf, ldInt] at h
    split at h
    · rename_i n hn
      split at hn
      · rename_i k' n' hg
        split at hn
        · rename_i hk; injection hn with hn; subst hk; subst hn; exact ⟨_, hg, h⟩
        · cases hn
      · cases hn
    · cases h
  | float kd =>
    simp only [ldLeaf, ldFloat] at h
    split at h
    · rename_i n hn
      split at hn
      · rename_i k' n' hg
        split at hn
        · rename_i hk; injection hn with hn; subst hk; subst hn; exact ⟨_, hg, h⟩
        · cases hn
      · cases hn
    · cases h
  | bool =>
    simp only [ldLeaf, ldBool] at h
    split at h
    · rename_i n hn
      split at hn
      · rename_i b hg; injection hn with hn; subst hn; exact ⟨_, hg, h⟩
      · cases hn
    · cases h
  | str =>
    simp only [ldLeaf, ldStr] at h
    split at h
    · rename_i n hn
      split at hn
      · rename_i b hg; injection hn with hn; subst hn; exact ⟨_, hg, h⟩
      · cases hn
    · cases h
  | ptr =>
    simp only [ldLeaf, ldPtr] at h
    split at h
    · rename_i n hn
      split at hn
      · rename_i b hg; injection hn with hn; subst hn; exact ⟨_, hg, h⟩
      · cases hn
    · cases h
  | slice =>
    simp only [ldLeaf, ldSlice] at h
    split at h
    · rename_i n hn
      split at hn
      · rename_i b q hg; injection hn with hn; subst hn; exact ⟨_, hg, h⟩
      · cases hn
    · cases h
  | raw =>
    simp only [ldLeaf] at h
    split at h
    · rename_i v hv; exact ⟨_, hv, h⟩
    · cases h

theorem ldCells_some {R : Type} {G : GH} {a : GA} : ∀ {ls : List Leaf} {i : Nat} {k : List IV → Option R} {r : R}, ldCells G a ls i k = some r →
    ∃ vs, vs.length = ls.length ∧ (∀ (j : Nat) (iv : IV), vs[j]? = some iv → gld G (a.add (i + j)) = some iv) ∧ k vs = some r
  | [], i, k, r, h => ⟨[], rfl, fun j iv h => by simp at h, h⟩
  | l :: ls, i, k, r, h => by
    simp only [ldCells] at h
    obtain ⟨iv, h1, h2⟩ := ldLeaf_some h
    obtain ⟨vs, h3, h4, h5⟩ := ldCells_some h2
    refine ⟨iv :: vs, by simp [h3], fun j iv' hj => ?_, h5⟩
    cases j with
    | zero => simp at hj; subst hj; exact h1
    | succ j =>
      have := h4 j iv' (by simpa using hj)
      rw [show i + (j + 1) = i + 1 + j by omega]; exact this

theorem listAt {b : Nat} : ∀ {vs : List IV} {o : Nat}, (∀ (i : Nat) (iv : IV), vs[i]? = some iv → ∃ v, w.cell? ⟨b, o + i, none⟩ = some v ∧ VRel m iv v) →
    ∃ l : List Value, l.length = vs.length ∧ (∀ (j : Nat) (v : Value), l[j]? = some v → w.cell? ⟨b, o + j, none⟩ = some v) ∧ ∀ (i : Nat) (iv : IV) (v : Value), vs[i]? = some iv → l[i]? = some v → VRel m iv v
  | [], o, _ => ⟨[], rfl, fun j v h => by simp at h, fun i iv v h => by simp at h⟩
  | x :: vs, o, h => by
    obtain ⟨v, hv, hr⟩ := h 0 x rfl
    obtain ⟨l, h1, h2, h3⟩ := listAt (vs := vs) (o := o + 1) fun i iv hi => by
      obtain ⟨v, hv, hr⟩ := h (i + 1) iv (by simpa using hi)
      exact ⟨v, by rw [show o + 1 + i = o + (i + 1) by omega]; exact hv, hr⟩
    refine ⟨v :: l, by simp [h1], fun j v' hj => ?_, fun i iv v' hi hj => ?_⟩
    · cases j with
      | zero => simp at hj; subst hj; exact hv
      | succ j => rw [show o + (j + 1) = o + 1 + j by omega]; exact h2 j v' (by simpa using hj)
    · cases i with
      | zero => simp at hi hj; subst hi; subst hj; exact hr
      | succ i => exact h3 i iv v' (by simpa using hi) (by simpa using hj)

/-- Cells of a row that has not turned are read. -/
theorem run_cells {b o : Nat} {l : List Value} (hb : b < w.heap.size) (hl : ∀ (j : Nat) (v : Value), l[j]? = some v → w.cell? ⟨b, o + j, none⟩ = some v) {w' : World} (hw : w'.heap[b]? = w.heap[b]?) :
    (loadCells ⟨b, o, none⟩ l.length).run P w' = .ok l.toArray w' := by
  refine run_loadCells_list (P := P) (w := w') ⟨b, o, none⟩ l fun j v hj => ?_
  rw [addr_add]
  have : w'.cell? ⟨b, o + j, none⟩ = w.cell? ⟨b, o + j, none⟩ := by simp only [World.cell?, hw]
  rw [this]
  exact hl j v hj

theorem run_cell {b o : Nat} {v : Value} (hb : b < w.heap.size) (hl : w.cell? ⟨b, o, none⟩ = some v) {w' : World} (hw : w'.heap[b]? = w.heap[b]?) :
    (load ⟨b, o, none⟩).run P w' = .ok v w' := by
  have h0 : w'.cell? ⟨b, o, none⟩ = w.cell? ⟨b, o, none⟩ := by simp only [World.cell?, hw]
  have := h0.trans hl
  simp [this]

/-- What is to be read stands there as it did. -/
structure Vis (m : Map) (F : List (List IV)) (G : GH) (w w' : World) : Prop where
  g : ∀ (a : GA) (iv : IV) (e : Ent), gld G a = some iv → m.g a.b = some e → w'.heap[e.blk]? = w.heap[e.blk]?
  f : ∀ (i : Nat) (cs : List IV) (b o : Nat) (iv : IV), F[i]? = some cs → m.f i = some b → cs[o]? = some iv → w'.heap[b]? = w.heap[b]?

theorem MemOk.vis (h : MemOk P m F G w) {w' : World} (hb : Below w.heap.size w w') : Vis m F G w w' where
  g := fun a iv e hg he => hb.block _ (h.g a iv e hg he).1
  f := fun i cs b o iv hi hb' ho => hb.block _ (h.f i cs b hi hb').1

/-- A variable is loaded. -/
theorem load_rel {R : Type} (hM : MemOk P m F G w) {t : TypeId} {x : IV} {vx : Value} {k : IV → Option R} {r : R} (h : loadC P t x F G k = some r) (hx : VRel m x vx) :
    ∃ ad v v', vx = .pointer (some ad) ∧ (∀ w', Vis m F G w w' → (loadVar t ad).run P w' = .ok v' w') ∧ VRel m v v' ∧ k v = some r := by
  unfold loadC at h
  split at h
  · rename_i p
    cases hx with
    | ptr _ e he =>
      refine ⟨⟨e.blk, e.off + p.o, none⟩, ?_⟩
      split at h
      · rename_i ha
        split at h
        · rename_i hlen
          obtain ⟨vs, h1, h2, h3⟩ := ldCells_some h
          have hq : ∃ q, P.underlying t = some q := by
            unfold aggT at ha
            split at ha <;> first | (rename_i hq; exact ⟨_, hq⟩) | cases ha
          obtain ⟨q, hq⟩ := hq
          have hcell : ∀ (i : Nat) (iv : IV), vs[i]? = some iv → ∃ v, w.cell? ⟨e.blk, e.off + p.o + i, none⟩ = some v ∧ VRel m iv v := by
            intro i iv hi
            obtain ⟨_, v, hv, hr⟩ := hM.g (p.add (0 + i)) iv e (h2 i iv hi) he
            exact ⟨v, by rw [← hv]; simp [GA.add, Nat.add_assoc], hr⟩
          obtain ⟨l, l1, l2, l3⟩ := listAt hcell
          have hsz : l.length = P.cellsOf t := by rw [l1, h1, hlen]
          refine ⟨.agg vs, .agg l.toArray, rfl, fun w' hw => ?_, .agg _ _ (by simp [l1]) fun i iv v hi hv => l3 i iv v hi (by simpa using hv), h3⟩
          simp only [loadVar, Sem.run_bind, run_isAggT hq, Result.andThen_ok, ha, if_true, run_sizeT hq]
          by_cases hz : l.length = 0
          · have : l = [] := List.length_eq_zero_iff.1 hz
            subst this
            rw [← hsz]
            simp [loadCells, loadCellsFrom]
          · have h0 : 0 < vs.length := by omega
            have hb : e.blk < w.heap.size := (hM.g (p.add (0 + 0)) vs[0] e (h2 0 vs[0] (List.getElem?_eq_getElem h0)) he).1
            rw [← hsz, run_cells hb l2 (hw.g (p.add (0 + 0)) vs[0] e (h2 0 vs[0] (List.getElem?_eq_getElem h0)) he)]
            rfl
        · cases h
      · rename_i ha
        have ha' : aggT P t = false := by simpa using ha
        split at h
        · rename_i l hl
          obtain ⟨iv, h1, h2⟩ := ldLeaf_some h
          obtain ⟨hb, v, hv, hr⟩ := hM.g p iv e h1 he
          have hq : ∃ q, P.underlying t = some q := by
            cases hu : P.underlying t with
            | none => simp [leaves, hu] at hl
            | some q => exact ⟨q, rfl⟩
          obtain ⟨q, hq⟩ := hq
          refine ⟨iv, v, rfl, fun w' hw => ?_, hr, h2⟩
          simp only [loadVar, Sem.run_bind, run_isAggT hq, Result.andThen_ok, ha', Bool.false_eq_true, if_false, run_cell hb hv (hw.g p iv e h1 he)]
        · cases h
  · rename_i b i
    cases hx with
    | loc _ _ c hc =>
      refine ⟨⟨c, i, none⟩, ?_⟩
      split at h
      · rename_i cs hcs
        obtain ⟨hb, hcell⟩ := hM.f _ _ _ hcs hc
        split at h
        · rename_i v hv
          unfold partI at hv
          split at hv
          · rename_i q hq
            split at hv
            · rename_i ha
              split at hv
              · rename_i hl
                injection hv with hv
                subst hv
                have hcell' : ∀ (j : Nat) (iv : IV), ((cs.drop i).take (P.cellsOf t))[j]? = some iv → ∃ v, w.cell? ⟨c, i + j, none⟩ = some v ∧ VRel m iv v := by
                  intro j iv hj
                  have hlt : j < P.cellsOf t := by
                    have := (List.getElem?_eq_some_iff.1 hj).1
                    simp at this; omega
                  rw [List.getElem?_take_of_lt hlt, List.getElem?_drop] at hj
                  exact hcell _ _ hj
                obtain ⟨l, l1, l2, l3⟩ := listAt hcell'
                have hsz : l.length = P.cellsOf t := by rw [l1]; simp; omega
                refine ⟨_, .agg l.toArray, rfl, fun w' hw => ?_, .agg _ _ (by simp [l1]) fun i iv v hi hv => l3 i iv v hi (by simpa using hv), h⟩
                simp only [loadVar, Sem.run_bind, run_isAggT hq, Result.andThen_ok, ha, if_true, run_sizeT hq]
                by_cases hz : l.length = 0
                · have : l = [] := List.length_eq_zero_iff.1 hz
                  subst this
                  rw [← hsz]
                  simp [loadCells, loadCellsFrom]
                · have hlt : i < cs.length := by omega
                  rw [← hsz, run_cells hb l2 (hw.f b cs c i cs[i] hcs hc (List.getElem?_eq_getElem hlt))]
                  rfl
              · cases hv
            · rename_i ha
              have ha' : aggT P t = false := by simpa using ha
              obtain ⟨v', hv', hr⟩ := hcell _ _ hv
              refine ⟨v, v', rfl, fun w' hw => ?_, hr, h⟩
              simp only [loadVar, Sem.run_bind, run_isAggT hq, Result.andThen_ok, ha', Bool.false_eq_true, if_false, run_cell hb hv' (hw.f b cs c i v hcs hc hv)]
          · cases hv
        · cases h
      · cases h
  · cases h

theorem q_load (hM : MemOk P m F G w) {t : TypeId} {x : Operand} (ho : o.op = .load t x) (h : opC P O lo sand o env F G k = some r) (hE : ERel m env a.tmps) : QuietOk P m o a w F G k r := by
  simp only [opC, ho] at h
  split at h
  · rename_i vx hx
    obtain ⟨ad, v, v', h1, h2, h3, h4⟩ := load_rel hM h (ev_rel hE hx)
    refine ⟨v, v', fun w' hw => ?_, h3, h4⟩
    simp only [execOp, ho]
    refine run_v ?_
    simp [Instr.loadAt, h1, Instr.sureAddr, h2 w' (hM.vis hw)]
  · cases h

/-! ### Composites -/
theorem cells_rel {v : IV} {v' : Value} (h : VRel m v v') : ARel m v.cells v'.cells := by
  cases h <;> first
    | (refine ⟨rfl, fun i iv v h1 h2 => ?_⟩
       simp only [IV.cells, Value.cells] at h1 h2
       cases i with
       | zero => simp at h1 h2; subst h1; subst h2; constructor <;> assumption
       | succ i => simp at h1)
    | (exact ⟨by assumption, by assumption⟩)

theorem zeroT_some {t : TypeId} {z : IV} (h : zeroT P t = some z) : ∃ i v, P.info? t = some i ∧ i.zero = some v ∧ ofValue v = some z := by
  unfold zeroT at h
  split at h
  · rename_i i hi
    split at h
    · rename_i v hv; exact ⟨i, v, hi, hv, h⟩
    · cases h
  · cases h

theorem splice_get {cs vs : List IV} {off i : Nat} (hl : off + vs.length ≤ cs.length) : (splice cs off vs)[i]? = if off ≤ i ∧ i < off + vs.length then vs[i - off]? else cs[i]? := by
  unfold splice
  by_cases h1 : i < off
  · rw [List.append_assoc, List.getElem?_append_left (by simp; omega), List.getElem?_take_of_lt h1, if_neg (by omega)]
  · by_cases h2 : i < off + vs.length
    · rw [List.append_assoc, List.getElem?_append_right (by simp; omega), List.getElem?_append_left (by simp; omega), if_pos ⟨by omega, h2⟩]
      congr 1; simp; omega
    · rw [List.getElem?_append_right (by simp; omega), if_neg (by omega), List.getElem?_drop]
      congr 1; simp; omega

theorem splice_len {cs vs : List IV} {off : Nat} (hl : off + vs.length ≤ cs.length) : (splice cs off vs).length = cs.length := by
  simp [splice]; omega

theorem foldl_set_size (off : Nat) : ∀ (l : List (Value × Nat)) (cs : Array Value), (l.foldl (fun cs x => cs.setIfInBounds (off + x.2) x.1) cs).size = cs.size
  | [], cs => rfl
  | x :: l, cs => by simp [foldl_set_size off l]

theorem foldl_set_get (off : Nat) : ∀ (vs : List Value) (j : Nat) (cs : Array Value) (i : Nat), off + j + vs.length ≤ cs.size →
    ((vs.zipIdx j).foldl (fun cs x => cs.setIfInBounds (off + x.2) x.1) cs)[i]? = if off + j ≤ i ∧ i < off + j + vs.length then vs[i - (off + j)]? else cs[i]?
  | [], j, cs, i, _ => by simp; omega
  | v :: vs, j, cs, i, h => by
    simp only [List.length_cons] at h
    simp only [List.zipIdx_cons, List.foldl_cons]
    rw [foldl_set_get off vs (j + 1) _ i (by simp; omega)]
    by_cases h1 : i = off + j
    · subst h1
      rw [if_neg (by omega), if_pos (by simp)]
      rw [Array.getElem?_setIfInBounds_self_of_lt (by omega)]
      simp
    · by_cases h2 : off + j ≤ i ∧ i < off + j + (v :: vs).length
      · simp only [List.length_cons] at h2
        rw [if_pos (by omega), if_pos (by simp; omega)]
        rw [show i - (off + j) = (i - (off + (j + 1))) + 1 by omega, List.getElem?_cons_succ]
      · simp only [List.length_cons] at h2
        rw [if_neg (by omega), if_neg (by simp; omega)]
        rw [Array.getElem?_setIfInBounds_ne (by omega)]

theorem fill_rel {place : Nat → Option (Nat × Nat)} : ∀ {vs : List (Nat × IV)} {vs' : List (Nat × Value)} {cs : List IV} {cs' : Array Value} {out : List IV}, PRel m vs vs' → ARel m cs cs' → fillI place cs vs = some out →
    ∃ out', Instr.fill place cs' vs' = some out' ∧ ARel m out out'
  | [], _, cs, cs', out, .nil, hc, h => by simp [fillI] at h; subst h; exact ⟨cs', rfl, hc⟩
  | _ :: vs, _ :: vs', cs, cs', out, .cons i iv v _ _ hv hs, hc, h => by
    simp only [fillI] at h
    split at h
    · cases h
    · rename_i off size hp
      split at h
      · cases h
      · rename_i hn
        have hcr := cells_rel hv
        have e1 : iv.cells.length = v.cells.size := hcr.1
        have hn1 : v.cells.size = size := by omega
        have hn2 : off + v.cells.size ≤ cs'.size := by rw [← hc.1, ← e1]; omega
        have hA : ARel m (splice cs off iv.cells) (v.cells.zipIdx.foldl (fun cs x => cs.setIfInBounds (off + x.2) x.1) cs') := by
          have hz : v.cells.zipIdx.foldl (fun cs x => cs.setIfInBounds (off + x.2) x.1) cs' = (v.cells.toList.zipIdx 0).foldl (fun cs x => cs.setIfInBounds (off + x.2) x.1) cs' := by
            rw [← Array.foldl_toList]; simp
          rw [hz]
          refine ⟨by rw [splice_len (by omega), foldl_set_size, hc.1], fun q x y hx hy => ?_⟩
          rw [splice_get (by omega)] at hx
          rw [foldl_set_get off _ 0 _ _ (by simpa using hn2)] at hy
          simp only [Nat.add_zero, Array.length_toList, ← e1] at hy
          split at hx
          · rename_i hq
            rw [if_pos hq] at hy
            exact hcr.2 _ x y hx (by simpa using hy)
          · rename_i hq
            rw [if_neg hq] at hy
            exact hc.2 _ x y hx hy
        obtain ⟨out', h1, h2⟩ := fill_rel hs hA h
        refine ⟨out', ?_, h2⟩
        simp only [Instr.fill, hp]
        rw [if_neg (by simp; omega)]
        exact h1

theorem run_places (fs : List Field) (h : ∀ f ∈ fs, (P.info? f.type).isSome = true) (w' : World) :
    (fs.mapM (fun f => do pure (f.offset, ← sizeOf f.type)) : Sem (List (Nat × Nat))).run P w' = .ok (fs.map fun f => (f.offset, P.cellsOf f.type)) w' := by
  induction fs with
  | nil => rfl
  | cons f fs ih =>
    obtain ⟨i, hi⟩ := Option.isSome_iff_exists.1 (h f (by simp))
    have ih' := ih fun g hg => h g (by simp [hg])
    simp only [bind_pure_comp] at ih' ⊢
    simp [run_sizeI hi, ih', Program.cellsOf, hi]

theorem q_build {t : TypeId} {ps : Array (Nat × Operand)} (ho : o.op = .build t ps) (h : opC P O lo sand o env F G k = some r) (hE : ERel m env a.tmps) : QuietOk P m o a w F G k r := by
  simp only [opC, ho] at h
  split at h
  · rename_i z vs fs hz hv hu
    split at h
    · rename_i hall
      split at h
      · rename_i cs hcs
        obtain ⟨i, zv, h1, h2, h3⟩ := zeroT_some hz
        obtain ⟨out', h4, h5⟩ := fill_rel (evParts_rel hE hv) (cells_rel (ofValue_rel (m := m) h3)) hcs
        refine ⟨.agg cs, .agg out', fun w' _ => ?_, .agg _ _ h5.1 h5.2, h⟩
        simp only [execOp, ho]
        refine run_v ?_
        have hp := run_places (P := P) fs.toList (fun f hf => List.all_eq_true.1 hall f hf) w'
        have hpl : (fs.mapM (fun f => do pure (f.offset, ← sizeOf f.type)) : Sem (Array (Nat × Nat))).run P w' = .ok (fs.map fun f => (f.offset, P.cellsOf f.type)) w' := by
          rw [Array.mapM_eq_mapM_toList]
          simp only [Sem.run_map, hp, Result.andThen_ok]
          congr 1
          apply Array.ext'; simp
        have hpf : (fun x : Nat => (fs.map fun (f : Field) => (f.offset, P.cellsOf f.type))[x]?) = (fun i : Nat => (fs[i]?).map fun (f : Field) => (f.offset, P.cellsOf f.type)) := by
          funext x; simp
        have h4' : Instr.fill (fun x : Nat => (fs.map fun (f : Field) => (f.offset, P.cellsOf f.type))[x]?) zv.cells (ps.map fun (i, x) => (i, a.eval x)).toList = some out' := by
          rw [hpf, ← h4]; simp
        simp only [Instr.build, zeroValue, typeInfo, Sem.run_bind, run_program, Result.andThen_ok, h1, h2, Sem.run_pure, run_und hu, hpl, h4']
      · cases h
    · cases h
  · rename_i z vs n e hz hv hu
    split at h
    · rename_i hall
      split at h
      · rename_i cs hcs
        obtain ⟨i, zv, h1, h2, h3⟩ := zeroT_some hz
        obtain ⟨ii, hii⟩ := Option.isSome_iff_exists.1 hall
        have hsz : P.cellsOf e = ii.size := by simp [Program.cellsOf, hii]
        obtain ⟨out', h4, h5⟩ := fill_rel (evParts_rel hE hv) (cells_rel (ofValue_rel (m := m) h3)) hcs
        refine ⟨.agg cs, .agg out', fun w' _ => ?_, .agg _ _ h5.1 h5.2, h⟩
        simp only [execOp, ho]
        refine run_v ?_
        have h4' : Instr.fill (fun i => some (i * ii.size, ii.size)) zv.cells (ps.map fun (i, x) => (i, a.eval x)).toList = some out' := by
          rw [← hsz, ← h4]; simp
        simp only [Instr.build, zeroValue, typeInfo, Sem.run_bind, run_program, Result.andThen_ok, h1, h2, Sem.run_pure, run_und hu, run_sizeI hii, h4']
      · cases h
    · cases h
  · cases h

/-! ### Conversions -/
theorem grd_some {G : GH} {a : GA} {n : Nat} {cs : List IV} (h : grd G a n = some cs) : cs.length = n ∧ (∀ (j : Nat) (iv : IV), cs[j]? = some iv → gld G (a.add j) = some iv) ∧ ∃ k, G[a.b]? = some k ∧ k.mode ≤ 1 := by
  unfold grd at h
  split at h
  · rename_i k hk
    split at h
    · rename_i hc
      injection h with h
      subst h
      refine ⟨by simp; omega, fun j iv hj => ?_, k, hk, hc.1⟩
      have hlt : j < n := by
        have := (List.getElem?_eq_some_iff.1 hj).1
        simp at this; omega
      rw [List.getElem?_take_of_lt hlt, List.getElem?_drop] at hj
      simp only [gld, GA.add, hk, hc.1, if_true]
      exact hj
    · cases h
  · cases h

/-- The cells that 'grd' reads, in the model. -/
theorem grd_cells (hM : MemOk P m F G w) {p : GA} {n : Nat} {cs : List IV} (h : grd G p n = some cs) {e : Ent} (he : m.g p.b = some e) :
    ∃ l : List Value, l.length = n ∧ (∀ w', Below w.heap.size w w' → (loadCells ⟨e.blk, e.off + p.o, none⟩ n).run P w' = .ok l.toArray w') ∧ (∀ (i : Nat) (iv : IV) (v : Value), cs[i]? = some iv → l[i]? = some v → VRel m iv v) ∧ ∀ (j : Nat) (v : Value), l[j]? = some v → w.cell? ⟨e.blk, e.off + p.o + j, none⟩ = some v := by
  obtain ⟨h1, h2, _⟩ := grd_some h
  have hcell : ∀ (i : Nat) (iv : IV), cs[i]? = some iv → ∃ v, w.cell? ⟨e.blk, e.off + p.o + i, none⟩ = some v ∧ VRel m iv v := by
    intro i iv hi
    obtain ⟨_, v, hv, hr⟩ := hM.g (p.add i) iv e (h2 i iv hi) he
    exact ⟨v, by rw [← hv]; simp [GA.add, Nat.add_assoc], hr⟩
  obtain ⟨l, l1, l2, l3⟩ := listAt hcell
  refine ⟨l, by omega, fun w' hw => ?_, l3, l2⟩
  by_cases hz : l.length = 0
  · have hl : l = [] := List.length_eq_zero_iff.1 hz
    subst hl
    have hn : n = 0 := by simp at l1; omega
    subst hn
    simp [loadCells, loadCellsFrom]
  · have h0 : 0 < cs.length := by omega
    have hb : e.blk < w.heap.size := (hM.g (p.add 0) cs[0] e (h2 0 cs[0] (List.getElem?_eq_getElem h0)) he).1
    have := run_cells (P := P) hb l2 (hw.block _ hb)
    rw [show n = l.length by omega]
    exact this

theorem asBytes_some : ∀ {cs : List IV} {l : List UInt8}, asBytes cs = some l → ∃ ns : List Int, cs = ns.map (IV.int .u8) ∧ l = ns.map fun n => UInt8.ofNat n.toNat
  | [], l, h => by simp [asBytes] at h; exact ⟨[], rfl, by simpa using h⟩
  | x :: cs, l, h => by
    unfold asBytes at h
    split at h
    · rename_i hq; cases hq
    · rename_i n r hq
      injection hq with e1 e2
      subst e1; subst e2
      split at h
      · rename_i l' hl'
        injection h with h
        obtain ⟨ns, h1, h2⟩ := asBytes_some hl'
        exact ⟨n :: ns, by simp [h1], by rw [← h, h2]; rfl⟩
      · cases h
    · cases h

theorem foldl_push (f : Int → UInt8) : ∀ (ns : List Int) (s : ByteArray), ns.foldl (fun r n => r.push (f n)) s = ⟨⟨s.data.toList ++ ns.map f⟩⟩
  | [], s => by simp
  | n :: ns, s => by
    simp only [List.foldl_cons]
    rw [foldl_push f ns]
    simp [ByteArray.push]

theorem ints_rel {ns : List Int} {l : List Value} (hl : l.length = ns.length) (h : ∀ (i : Nat) (iv : IV) (v : Value), (ns.map (IV.int .u8))[i]? = some iv → l[i]? = some v → VRel m iv v) : l = ns.map (Value.int .u8) := by
  apply List.ext_getElem?
  intro i
  by_cases hi : i < l.length
  · have h1 : i < ns.length := by omega
    have := h i (.int .u8 ns[i]) l[i] (by simp [h1]) (List.getElem?_eq_getElem hi)
    rw [List.getElem?_eq_getElem hi]
    generalize l[i] = x at *
    cases this
    simp [h1]
  · rw [List.getElem?_eq_none (by omega), List.getElem?_eq_none (by simp; omega)]

theorem conv_rel {R : Type} {s d : TypeId} {x : IV} {vx : Value} {k : IV → GH → Option R} {r : R} (hq : (match P.underlying d with | some (.slice _) => true | _ => false) = false) (hM : MemOk P m F G w)
    (h : convC P s d x G k = some r) (hx : VRel m x vx) :
    ∃ v v', (∀ w', Below w.heap.size w w' → (convert s d vx).run P w' = .ok v' w') ∧ VRel m v v' ∧ k v G = some r := by
  unfold convC at h
  split at h
  · rename_i q kd kk n hs hd
    cases hx
    exact ⟨_, _, fun w' _ => by simp [convert, run_und hs, run_und hd, Conv.intToInt], .int kd _, h⟩
  · rename_i q kd kk n hs hd
    cases hx
    exact ⟨_, _, fun w' _ => by simp [convert, run_und hs, run_und hd, Conv.intToFloat], .float kd _, h⟩
  · rename_i q kd sk b hs hd
    cases hx
    split at h
    · rename_i n hn
      unfold f2i at hn
      split at hn
      · rename_i n' hn'
        split at hn
        · rename_i hr
          injection hn with hn
          subst hn
          exact ⟨_, _, fun w' _ => by simp [convert, run_und hs, run_und hd, Conv.floatToInt, hn', hr.1, hr.2], .int kd _, h⟩
        · cases hn
      · cases hn
    · cases h
  · rename_i q kd sk b hs hd
    cases hx
    split at h
    · rename_i n hn
      unfold f2f at hn
      split at hn
      · rename_i hk
        injection hn with hn
        subst hn
        exact ⟨_, _, fun w' _ => by simp [convert, run_und hs, run_und hd, Conv.floatToFloat, hk], .float kd _, h⟩
      · rename_i hk
        split at hn
        · cases hn
        · rename_i g hg
          injection hn with hn
          subst hn
          exact ⟨_, _, fun w' _ => by simp [convert, run_und hs, run_und hd, Conv.floatToFloat, hk, hg], .float kd _, h⟩
        · rename_i g mm ee hg
          split at hn
          · cases hn
          · rename_i hinf
            injection hn with hn
            subst hn
            exact ⟨_, _, fun w' _ => by simp [convert, run_und hs, run_und hd, Conv.floatToFloat, hk, hg, hinf], .float kd _, h⟩
    · cases h
  · rename_i s hs hd
    cases hx
    exact ⟨_, _, fun w' _ => by simp [convert, run_und hs, run_und hd], .str _, h⟩
  · rename_i e s hs hd
    rw [hd] at hq
    cases hq
  · rename_i e p n hs hd
    split at h
    · rename_i hu
      split at h
      · rename_i hn
        subst hn
        cases hx
        exact ⟨_, .string ⟨⟨[]⟩⟩, fun w' _ => by simp [convert, run_und hs, run_und hd, run_und hu, Conv.bytesToString]; rfl, .str [], h⟩
      · cases h
    · rename_i p hu
      split at h
      · rename_i cs hcs
        split at h
        · rename_i l hl
          obtain ⟨ns, e1, e2⟩ := asBytes_some hl
          subst e1
          have hb : ∀ {c : Nat} {ad : Addr} {l' : List Value}, l'.length = n → (∀ w', Below w.heap.size w w' → (loadCells ad n).run P w' = .ok l'.toArray w') → (∀ (i : Nat) (iv : IV) (v : Value), (ns.map (IV.int .u8))[i]? = some iv → l'[i]? = some v → VRel m iv v) →
              ∀ w', Below w.heap.size w w' → (convert s d (.slice (some ad) n c)).run P w' = .ok (.string ⟨⟨l⟩⟩) w' := by
            intro c ad l' h1 h2 h3 w' hw
            have h4 := ints_rel (by rw [h1, ← (grd_some hcs).1]; simp) h3
            rw [run_convert_bytes_string w' s d e _ _ _ hs hu hd, run_bytesToString w' ad n c ns (by rw [h2 w' hw, h4]), foldl_push, e2]
            rfl
          cases hx with
          | slice _ en _ c he hnc hrw =>
            obtain ⟨l', h1, h2, h3, _⟩ := grd_cells hM hcs he
            exact ⟨_, _, hb h1 h2 h3, .str l, h⟩
          | sliceE _ a' =>
            have h0 : ns = [] := by
              have := (grd_some hcs).1
              simpa using this
            subst h0
            exact ⟨_, _, hb (l' := []) rfl (fun w' _ => by simp [loadCells, loadCellsFrom]) (fun i iv v h => by simp at h), .str l, h⟩
        · cases h
      · cases h
    · cases h
  · rename_i hd
    rw [hd] at hq
    cases hq
  · cases h

theorem q_convert (hM : MemOk P m F G w) {s d : TypeId} {x : Operand} (ho : o.op = .convert s d x) (hq : convMakes P o.op = false) (h : opC P O lo sand o env F G k = some r) (hE : ERel m env a.tmps) : QuietOk P m o a w F G k r := by
  simp only [opC, ho] at h
  rw [ho] at hq
  split at h
  · rename_i vx hx
    obtain ⟨v, v', h1, h2, h3⟩ := conv_rel (F := F) (w := w) hq hM h (ev_rel hE hx)
    refine ⟨v, v', fun w' hw => ?_, h2, h3⟩
    simp only [execOp, ho]
    exact run_v (h1 w' hw)
  · cases h

/-! ### len, min, max -/
theorem run_max2_int (mx : Bool) (kx ky : IntKind) (x y : Int) (w : World) : ((if mx then Builtin.max2 else Builtin.min2) (.int kx x) (.int ky y)).run P w = .ok (.int kx (if mx then (if y > x then y else x) else (if y < x then y else x))) w := by
  cases mx <;> simp [Builtin.max2, Builtin.min2]

theorem minmax_rel {R : Type} {mx : Bool} : ∀ {ys : List IV} {ys' : List Value} {x : IV} {x' : Value} {k : IV → Option R} {r : R}, minmaxC mx ys x k = some r → LRel m ys ys' → VRel m x x' →
    ∃ v v', (∀ w : World, (ys'.foldlM (if mx then Builtin.max2 else Builtin.min2) x').run P w = .ok v' w) ∧ VRel m v v' ∧ k v = some r
  | [], [], x, x', k, r, h, _, hx => ⟨x, x', fun w => rfl, hx, h⟩
  | [], y' :: ys', x, x', k, r, h, hl, hx => by have := hl.1; simp at this
  | y :: ys, [], x, x', k, r, h, hl, hx => by have := hl.1; simp at this
  | y :: ys, y' :: ys', x, x', k, r, h, hl, hx => by
    have hy := hl.2 0 y y' rfl rfl
    have hl' : LRel m ys ys' := ⟨by have := hl.1; simpa using this, fun i iv v a b => hl.2 (i + 1) iv v (by simpa using a) (by simpa using b)⟩
    simp only [minmaxC] at h
    split at h
    · rename_i kx a ky b
      cases hx; cases hy
      obtain ⟨v, v', h1, h2, h3⟩ := minmax_rel h hl' (.int kx _)
      refine ⟨v, v', fun w => ?_, h2, h3⟩
      simp only [List.foldlM_cons, Sem.run_bind, run_max2_int, Result.andThen_ok]
      exact h1 w
    · rename_i kx a ky b
      cases hx; cases hy
      split at h
      · rename_i q hq
        obtain ⟨v, v', h1, h2, h3⟩ := minmax_rel h hl' (.float kx q)
        refine ⟨v, v', fun w => ?_, h2, h3⟩
        have hm : ((if mx then Builtin.max2 else Builtin.min2) (.float kx a) (.float ky b)).run P w = .ok (.float kx q) w := by
          cases mx
          · simp only [Bool.false_eq_true, if_false, fmin] at hq
            simp only [Bool.false_eq_true, if_false, Builtin.min2]
            split at hq <;> first | (rename_i heq; injection hq with hq; subst hq; rw [heq]; rfl) | cases hq
          · simp only [if_true, fmax] at hq
            simp only [if_true, Builtin.max2]
            split at hq <;> first | (rename_i heq; injection hq with hq; subst hq; rw [heq]; rfl) | cases hq
        simp only [List.foldlM_cons, Sem.run_bind, hm, Result.andThen_ok]
        exact h1 w
      · cases h
    · cases h

theorem q_builtin {c : Call} {b : Builtin} (ho : o.op = .call c) (hc : c.callee = .builtin b) (hq : quietOp o.op = true) (h : opC P O lo sand o env F G k = some r) (hE : ERel m env a.tmps) : QuietOk P m o a w F G k r := by
  simp only [opC, ho] at h
  split at h
  · rename_i args hargs
    rw [hc] at h
    simp only at h
    have hA := evs_arel hE hargs
    have hrun : ∀ w', (execOp a.eval o).run P w' = (builtin b c.argTypes o.type (c.args.map fun | .const _ => true | _ => false) (c.args.map a.eval)).run P w' := by
      intro w'
      simp [execOp, ho, resolve, hc, invoke]
      rfl
    rw [ho] at hq
    simp only [quietOp, hc] at hq
    have hsz : args.length = c.args.size := by have := hA.1; simpa using this
    unfold builtinC at h
    split at h
    · split at h
      · rename_i t x ht
        obtain ⟨v', hv', hx⟩ := hA.get (i := 0) (iv := x) rfl
        have hlen : ∀ n : Nat, (∀ w' : World, (Builtin.len_ c.argTypes o.type (c.args.map a.eval)).run P w' = .ok (.int .i64 n) w') → k (.int .i64 n) F G = some r → QuietOk P m o a w F G k r :=
          fun n hn hk => ⟨_, _, fun w' _ => by rw [hrun w']; simp [builtin, hn w'], .int _ _, hk⟩
        split at h
        · rename_i s hu
          cases hx
          refine hlen _ (fun w' => ?_) h
          have e1 : (⟨⟨s⟩⟩ : ByteArray).size = s.length := rfl
          simp only [Builtin.len_, ht, hv', Sem.run_bind, run_und hu, Result.andThen_ok, Sem.run_pure, goInt, e1]
        · rename_i e p n hu
          refine hlen _ (fun w' => ?_) h
          cases hx <;> simp only [Builtin.len_, ht, hv', Sem.run_bind, run_und hu, Result.andThen_ok, Sem.run_pure, goInt]
        · rename_i n e hu
          refine hlen _ (fun w' => ?_) h
          simp only [Builtin.len_, ht, hv', Sem.run_bind, run_und hu, Result.andThen_ok, Sem.run_pure, goInt]
        · cases h
      · cases h
    · split at h
      · rename_i x xs
        obtain ⟨x', hx', hx⟩ := hA.get (i := 0) (iv := x) rfl
        obtain ⟨tl, htl⟩ : ∃ tl, (c.args.map a.eval).toList = x' :: tl := by
          have : (c.args.map a.eval).toList[0]? = some x' := by simpa using hx'
          cases hh : (c.args.map a.eval).toList with
          | nil => rw [hh] at this; simp at this
          | cons q qs => rw [hh] at this; simp at this; exact ⟨qs, by rw [this]⟩
        have hget : ∀ i, (c.args.map a.eval)[i + 1]? = tl[i]? := fun i => by
          have : (c.args.map a.eval).toList[i + 1]? = tl[i]? := by rw [htl]; rfl
          rw [← this]; simp
        have hlen : tl.length + 1 = (c.args.map a.eval).size := by
          have : (c.args.map a.eval).toList.length = tl.length + 1 := by rw [htl]; rfl
          rw [← this]; simp
        obtain ⟨v, v', h1, h2, h3⟩ := minmax_rel (P := P) (mx := true) (ys' := tl) h ⟨by have := hA.1; simp at this hlen; omega, fun i iv v p q => hA.2 (i + 1) iv v (by simpa using p) (by rw [hget]; exact q)⟩ hx
        refine ⟨v, v', fun w' _ => ?_, h2, h3⟩
        rw [hrun w']
        have h1' := h1 w'
        simp only [if_true] at h1'
        have : (Builtin.max_ c.argTypes o.type (c.args.map a.eval)).run P w' = .ok v' w' := by
          unfold Builtin.max_
          rw [htl]; exact h1'
        simp [builtin, this]
      · cases h
    · split at h
      · rename_i x xs
        obtain ⟨x', hx', hx⟩ := hA.get (i := 0) (iv := x) rfl
        obtain ⟨tl, htl⟩ : ∃ tl, (c.args.map a.eval).toList = x' :: tl := by
          have : (c.args.map a.eval).toList[0]? = some x' := by simpa using hx'
          cases hh : (c.args.map a.eval).toList with
          | nil => rw [hh] at this; simp at this
          | cons q qs => rw [hh] at this; simp at this; exact ⟨qs, by rw [this]⟩
        have hget : ∀ i, (c.args.map a.eval)[i + 1]? = tl[i]? := fun i => by
          have : (c.args.map a.eval).toList[i + 1]? = tl[i]? := by rw [htl]; rfl
          rw [← this]; simp
        have hlen : tl.length + 1 = (c.args.map a.eval).size := by
          have : (c.args.map a.eval).toList.length = tl.length + 1 := by rw [htl]; rfl
          rw [← this]; simp
        obtain ⟨v, v', h1, h2, h3⟩ := minmax_rel (P := P) (mx := false) (ys' := tl) h ⟨by have := hA.1; simp at this hlen; omega, fun i iv v p q => hA.2 (i + 1) iv v (by simpa using p) (by rw [hget]; exact q)⟩ hx
        refine ⟨v, v', fun w' _ => ?_, h2, h3⟩
        rw [hrun w']
        have h1' := h1 w'
        simp only [Bool.false_eq_true, if_false] at h1'
        have : (Builtin.min_ c.argTypes o.type (c.args.map a.eval)).run P w' = .ok v' w' := by
          unfold Builtin.min_
          rw [htl]; exact h1'
        simp [builtin, this]
      · cases h
    · cases hq
    · cases hq
    · cases h
  · cases h

end
end Go.LI

/-! Memory is made and written. -/
namespace Go.LI
open Go Go.RowKit

section
variable {P : Program} {B K : Nat → Prop} {w0 : World} {m : Map} {F : List (List IV)} {G : GH} {w : World}

theorem cellsI_get : ∀ {cs : List IV} {i : Nat} {iv : IV}, cellsI cs = true → cs[i]? = some iv → cellI iv = true
  | [], i, iv, _, h => by simp at h
  | c :: cs, 0, iv, hn, h => by simp [cellsI] at hn; simp at h; rw [← h]; exact hn.1
  | c :: cs, i + 1, iv, hn, h => by simp [cellsI] at hn; exact cellsI_get hn.2 (by simpa using h)
theorem cellI_one {iv : IV} {v : Value} (h : VRel m iv v) (hc : cellI iv = true) : v.oneCell' = true := by
  cases h <;> first | rfl | (simp [cellI] at hc)

/-- A new row stands at the heap's end. -/
structure Grown (w w' : World) (c : Array Value) (t : TypeId) (fr : Nat × Nat) : Prop where
  below : Below w.heap.size w w'
  row : w'.heap[w.heap.size]? = some (.cells c t fr)

theorem HRel.newG (h : HRel P B K w0 m F G w) {w' : World} {c : Array Value} {t : TypeId} {fr : Nat × Nat} (hg : Grown w w' c t fr) {cells : List IV}
    (hc : ∀ (i : Nat) (iv : IV), cells[i]? = some iv → ∃ v, c[i]? = some v ∧ VRel m.noF iv v ∧ v.oneCell' = true) (hl : cells.length ≤ c.size) (hfr : FrOk c.size fr) :
    HRel P B K w0 (m.addG G.length ⟨w.heap.size, 0, c.size, P.cellsOf t, true⟩) F (gnew G cells t) w' := by
  have hle : m.le (m.addG G.length ⟨w.heap.size, 0, c.size, P.cellsOf t, true⟩) := Map.le_addG (h.g_none (Nat.le_refl _))
  have h' := h.grow hg.below
  have hgm : ∀ b e, (m.addG G.length ⟨w.heap.size, 0, c.size, P.cellsOf t, true⟩).g b = some e → (b = G.length ∧ e = ⟨w.heap.size, 0, c.size, P.cellsOf t, true⟩) ∨ (b < G.length ∧ m.g b = some e) := by
    intro b e he
    simp only [Map.addG] at he
    split at he
    · rename_i hb; injection he with he; exact .inl ⟨hb, he.symm⟩
    · exact .inr ⟨h.gdom _ _ he, he⟩
  have hget : ∀ b, b < G.length → (gnew G cells t)[b]? = G[b]? := fun b hb => List.getElem?_append_left hb
  have hget' : (gnew G cells t)[G.length]? = some ⟨cells, t, 1⟩ := by simp [gnew]
  have hold : ∀ b k e, G[b]? = some k → k.mode ≤ 1 → m.g b = some e → e.blk < w.heap.size := fun b k e h1 h2 h3 => by
    obtain ⟨c, t, fr, hgb⟩ := h.gblk b k e h1 h2 h3
    exact lt_of_row hgb.row
  refine { bk := h.bk, frame := h'.frame, os := h'.os, tape := h'.tape, output := h'.output, size := h'.size, gdom := ?_, fdom := h.fdom, gblk := ?_, fblk := ?_, ginj := ?_, gf := ?_, finj := h.finj }
  · intro b e he
    rcases hgm b e he with ⟨rfl, _⟩ | ⟨hb, _⟩ <;> simp [gnew] <;> omega
  · intro b k e hk hm he
    rcases hgm b e he with ⟨rfl, rfl⟩ | ⟨hb, he'⟩
    · rw [hget'] at hk
      injection hk with hk
      subst hk
      refine ⟨c, t, fr, { row := hg.row, fits := by simpa using hl, cells := fun i iv hi => ?_, ro := fun h => by simp at h, esz := fun _ => rfl, rw := fun _ => ⟨fun hK => ?_, rfl, rfl, by simp, hfr⟩ }⟩
      · obtain ⟨v, h1, h2, h3⟩ := hc i iv hi
        exact ⟨v, by simpa using h1, h2.mono (Map.noF_mono hle), h3⟩
      · have h1 : w.heap.size < w0.heap.size := (h.frame _ hK).1
        have := h.size
        omega
    · rw [hget b hb] at hk
      obtain ⟨c', t', fr', hgb⟩ := h'.gblk b k e hk hm he'
      exact ⟨c', t', fr', { hgb with cells := fun i iv hi => by obtain ⟨v, h1, h2, h3⟩ := hgb.cells i iv hi; exact ⟨v, h1, h2.mono (Map.noF_mono hle), h3⟩ }⟩
  · intro i cs b hi hb
    obtain ⟨c', t', hf⟩ := h'.fblk i cs b hi hb
    exact ⟨c', t', { hf with cells := fun j iv hj => by obtain ⟨v, h1, h2⟩ := hf.cells j iv hj; exact ⟨v, h1, h2.mono hle⟩ }⟩
  · intro b1 b2 k1 k2 e1 e2 h1 h2 m1 m2 g1 g2 hne
    rcases hgm b1 e1 g1 with ⟨rfl, rfl⟩ | ⟨hb1, g1'⟩
    · rcases hgm b2 e2 g2 with ⟨rfl, rfl⟩ | ⟨hb2, g2'⟩
      · exact absurd rfl hne
      · rw [hget b2 hb2] at h2
        have := hold b2 k2 e2 h2 (by omega) g2'
        simp; omega
    · rw [hget b1 hb1] at h1
      rcases hgm b2 e2 g2 with ⟨rfl, rfl⟩ | ⟨hb2, g2'⟩
      · have := hold b1 k1 e1 h1 (by omega) g1'
        simp; omega
      · rw [hget b2 hb2] at h2
        exact h.ginj b1 b2 k1 k2 e1 e2 h1 h2 m1 m2 g1' g2' hne
  · intro b i k e r h1 h2 g1 hr
    rcases hgm b e g1 with ⟨rfl, rfl⟩ | ⟨hb1, g1'⟩
    · have hi : i < F.length := h.fdom _ _ hr
      obtain ⟨c', t', hf⟩ := h.fblk i F[i] r (List.getElem?_eq_getElem hi) hr
      have := lt_of_row hf.row
      simp; omega
    · rw [hget b hb1] at h1
      exact h.gf b i k e r h1 h2 g1' hr

theorem HRel.newF (h : HRel P B K w0 m F G w) {w' : World} {c : Array Value} {t : TypeId} (hg : Grown w w' c t (0, 0)) {cells : List IV} (hc : ARel m cells c) :
    HRel P B K w0 (m.addF F.length w.heap.size) (F ++ [cells]) G w' := by
  have hle : m.le (m.addF F.length w.heap.size) := Map.le_addF (h.f_none (Nat.le_refl _))
  have h' := h.grow hg.below
  have hfm : ∀ i b, (m.addF F.length w.heap.size).f i = some b → (i = F.length ∧ b = w.heap.size) ∨ (i < F.length ∧ m.f i = some b) := by
    intro b e he
    simp only [Map.addF] at he
    split at he
    · rename_i hb; injection he with he; exact .inl ⟨hb, he.symm⟩
    · exact .inr ⟨h.fdom _ _ he, he⟩
  have hget : ∀ b, b < F.length → (F ++ [cells])[b]? = F[b]? := fun b hb => List.getElem?_append_left hb
  have hget' : (F ++ [cells])[F.length]? = some cells := by simp
  have hold : ∀ i r, m.f i = some r → r < w.heap.size := fun i r hr => by
    have hi : i < F.length := h.fdom _ _ hr
    obtain ⟨c', t', hf⟩ := h.fblk i F[i] r (List.getElem?_eq_getElem hi) hr
    exact lt_of_row hf.row
  refine { bk := h.bk, frame := h'.frame, os := h'.os, tape := h'.tape, output := h'.output, size := h'.size, gdom := h.gdom, fdom := ?_, gblk := ?_, fblk := ?_, ginj := h.ginj, gf := ?_, finj := ?_ }
  · intro b e he
    rcases hfm b e he with ⟨rfl, _⟩ | ⟨hb, _⟩ <;> simp <;> omega
  · intro b k e hk hm he
    obtain ⟨c', t', fr', hgb⟩ := h'.gblk b k e hk hm he
    exact ⟨c', t', fr', { hgb with cells := fun i iv hi => by obtain ⟨v, h1, h2, h3⟩ := hgb.cells i iv hi; exact ⟨v, h1, h2.mono (Map.noF_mono hle), h3⟩ }⟩
  · intro i cs b hi hb
    rcases hfm i b hb with ⟨rfl, rfl⟩ | ⟨hi', hb'⟩
    · rw [hget'] at hi
      injection hi with hi
      subst hi
      refine ⟨c, t, { row := hg.row, size := hc.1.symm, cells := fun i iv hi => ?_, own := fun hK => ?_ }⟩
      · obtain ⟨v, h1, h2⟩ := hc.get hi
        exact ⟨v, h1, h2.mono hle⟩
      · have := (h.frame _ hK).1
        have := h.size
        omega
    · rw [hget i hi'] at hi
      obtain ⟨c', t', hf⟩ := h'.fblk i cs b hi hb'
      exact ⟨c', t', { hf with cells := fun j iv hj => by obtain ⟨v, h1, h2⟩ := hf.cells j iv hj; exact ⟨v, h1, h2.mono hle⟩ }⟩
  · intro b i k e r h1 h2 g1 hr
    rcases hfm i r hr with ⟨rfl, rfl⟩ | ⟨hi', hr'⟩
    · obtain ⟨c', t', fr', hgb⟩ := h.gblk b k e h1 (by omega) g1
      have := lt_of_row hgb.row
      omega
    · exact h.gf b i k e r h1 h2 g1 hr'
  · intro i j r s hr hs hne
    rcases hfm i r hr with ⟨rfl, rfl⟩ | ⟨hi', hr'⟩
    · rcases hfm j s hs with ⟨rfl, rfl⟩ | ⟨hj', hs'⟩
      · exact absurd rfl hne
      · have := hold j s hs'; omega
    · rcases hfm j s hs with ⟨rfl, rfl⟩ | ⟨hj', hs'⟩
      · have := hold i r hr'; omega
      · exact h.finj i j r s hr' hs' hne

/-- One row has been written; all else stands. -/
structure Wrote (w w' : World) (b : Nat) (c : Array Value) (t : TypeId) (fr : Nat × Nat) : Prop where
  os : w'.os = w.os
  tape : w'.tape = w.tape
  output : w'.output = w.output
  size : w'.heap.size = w.heap.size
  row : w'.heap[b]? = some (.cells c t fr)
  other : ∀ i, i ≠ b → w'.heap[i]? = w.heap[i]?

theorem HRel.writeF2 (h : HRel P B K w0 m F G w) {b : Nat} {k : Blk} {e : Ent} (hk : G[b]? = some k) (hm : k.mode = 1) (he : m.g b = some e) {w' : World} {c c' : Array Value} {t : TypeId} {fr fr' : Nat × Nat}
    (hgb : GB P B K m k e w c t fr) (hw : Wrote w w' e.blk c' t fr') (hfr' : FrOk c.size fr') (hsz : c'.size = c.size) {cells : List IV} (hlen : cells.length ≤ k.cells.length)
    (hc : ∀ (i : Nat) (iv : IV), cells[i]? = some iv → ∃ v, c'[e.off + i]? = some v ∧ VRel m.noF iv v ∧ v.oneCell' = true) :
    HRel P B K w0 m F (G.set b { k with cells := cells }) w' := by
  obtain ⟨hK, ht, hrw, hcs, hfr⟩ := hgb.rw hm
  have hb : b < G.length := (List.getElem?_eq_some_iff.1 hk).1
  have hset : ∀ i, (G.set b { k with cells := cells })[i]? = if b = i then some { k with cells := cells } else G[i]? := by
    intro i
    rw [List.getElem?_set]
    simp only [hb, if_true]
  have hmode : ∀ (i : Nat) (k' : Blk), (G.set b { k with cells := cells })[i]? = some k' → ∃ k'', G[i]? = some k'' ∧ k''.mode = k'.mode := by
    intro i k' hi
    rw [hset] at hi
    split at hi
    · rename_i hbi; injection hi with hi; subst hi; subst hbi; exact ⟨k, hk, rfl⟩
    · exact ⟨k', hi, rfl⟩
  refine { bk := h.bk, frame := ?_, os := hw.os.trans h.os, tape := hw.tape.trans h.tape, output := hw.output.trans h.output, size := by rw [hw.size]; exact h.size, gdom := ?_, fdom := h.fdom, gblk := ?_, fblk := ?_, ginj := ?_, gf := ?_, finj := h.finj }
  · intro i hi
    obtain ⟨h1, h2⟩ := h.frame i hi
    exact ⟨h1, (hw.other i (fun hc => hK (hc ▸ hi))).trans h2⟩
  · intro i e' hi
    rw [List.length_set]; exact h.gdom i e' hi
  · intro i k' e' hi hm' he'
    rw [hset] at hi
    split at hi
    · rename_i hbi
      subst hbi
      injection hi with hi
      subst hi
      have : e' = e := by rw [he] at he'; injection he' with he'; exact he'.symm
      subst this
      exact ⟨c', t, fr', { row := hw.row, fits := by have := hgb.fits; simp; omega, cells := hc, ro := fun h => by simp at h; omega, esz := hgb.esz, rw := fun _ => ⟨hK, ht, hrw, by rw [hsz]; exact hcs, by rw [hsz]; exact hfr'⟩ }⟩
    · rename_i hbi
      obtain ⟨c1, t1, fr1, hg1⟩ := h.gblk i k' e' hi hm' he'
      have hne : e'.blk ≠ e.blk := by
        by_cases hm1 : k'.mode = 1
        · exact h.ginj i b k' k e' e hi hk hm1 hm he' he (fun h => hbi h.symm)
        · intro heq
          exact hK (h.bk _ (heq ▸ hg1.ro (by omega)))
      exact ⟨c1, t1, fr1, { hg1 with row := (hw.other _ hne).trans hg1.row }⟩
  · intro i cs r hi hr
    obtain ⟨c1, t1, hf⟩ := h.fblk i cs r hi hr
    exact ⟨c1, t1, { hf with row := (hw.other _ (fun hc => h.gf b i k e r hk hm he hr hc.symm)).trans hf.row }⟩
  · intro b1 b2 k1 k2 e1 e2 h1 h2 m1 m2 g1 g2 hne
    obtain ⟨q1, p1, p2⟩ := hmode b1 k1 h1
    obtain ⟨q2, p3, p4⟩ := hmode b2 k2 h2
    exact h.ginj b1 b2 q1 q2 e1 e2 p1 p3 (by omega) (by omega) g1 g2 hne
  · intro b1 i k1 e1 r h1 m1 g1 hr
    obtain ⟨q1, p1, p2⟩ := hmode b1 k1 h1
    exact h.gf b1 i q1 e1 r p1 (by omega) g1 hr

theorem HRel.writeG (h : HRel P B K w0 m F G w) {b : Nat} {k : Blk} {e : Ent} (hk : G[b]? = some k) (hm : k.mode = 1) (he : m.g b = some e) {w' : World} {c c' : Array Value} {t : TypeId} {fr : Nat × Nat}
    (hgb : GB P B K m k e w c t fr) (hw : Wrote w w' e.blk c' t fr) (hsz : c'.size = c.size) {cells : List IV} (hlen : cells.length ≤ k.cells.length)
    (hc : ∀ (i : Nat) (iv : IV), cells[i]? = some iv → ∃ v, c'[e.off + i]? = some v ∧ VRel m.noF iv v ∧ v.oneCell' = true) :
    HRel P B K w0 m F (G.set b { k with cells := cells }) w' :=
  h.writeF2 hk hm he hgb hw (hgb.rw hm).2.2.2.2 hsz hlen hc
/-- A row's mark of what must not be written has grown beyond its cells. -/
theorem HRel.mark (h : HRel P B K w0 m F G w) {b : Nat} {k : Blk} {e : Ent} (hk : G[b]? = some k) (hm : k.mode = 1) (he : m.g b = some e) {w' : World} {c : Array Value} {t : TypeId} {fr fr' : Nat × Nat}
    (hgb : GB P B K m k e w c t fr) (hw : Wrote w w' e.blk c t fr') (hfr' : FrOk c.size fr') : HRel P B K w0 m F G w' := by
  have h1 := h.writeF2 hk hm he hgb hw hfr' rfl (cells := k.cells) (Nat.le_refl _) hgb.cells
  have e1 : G.set b { k with cells := k.cells } = G := by
    apply List.ext_getElem?
    intro i
    rw [List.getElem?_set]
    split
    · rename_i hbi
      subst hbi
      rw [if_pos (List.getElem?_eq_some_iff.1 hk).1, hk]
    · rfl
  rw [e1] at h1
  exact h1

theorem HRel.writeF (h : HRel P B K w0 m F G w) {i r : Nat} {cs : List IV} (hi : F[i]? = some cs) (hr : m.f i = some r) {w' : World} {c c' : Array Value} {t : TypeId}
    (hf : FB K m cs r w c t) (hw : Wrote w w' r c' t (0, 0)) {cells : List IV} (hc : ARel m cells c') :
    HRel P B K w0 m (F.set i cells) G w' := by
  have hb : i < F.length := (List.getElem?_eq_some_iff.1 hi).1
  have hset : ∀ j, (F.set i cells)[j]? = if i = j then some cells else F[j]? := by
    intro j
    rw [List.getElem?_set]
    simp only [hb, if_true]
  refine { bk := h.bk, frame := ?_, os := hw.os.trans h.os, tape := hw.tape.trans h.tape, output := hw.output.trans h.output, size := by rw [hw.size]; exact h.size, gdom := h.gdom, fdom := ?_, gblk := ?_, fblk := ?_, ginj := h.ginj, gf := h.gf, finj := h.finj }
  · intro j hj
    obtain ⟨h1, h2⟩ := h.frame j hj
    exact ⟨h1, (hw.other j (fun hc => hf.own (hc ▸ hj))).trans h2⟩
  · intro j e' hj
    rw [List.length_set]; exact h.fdom j e' hj
  · intro b k e hk hm he
    obtain ⟨c1, t1, fr1, hg1⟩ := h.gblk b k e hk hm he
    have hne : e.blk ≠ r := by
      by_cases hm1 : k.mode = 1
      · exact h.gf b i k e r hk hm1 he hr
      · intro heq
        exact hf.own (h.bk _ (heq ▸ hg1.ro (by omega)))
    exact ⟨c1, t1, fr1, { hg1 with row := (hw.other _ hne).trans hg1.row }⟩
  · intro j cs' r' hj hr'
    rw [hset] at hj
    split at hj
    · rename_i hij
      subst hij
      injection hj with hj
      subst hj
      have : r' = r := by rw [hr] at hr'; injection hr' with hr'; exact hr'.symm
      subst this
      exact ⟨c', t, { row := hw.row, size := hc.1.symm, cells := fun o iv ho => hc.get ho, own := hf.own }⟩
    · rename_i hij
      obtain ⟨c1, t1, hf1⟩ := h.fblk j cs' r' hj hr'
      exact ⟨c1, t1, { hf1 with row := (hw.other _ (fun hc => h.finj j i r' r hr' hr (fun h => hij h.symm) hc)).trans hf1.row }⟩

/-- A block is gone from the shared heap; what the model has stays. -/
theorem HRel.kill (h : HRel P B K w0 m F G w) (b : Nat) : HRel P B K w0 m F (gkill G b) w := by
  unfold gkill
  split
  · rename_i k hk
    have hb : b < G.length := (List.getElem?_eq_some_iff.1 hk).1
    have hset : ∀ i, (G.set b { k with mode := 2 })[i]? = if b = i then some { k with mode := 2 } else G[i]? := by
      intro i
      rw [List.getElem?_set]
      simp only [hb, if_true]
    have hlive : ∀ (i : Nat) (k' : Blk), (G.set b { k with mode := 2 })[i]? = some k' → k'.mode ≤ 1 → G[i]? = some k' := by
      intro i k' hi hm
      rw [hset] at hi
      split at hi
      · injection hi with hi; subst hi; simp at hm
      · exact hi
    exact { bk := h.bk, frame := h.frame, os := h.os, tape := h.tape, output := h.output, size := h.size, fdom := h.fdom, fblk := h.fblk, finj := h.finj
            gdom := fun i e hi => by rw [List.length_set]; exact h.gdom i e hi
            gblk := fun i k' e hi hm he => h.gblk i k' e (hlive i k' hi hm) hm he
            ginj := fun b1 b2 k1 k2 e1 e2 h1 h2 m1 m2 g1 g2 hne => h.ginj b1 b2 k1 k2 e1 e2 (hlive _ _ h1 (by omega)) (hlive _ _ h2 (by omega)) m1 m2 g1 g2 hne
            gf := fun b1 i k1 e1 r h1 m1 g1 hr => h.gf b1 i k1 e1 r (hlive _ _ h1 (by omega)) m1 g1 hr }
  · exact h

/-! ### Stores -/
def setAll : List Value → Nat → Array Value → Array Value
  | [], _, c => c
  | v :: vs, i, c => setAll vs (i + 1) (c.setIfInBounds i v)

theorem setAll_size : ∀ (vs : List Value) (i : Nat) (c : Array Value), (setAll vs i c).size = c.size
  | [], _, _ => rfl
  | v :: vs, i, c => by simp [setAll, setAll_size vs]

theorem setAll_get : ∀ (vs : List Value) (i : Nat) (c : Array Value) (j : Nat), i + vs.length ≤ c.size → (setAll vs i c)[j]? = if i ≤ j ∧ j < i + vs.length then vs[j - i]? else c[j]?
  | [], i, c, j, _ => by simp [setAll]; omega
  | v :: vs, i, c, j, h => by
    simp only [List.length_cons] at h
    simp only [setAll]
    rw [setAll_get vs (i + 1) _ j (by simp; omega)]
    by_cases h1 : j = i
    · subst h1
      rw [if_neg (by omega), if_pos (by simp)]
      rw [Array.getElem?_setIfInBounds_self_of_lt (by omega)]
      simp
    · by_cases h2 : i ≤ j ∧ j < i + (v :: vs).length
      · simp only [List.length_cons] at h2
        rw [if_pos (by omega), if_pos (by simp; omega)]
        rw [show j - i = (j - (i + 1)) + 1 by omega, List.getElem?_cons_succ]
      · simp only [List.length_cons] at h2
        rw [if_neg (by omega), if_neg (by simp; omega)]
        rw [Array.getElem?_setIfInBounds_ne (by omega)]

theorem wrote_setCell {w : World} {b o : Nat} {c : Array Value} {t : TypeId} {fr : Nat × Nat} (h : w.heap[b]? = some (.cells c t fr)) (v : Value) : Wrote w (w.setCell ⟨b, o, none⟩ v) b (c.setIfInBounds o v) t fr := by
  refine { os := rfl, tape := rfl, output := rfl, size := by simp [World.setCell], row := ?_, other := fun i hi => ?_ }
  · simp [World.setCell, Array.getElem?_modify, h]
  · simp only [World.setCell, Array.getElem?_modify]
    rw [if_neg (fun h => hi h.symm)]

theorem Wrote.trans {w w1 w2 : World} {b : Nat} {c c' : Array Value} {t t' : TypeId} {fr fr' : Nat × Nat} (h : Wrote w w1 b c t fr) (k : Wrote w1 w2 b c' t' fr') : Wrote w w2 b c' t' fr' :=
  { os := k.os.trans h.os, tape := k.tape.trans h.tape, output := k.output.trans h.output, size := k.size.trans h.size, row := k.row, other := fun i hi => (k.other i hi).trans (h.other i hi) }

theorem run_setCells (b o : Nat) (t : TypeId) (fr : Nat × Nat) : ∀ (vs : List Value) (i : Nat) (c : Array Value) (w : World), w.heap[b]? = some (.cells c t fr) → o + i + vs.length ≤ c.size →
    (∀ x, x < c.size → ¬ (fr.1 ≤ x ∧ x < fr.2)) → (∀ v ∈ vs, v.oneCell' = true) → ∃ w', (storeCells ⟨b, o, none⟩ vs i).run P w = .ok () w' ∧ Wrote w w' b (setAll vs (o + i) c) t fr
  | [], i, c, w, h, _, _, _ => ⟨w, rfl, { os := rfl, tape := rfl, output := rfl, size := rfl, row := h, other := fun _ _ => rfl }⟩
  | v :: vs, i, c, w, h, hl, hfr, hv => by
    simp only [List.length_cons] at hl
    have hlt : o + i < c.size := by omega
    have hcell : w.cell? ⟨b, o + i, none⟩ = some c[o + i] := by rw [cell?_eq h]; exact Array.getElem?_eq_getElem hlt
    have hfz : w.frozen? ⟨b, o + i, none⟩ = false := by
      have := hfr (o + i) hlt
      simp only [World.frozen?, h]
      simp only [Bool.and_eq_false_iff, decide_eq_false_iff_not]
      omega
    have hst : (store ⟨b, o + i, none⟩ v).run P w = .ok () (w.setCell ⟨b, o + i, none⟩ v) := by
      rw [run_store P w _ v .plain (hv v (by simp)), hcell]
      simp [hfz]
    have hw1 := wrote_setCell (o := o + i) h v
    obtain ⟨w', h1, h2⟩ := run_setCells b o t fr vs (i + 1) (c.setIfInBounds (o + i) v) _ hw1.row (by simp; omega) (by simpa using hfr) (fun x hx => hv x (by simp [hx]))
    refine ⟨w', ?_, hw1.trans h2⟩
    simp only [storeCells, addr_add, Sem.run_bind, hst, Result.andThen_ok]
    exact h1

theorem one_of_rel {cs : List IV} {l : List Value} (h : LRel m cs l) (hc : cellsI cs = true) : ∀ v ∈ l, v.oneCell' = true := by
  intro v hv
  obtain ⟨i, hi, rfl⟩ := List.mem_iff_getElem.1 hv
  have h1 : i < cs.length := by rw [h.1]; exact hi
  exact cellI_one (h.2 i cs[i] l[i] (List.getElem?_eq_getElem h1) (List.getElem?_eq_getElem hi)) (cellsI_get hc (List.getElem?_eq_getElem h1))

theorem noLocs_get' {cs : List IV} {i : Nat} {iv : IV} (h : noLocs cs = true) (hi : cs[i]? = some iv) : noLoc iv = true := VRel.noF.noLocs_get h hi

theorem splice_rel {cs vs : List IV} {off b0 : Nat} {c : Array Value} {l : List Value} {Q : IV → Value → Prop} (hl : off + vs.length ≤ cs.length) (hs : b0 + cs.length ≤ c.size) (hlen : vs.length = l.length)
    (hc : ∀ (i : Nat) (iv : IV), cs[i]? = some iv → ∃ v, c[b0 + i]? = some v ∧ Q iv v) (hv : ∀ (i : Nat) (iv : IV) (v : Value), vs[i]? = some iv → l[i]? = some v → Q iv v) :
    ∀ (i : Nat) (iv : IV), (splice cs off vs)[i]? = some iv → ∃ v, (setAll l (b0 + off) c)[b0 + i]? = some v ∧ Q iv v := by
  intro i iv hi
  rw [splice_get hl] at hi
  rw [setAll_get l (b0 + off) c _ (by omega)]
  split at hi
  · rename_i hq
    rw [if_pos (by omega)]
    have h1 : i - off < l.length := by omega
    refine ⟨l[i - off], ?_, hv (i - off) iv _ hi (List.getElem?_eq_getElem h1)⟩
    rw [show b0 + i - (b0 + off) = i - off by omega]
    exact List.getElem?_eq_getElem h1
  · rename_i hq
    rw [if_neg (by omega)]
    exact hc i iv hi

/-- A variable is written. -/
theorem store_rel {R : Type} (h0 : HRel P B K w0 m F G w) {t : TypeId} {x v : IV} {vx vv : Value} {k : List (List IV) → GH → Option R} {r : R} (h : storeC P t x v F G k = some r) (hx : VRel m x vx) (hv : VRel m v vv) :
    ∃ w' F' G', (Instr.storeAt t vx vv).run P w = .ok () w' ∧ HRel P B K w0 m F' G' w' ∧ k F' G' = some r := by
  unfold storeC at h
  split at h
  · rename_i hc
    obtain ⟨hlen, hcell, hz⟩ := hc
    have hcr := cells_rel hv
    have hL : LRel m v.cells vv.cells.toList := ⟨by have := hcr.1; simpa using this, fun i iv v a b => hcr.2 i iv v a (by simpa using b)⟩
    obtain ⟨ii, hii, hs⟩ := cellsT_pos hz
    have hrun : ∀ ad w', (storeCells ad vv.cells.toList).run P w = .ok () w' → (Instr.storeAt t (.pointer (some ad)) vv).run P w = .ok () w' := by
      intro ad w' hw
      have : vv.cells.size = ii.size := by rw [hs, ← hlen]; exact hcr.1.symm
      simp only [Instr.storeAt, Instr.sureAddr, storeVar, Sem.run_bind, Sem.run_pure, Result.andThen_ok, run_sizeI hii, this, ne_eq, not_true_eq_false, if_false]
      exact hw
    split at h
    · rename_i p
      split at h
      · rename_i hnl
        split at h
        · rename_i G' hG'
          unfold gst at hG'
          split at hG'
          · rename_i blk hblk
            split at hG'
            · rename_i hmo
              injection hG' with hG'
              subst hG'
              cases hx with
              | ptr _ e he =>
                obtain ⟨c, t', fr, hgb⟩ := h0.gblk _ _ e hblk (by omega) he
                have hfits := hgb.fits
                obtain ⟨w', hw1, hw2⟩ := run_setCells (P := P) e.blk (e.off + p.o) t' fr vv.cells.toList 0 c w hgb.row (by have := hL.1; omega) (hgb.rw hmo.1).2.2.2.2.no (one_of_rel hL hcell)
                refine ⟨w', F, _, hrun _ w' hw1, ?_, h⟩
                refine h0.writeG hblk hmo.1 he hgb hw2 (by rw [setAll_size]) (by rw [splice_len hmo.2]; exact Nat.le_refl _) ?_
                rw [Nat.add_zero]
                exact splice_rel (Q := fun iv v => VRel m.noF iv v ∧ v.oneCell' = true) hmo.2 hfits hL.1 hgb.cells fun i iv v hi hv =>
                  ⟨(hL.2 i iv v hi hv).noF (noLocs_get' hnl hi), cellI_one (hL.2 i iv v hi hv) (cellsI_get hcell hi)⟩
            · cases hG'
          · cases hG'
        · cases h
      · cases h
    · rename_i b i
      split at h
      · rename_i cs hcs
        split at h
        · rename_i hl
          cases hx with
          | loc _ _ q hq =>
            obtain ⟨c, t', hf⟩ := h0.fblk _ _ _ hcs hq
            obtain ⟨w', hw1, hw2⟩ := run_setCells (P := P) q i t' (0, 0) vv.cells.toList 0 c w hf.row (by have := hL.1; have := hf.size; omega) (fun x _ => by omega) (one_of_rel hL hcell)
            refine ⟨w', _, G, hrun _ w' hw1, ?_, h⟩
            refine h0.writeF hcs hq hf hw2 ⟨by rw [splice_len hl, setAll_size, hf.size], ?_⟩
            have := splice_rel (b0 := 0) (Q := fun iv v => VRel m iv v) hl (by rw [hf.size]; omega) hL.1 (fun i iv hi => by rw [Nat.zero_add]; exact hf.cells i iv hi) hL.2
            intro j iv v hj hjv
            obtain ⟨v', h1, h2⟩ := this j iv hj
            rw [Nat.add_zero] at hjv
            rw [Nat.zero_add, Nat.zero_add] at h1
            rw [h1] at hjv
            injection hjv with hjv
            rw [← hjv]; exact h2
        · cases h
      · cases h
    · cases h
  · cases h

end
end Go.LI

/-! Operations that make or write memory. -/
namespace Go.LI
open Go Go.RowKit

section
variable {R : Type} {P : Program} {B K : Nat → Prop} {w0 : World} {m : Map} {F : List (List IV)} {G : GH} {w : World} {O : Ora R} {lo : List Nat} {sand : Bool} {o : Oper} {env : List IV} {a : Act} {k : IV → List (List IV) → GH → Option R} {r : R}

def pushRow (w : World) (c : Array Value) (t : TypeId) : World := { w with heap := w.heap.push (.cells c t) }
theorem grown_push (w : World) (c : Array Value) (t : TypeId) : Grown w (pushRow w c t) c t (0, 0) :=
  { below := ⟨rfl, rfl, rfl, by simp [pushRow], fun i hi => by simp only [pushRow]; rw [Array.getElem?_push, if_neg (by omega)]⟩, row := by show (w.heap.push _)[w.heap.size]? = _; simp }
theorem run_newRow (e : TypeId) (c : Array Value) : (newRow e c).run P w = .ok ⟨w.heap.size, 0, none⟩ (pushRow w c e) := by
  simp only [newRow, Sem.run_bind, run_newObj, Result.andThen_ok, Sem.run_pure, pushRow]

/-- An operation that is no call of a Go function: what it does. -/
def StepOk (P : Program) (B K : Nat → Prop) (w0 : World) (m : Map) (o : Oper) (a : Act) (w : World) (k : IV → List (List IV) → GH → Option R) (r : R) : Prop :=
  ∃ v v' m' w' F' G', (∀ (next : Act → World → Prop) (Q : Exit → Act → World → Prop), next (a.put o.dst v') w' → o.wp P a w next Q) ∧ m.le m' ∧ HRel P B K w0 m' F' G' w' ∧ VRel m' v v' ∧ k v F' G' = some r

theorem wp_of_value {v' : Value} {w' : World} (h : (execOp a.eval o).run P w = .ok (.value v') w') (next : Act → World → Prop) (Q : Exit → Act → World → Prop) (hn : next (a.put o.dst v') w') : o.wp P a w next Q := by
  unfold Oper.wp
  rw [h, Oper.upon_value]
  exact hn
theorem wp_of_skip {w' : World} (h : (execOp a.eval o).run P w = .ok .skip w') (next : Act → World → Prop) (Q : Exit → Act → World → Prop) (hn : next (a.put o.dst Go.undef) w') : o.wp P a w next Q := by
  unfold Oper.wp
  rw [h, Oper.upon_skip]
  exact hn

theorem step_of_quiet (h : QuietOk P m o a w F G k r) (hR : HRel P B K w0 m F G w) : StepOk P B K w0 m o a w k r := by
  obtain ⟨v, v', h1, h2, h3⟩ := h
  exact ⟨v, v', m, w, F, G, wp_of_value (h1 w (Below.refl _ _)), m.le_refl, hR, h2, h3⟩

theorem cellsAt_noF {cs : List IV} {c : Array Value} (h : ARel m cs c) (hn : noLocs cs = true) (hc : cellsI cs = true) : ∀ (i : Nat) (iv : IV), cs[i]? = some iv → ∃ v, c[i]? = some v ∧ VRel m.noF iv v ∧ v.oneCell' = true := by
  intro i iv hi
  obtain ⟨v, h1, h2⟩ := h.get hi
  exact ⟨v, h1, h2.noF (noLocs_get' hn hi), cellI_one h2 (cellsI_get hc hi)⟩

theorem alloc_rel {R : Type} {k : IV → List (List IV) → GH → Option R} {r : R} {dst : Option Tmp} {t : TypeId} {cs : List IV} {c : Array Value} (h : allocC lo dst t cs F G k = some r) (hA : ARel m cs c) (hR : HRel P B K w0 m F G w) :
    ∃ v m' F' G', m.le m' ∧ HRel P B K w0 m' F' G' (pushRow w c t) ∧ VRel m' v (.pointer (some ⟨w.heap.size, 0, none⟩)) ∧ k v F' G' = some r := by
  unfold allocC at h
  split at h
  · refine ⟨_, m.addF F.length w.heap.size, _, _, Map.le_addF (hR.f_none (Nat.le_refl _)), hR.newF (grown_push w c t) hA, ?_, h⟩
    exact .loc _ _ _ (by simp [Map.addF])
  · split at h
    · rename_i hc
      simp only [Bool.and_eq_true] at hc
      refine ⟨_, m.addG G.length _, _, _, Map.le_addG (hR.g_none (Nat.le_refl _)), hR.newG (grown_push w c t) (cellsAt_noF hA hc.1 hc.2) (by rw [hA.1]; exact Nat.le_refl _) (.inl rfl), ?_, h⟩
      exact .ptr (gaddr G) _ (Map.addG_self _ _ _)
    · cases h

theorem s_alloc {t : TypeId} (ho : o.op = .alloc t) (h : opC P O lo sand o env F G k = some r) (hR : HRel P B K w0 m F G w) : StepOk P B K w0 m o a w k r := by
  simp only [opC, ho] at h
  split at h
  · rename_i z hz
    obtain ⟨i, zv, h1, h2, h3⟩ := zeroT_some hz
    obtain ⟨v, m', F', G', a1, a2, a3, a4⟩ := alloc_rel h (cells_rel (ofValue_rel h3)) hR
    refine ⟨v, _, m', _, F', G', wp_of_value ?_, a1, a2, a3, a4⟩
    simp only [execOp, ho]
    refine run_v ?_
    simp only [Instr.alloc, zeroValue, typeInfo, Sem.run_bind, run_program, Result.andThen_ok, h1, h2, Sem.run_pure, newVar, run_newRow]
  · cases h

theorem s_box {t : TypeId} {x : Operand} (ho : o.op = .box t x) (h : opC P O lo sand o env F G k = some r) (hE : ERel m env a.tmps) (hR : HRel P B K w0 m F G w) : StepOk P B K w0 m o a w k r := by
  simp only [opC, ho] at h
  split at h
  · rename_i z hz
    obtain ⟨v, m', F', G', a1, a2, a3, a4⟩ := alloc_rel h (cells_rel (ev_rel hE hz)) hR
    refine ⟨v, _, m', _, F', G', wp_of_value ?_, a1, a2, a3, a4⟩
    simp only [execOp, ho]
    refine run_v ?_
    simp only [Instr.box, newVar, Sem.run_bind, run_newRow, Result.andThen_ok, Sem.run_pure]
  · cases h

theorem s_store {t : TypeId} {x y : Operand} (ho : o.op = .store t x y) (h : opC P O lo sand o env F G k = some r) (hE : ERel m env a.tmps) (hR : HRel P B K w0 m F G w) : StepOk P B K w0 m o a w k r := by
  simp only [opC, ho] at h
  split at h
  · rename_i vx vy hx hy
    obtain ⟨w', F', G', h1, h2, h3⟩ := store_rel hR h (ev_rel hE hx) (ev_rel hE hy)
    refine ⟨undefI, Go.undef, m, w', F', G', wp_of_skip ?_, m.le_refl, h2, VRel.undef m, h3⟩
    simp [execOp, ho, h1]
  · cases h

/-! ### Slices that are made -/
theorem getElem!_of {zero : Array Value} {i : Nat} (h : i < zero.size) : zero[i]! = zero[i] := by simp [h]

/-- n times the same cells. -/
theorem rep_get {z : List IV} : ∀ {n i : Nat} {iv : IV}, ((List.replicate n z).flatten)[i]? = some iv → z[i % z.length]? = some iv ∧ i < n * z.length
  | 0, i, iv, h => by simp at h
  | n + 1, i, iv, h => by
    simp only [List.replicate_succ, List.flatten_cons] at h
    by_cases hi : i < z.length
    · rw [List.getElem?_append_left hi] at h
      exact ⟨by rw [Nat.mod_eq_of_lt hi]; exact h, by rw [Nat.add_mul]; omega⟩
    · rw [List.getElem?_append_right (by omega)] at h
      obtain ⟨h1, h2⟩ := rep_get h
      refine ⟨?_, by rw [Nat.add_mul]; omega⟩
      rw [← h1]
      congr 1
      rw [Nat.mod_eq_sub_mod (by omega)]

theorem noLocs_rep {z : List IV} (h : noLocs z = true) : ∀ n, noLocs (List.replicate n z).flatten = true
  | 0 => rfl
  | n + 1 => by
    simp only [List.replicate_succ, List.flatten_cons]
    exact noLocs_append h (noLocs_rep h n)
where
  noLocs_append : ∀ {a b : List IV}, noLocs a = true → noLocs b = true → noLocs (a ++ b) = true
    | [], b, _, h => h
    | x :: a, b, h, k => by simp [noLocs] at h ⊢; exact ⟨h.1, noLocs_append h.2 k⟩

theorem run_zero {e : TypeId} {i : TypeInfo} {zv : Value} (h1 : P.info? e = some i) (h2 : i.zero = some zv) : (zeroValue e).run P w = .ok zv w := by
  simp only [zeroValue, typeInfo, Sem.run_bind, run_program, Result.andThen_ok, h1, h2, Sem.run_pure]

/-- Zeros that stand in a row. -/
theorem zeros_rel {z : IV} {zv : Value} (hz : ofValue zv = some z) {n s : Nat} (hs : z.cells.length = s) (hp : 0 < s) (hnl : noLocs z.cells = true) (hc : cellsI z.cells = true) {c : Array Value}
    (hc0 : ∀ i, i < n * s → c[i]? = some (zv.cells[i % zv.cells.size]!)) :
    ∀ (i : Nat) (iv : IV), ((List.replicate n z.cells).flatten)[i]? = some iv → ∃ v, c[i]? = some v ∧ VRel m.noF iv v ∧ v.oneCell' = true := by
  intro i iv hi
  obtain ⟨h1, h2⟩ := rep_get hi
  have hA := cells_rel (ofValue_rel (m := m) hz)
  have hsz : zv.cells.size = s := by rw [← hA.1]; exact hs
  have hlt : i % zv.cells.size < zv.cells.size := Nat.mod_lt _ (by omega)
  rw [hs] at h1 h2
  have hr := hA.2 (i % s) iv zv.cells[i % zv.cells.size] h1 (by rw [← hsz]; exact Array.getElem?_eq_getElem hlt)
  refine ⟨_, hc0 i h2, ?_, ?_⟩ <;> rw [getElem!_of hlt]
  · exact hr.noF (noLocs_get' hnl h1)
  · exact cellI_one hr (cellsI_get hc h1)

theorem rep_len (z : List IV) (n : Nat) : (List.replicate n z).flatten.length = n * z.length := by simp

theorem s_makeSlice {t : TypeId} {l c : Operand} (ho : o.op = .makeSlice t l c) (h : opC P O lo sand o env F G k = some r) (hE : ERel m env a.tmps) (hR : HRel P B K w0 m F G w) : StepOk P B K w0 m o a w k r := by
  simp only [opC, ho] at h
  split at h
  · rename_i e k1 ln k2 cn hu hl hc
    have hb1 := ev_rel hE hl
    have hb2 := ev_rel hE hc
    generalize hv1 : a.eval l = v1 at hb1
    generalize hv2 : a.eval c = v2 at hb2
    cases hb1; cases hb2
    split at h
    · rename_i i z hi hz
      by_cases hcond : (0 ≤ ln ∧ ln ≤ cn ∧ cn * i.bytes ≤ roomI ∧ cn ≤ roomI) ∧ (z.cells.length = i.size ∧ 0 < i.size) ∧ (noLocs z.cells = true ∧ cellsI z.cells = true)
      · obtain ⟨⟨q1, q2, q3, q4⟩, ⟨q5, q6⟩, q7, q8⟩ := hcond
        rw [show (decide (0 ≤ ln ∧ ln ≤ cn ∧ cn * i.bytes ≤ roomI ∧ cn ≤ roomI) && decide (z.cells.length = i.size ∧ 0 < i.size) && (noLocs z.cells && cellsI z.cells)) = true by simp [q1, q2, q3, q4, q5, q6, q7, q8]] at h
        obtain ⟨i', zv, z1, z2, z3⟩ := zeroT_some hz
        have : i' = i := by rw [hi] at z1; injection z1 with z1; exact z1.symm
        subst this
        have hsz : P.cellsOf e = i'.size := by simp [Program.cellsOf, hi]
        obtain ⟨N, hN⟩ : ∃ N, cn.toNat * i'.size = N := ⟨_, rfl⟩
        let row : Array Value := (Array.range N).map fun x => zv.cells[x % zv.cells.size]!
        have hrow : row.size = cn.toNat * i'.size := by simp [row, hN]
        have hgr := grown_push w row e
        have hrun : (Instr.makeSlice t (.int k1 ln) (.int k2 cn)).run P w = .ok (.slice (some ⟨w.heap.size, 0, none⟩) ln.toNat cn.toNat) (pushRow w row e) := by
          have w1 : IntKind.i64.wrap ln = ln := IntWalk.i64_in _ (by unfold roomI at q4; omega)
          have w2 : IntKind.i64.wrap cn = cn := IntWalk.i64_in _ (by unfold roomI at q4; omega)
          have n1 : ¬ (cn < 0) := by omega
          have n2 : ¬ (281474976710656 < (i'.bytes : Int) * cn) := by rw [Int.mul_comm]; unfold roomI at q3; omega
          have n5 : Array.range 0 = #[] := rfl
          have n3 : ¬ (ln < 0) := by omega
          have n4 : ¬ (ln > cn) := by omega
          cases N with
          | zero => simp [Instr.makeSlice, run_und hu, typeInfo, hi, asInt, asIntOf, w1, w2, n1, n2, n3, n4, n5, run_sizeI hi, hN, run_newRow, row]
          | succ N => simp [Instr.makeSlice, run_und hu, typeInfo, hi, asInt, asIntOf, w1, w2, n1, n2, n3, n4, run_sizeI hi, hN, run_newRow, run_zero hi z2, row]
        refine ⟨_, _, _, _, _, _, wp_of_value (v' := .slice (some ⟨w.heap.size, 0, none⟩) ln.toNat cn.toNat) (w' := pushRow w row e) ?_, Map.le_addG (hR.g_none (Nat.le_refl _)), hR.newG hgr (cells := (List.replicate ln.toNat z.cells).flatten) (zeros_rel z3 q5 q6 q7 q8 ?_) ?_ (.inl rfl), ?_, h⟩
        · simp only [execOp, ho, hv1, hv2]
          exact run_v hrun
        · intro x hx
          have hx' : x < N := by rw [← hN]; exact Nat.lt_of_lt_of_le hx (Nat.mul_le_mul_right _ (by omega))
          simp [row, hx']
        · rw [rep_len, hrow, q5]; exact Nat.mul_le_mul_right _ (by omega)
        · refine .slice (gaddr G) _ _ _ (Map.addG_self _ _ _) (by omega) fun _ => ?_
          simp [gaddr, hrow, hsz]
      · rw [show (decide (0 ≤ ln ∧ ln ≤ cn ∧ cn * i.bytes ≤ roomI ∧ cn ≤ roomI) && decide (z.cells.length = i.size ∧ 0 < i.size) && (noLocs z.cells && cellsI z.cells)) = false by
          rw [Bool.eq_false_iff]; intro hb; apply hcond; simpa [and_assoc] using hb] at h
        cases h
    · cases h
  · cases h

theorem arep_rel {z : IV} {zv : Value} (hz : ofValue zv = some z) {n s : Nat} (hs : z.cells.length = s) (hp : 0 < s) :
    ARel m (List.replicate n z.cells).flatten ((Array.range (n * s)).map fun x => zv.cells[x % zv.cells.size]!) := by
  have hA := cells_rel (ofValue_rel (m := m) hz)
  have hsz : zv.cells.size = s := by rw [← hA.1]; exact hs
  refine ⟨by rw [rep_len, hs]; simp, fun i iv v hi hv => ?_⟩
  obtain ⟨h1, h2⟩ := rep_get hi
  rw [hs] at h1 h2
  have hlt : i % zv.cells.size < zv.cells.size := Nat.mod_lt _ (by omega)
  simp [h2] at hv
  rw [← hv, getElem!_of hlt]
  exact hA.2 (i % s) iv zv.cells[i % zv.cells.size] h1 (by rw [← hsz]; exact Array.getElem?_eq_getElem hlt)

theorem s_buildSlice {t : TypeId} {len : Nat} {ps : Array (Nat × Operand)} (ho : o.op = .buildSlice t len ps) (h : opC P O lo sand o env F G k = some r) (hE : ERel m env a.tmps) (hR : HRel P B K w0 m F G w) : StepOk P B K w0 m o a w k r := by
  simp only [opC, ho] at h
  split at h
  · rename_i e vs hu hv
    split at h
    · rename_i z hz
      split at h
      · rename_i hc
        obtain ⟨q1, q2, q3⟩ := hc
        split at h
        · rename_i cs hcs
          split at h
          · rename_i hn
            simp only [Bool.and_eq_true] at hn
            obtain ⟨i, zv, z1, z2, z3⟩ := zeroT_some hz
            have hsz : P.cellsOf e = i.size := by simp [Program.cellsOf, z1]
            obtain ⟨out', h4, h5⟩ := fill_rel (evParts_rel hE hv) (arep_rel (m := m) (n := len) z3 q2 q3) hcs
            have hrun : (Instr.buildSlice t len (ps.map fun (i, x) => (i, a.eval x))).run P w = .ok (.slice (some ⟨w.heap.size, 0, none⟩) len len) (pushRow w out' e) := by
              have h4' : Instr.fill (fun x => some (x * i.size, i.size)) ((Array.range (len * i.size)).map fun x => zv.cells[x % zv.cells.size]!) (ps.map fun (i, x) => (i, a.eval x)).toList = some out' := by
                rw [← hsz, ← h4]; simp
              have n1 : ¬ (len * i.size > 2 ^ 24) := by rw [← hsz]; omega
              simp only [Instr.buildSlice, Sem.run_bind, run_und hu, Result.andThen_ok, run_sizeI z1, if_neg n1]
              by_cases hz0 : len * i.size = 0
              · have e1 : (Array.range (len * i.size)) = #[] := by rw [hz0]; rfl
                rw [e1] at h4'
                simp only [Array.map_empty] at h4'
                simp only [hz0, if_true]
                simp only [show Array.range 0 = #[] from rfl, Array.map_empty, h4', Sem.run_bind, run_newRow, Result.andThen_ok, Sem.run_pure]
              · simp only [if_neg hz0, Sem.run_bind, run_zero z1 z2, Result.andThen_ok, Sem.run_pure, h4', run_newRow]
            refine ⟨_, _, _, _, _, _, wp_of_value (v' := .slice (some ⟨w.heap.size, 0, none⟩) len len) (w' := pushRow w out' e) ?_, Map.le_addG (hR.g_none (Nat.le_refl _)), hR.newG (grown_push w out' e) (cellsAt_noF h5 hn.1 hn.2) (by rw [h5.1]; exact Nat.le_refl _) (.inl rfl), ?_, h⟩
            · simp only [execOp, ho]
              exact run_v hrun
            · refine .slice (gaddr G) _ _ _ (Map.addG_self _ _ _) (Nat.le_refl _) fun _ => ?_
              have hl : out'.size = len * P.cellsOf e := by
                rw [← h5.1, fillI_len hcs, rep_len, q2]
              simp [gaddr, hl]
          · cases h
        · cases h
      · cases h
    · cases h
  · cases h
where
  fillI_len : ∀ {place : Nat → Option (Nat × Nat)} {vs : List (Nat × IV)} {cs out : List IV}, fillI place cs vs = some out → out.length = cs.length
    | _, [], cs, out, h => by simp [fillI] at h; subst h; rfl
    | _, (i, v) :: vs, cs, out, h => by
      simp only [fillI] at h
      split at h
      · cases h
      · split at h
        · cases h
        · rename_i hn
          rw [fillI_len h, splice_len (by omega)]

/-! ### append -/
/-- A row that is not anyone's yet is taken into the shared heap. -/
theorem HRel.addEnt (h : HRel P B K w0 m F G w) {e' : Ent} {c : Array Value} {t : TypeId} {fr : Nat × Nat} (hrow : w.heap[e'.blk]? = some (.cells c t fr)) {cells : List IV}
    (hc : ∀ (i : Nat) (iv : IV), cells[i]? = some iv → ∃ v, c[e'.off + i]? = some v ∧ VRel m.noF iv v ∧ v.oneCell' = true) (hl : e'.off + cells.length ≤ c.size) (hfr : FrOk c.size fr)
    (hK : ¬ K e'.blk) (hrw : e'.rw = true) (hez : e'.esz = P.cellsOf t) (hsz : c.size = e'.off + e'.size)
    (fg : ∀ (b : Nat) (k : Blk) (e : Ent), G[b]? = some k → k.mode = 1 → m.g b = some e → e.blk ≠ e'.blk) (ff : ∀ i r, m.f i = some r → e'.blk ≠ r) :
    HRel P B K w0 (m.addG G.length e') F (gnew G cells t) w := by
  have hle : m.le (m.addG G.length e') := Map.le_addG (h.g_none (Nat.le_refl _))
  have hgm : ∀ b e, (m.addG G.length e').g b = some e → (b = G.length ∧ e = e') ∨ (b < G.length ∧ m.g b = some e) := by
    intro b e he
    simp only [Map.addG] at he
    split at he
    · rename_i hb; injection he with he; exact .inl ⟨hb, he.symm⟩
    · exact .inr ⟨h.gdom _ _ he, he⟩
  have hget : ∀ b, b < G.length → (gnew G cells t)[b]? = G[b]? := fun b hb => List.getElem?_append_left hb
  have hget' : (gnew G cells t)[G.length]? = some ⟨cells, t, 1⟩ := by simp [gnew]
  refine { bk := h.bk, frame := h.frame, os := h.os, tape := h.tape, output := h.output, size := h.size, gdom := ?_, fdom := h.fdom, gblk := ?_, fblk := ?_, ginj := ?_, gf := ?_, finj := h.finj }
  · intro b e he
    rcases hgm b e he with ⟨rfl, _⟩ | ⟨hb, _⟩ <;> simp [gnew] <;> omega
  · intro b k e hk hm he
    rcases hgm b e he with ⟨rfl, rfl⟩ | ⟨hb, he'⟩
    · rw [hget'] at hk
      injection hk with hk
      subst hk
      refine ⟨c, t, fr, { row := hrow, fits := hl, cells := fun i iv hi => ?_, ro := fun h => by simp at h, esz := fun _ => hez, rw := fun _ => ⟨hK, rfl, hrw, hsz, hfr⟩ }⟩
      obtain ⟨v, h1, h2, h3⟩ := hc i iv hi
      exact ⟨v, h1, h2.mono (Map.noF_mono hle), h3⟩
    · rw [hget b hb] at hk
      obtain ⟨c', t', fr', hgb⟩ := h.gblk b k e hk hm he'
      exact ⟨c', t', fr', { hgb with cells := fun i iv hi => by obtain ⟨v, h1, h2, h3⟩ := hgb.cells i iv hi; exact ⟨v, h1, h2.mono (Map.noF_mono hle), h3⟩ }⟩
  · intro i cs b hi hb
    obtain ⟨c', t', hf⟩ := h.fblk i cs b hi hb
    exact ⟨c', t', { hf with cells := fun j iv hj => by obtain ⟨v, h1, h2⟩ := hf.cells j iv hj; exact ⟨v, h1, h2.mono hle⟩ }⟩
  · intro b1 b2 k1 k2 e1 e2 h1 h2 m1 m2 g1 g2 hne
    rcases hgm b1 e1 g1 with ⟨rfl, rfl⟩ | ⟨hb1, g1'⟩
    · rcases hgm b2 e2 g2 with ⟨rfl, rfl⟩ | ⟨hb2, g2'⟩
      · exact absurd rfl hne
      · rw [hget b2 hb2] at h2
        exact (fg b2 k2 e2 h2 m2 g2').symm
    · rw [hget b1 hb1] at h1
      rcases hgm b2 e2 g2 with ⟨rfl, rfl⟩ | ⟨hb2, g2'⟩
      · exact fg b1 k1 e1 h1 m1 g1'
      · rw [hget b2 hb2] at h2
        exact h.ginj b1 b2 k1 k2 e1 e2 h1 h2 m1 m2 g1' g2' hne
  · intro b i k e r h1 h2 g1 hr
    rcases hgm b e g1 with ⟨rfl, rfl⟩ | ⟨hb1, g1'⟩
    · exact ff i r hr
    · rw [hget b hb1] at h1
      exact h.gf b i k e r h1 h2 g1' hr

/-- A row is written that no live block stands at. -/
theorem HRel.over (h : HRel P B K w0 m F G w) {b : Nat} {c' : Array Value} {t : TypeId} {fr : Nat × Nat} {w' : World} (hw : Wrote w w' b c' t fr) (hK : ¬ K b)
    (fg : ∀ (i : Nat) (k : Blk) (e : Ent), G[i]? = some k → k.mode = 1 → m.g i = some e → e.blk ≠ b) (ff : ∀ i r, m.f i = some r → b ≠ r) : HRel P B K w0 m F G w' where
  bk := h.bk
  frame := fun i hi => by
    obtain ⟨h1, h2⟩ := h.frame i hi
    exact ⟨h1, (hw.other i (fun hc => hK (hc ▸ hi))).trans h2⟩
  os := hw.os.trans h.os
  tape := hw.tape.trans h.tape
  output := hw.output.trans h.output
  size := by rw [hw.size]; exact h.size
  gdom := h.gdom
  fdom := h.fdom
  gblk := fun i k e hi hm he => by
    obtain ⟨c1, t1, fr1, hg1⟩ := h.gblk i k e hi hm he
    have hne : e.blk ≠ b := by
      by_cases hm1 : k.mode = 1
      · exact fg i k e hi hm1 he
      · intro heq
        exact hK (h.bk _ (heq ▸ hg1.ro (by omega)))
    exact ⟨c1, t1, fr1, { hg1 with row := (hw.other _ hne).trans hg1.row }⟩
  fblk := fun i cs r hi hr => by
    obtain ⟨c1, t1, hf⟩ := h.fblk i cs r hi hr
    exact ⟨c1, t1, { hf with row := (hw.other _ (fun hc => ff i r hr hc.symm)).trans hf.row }⟩
  ginj := h.ginj
  gf := h.gf
  finj := h.finj

theorem gkill_get {G : GH} {b i : Nat} {k : Blk} (h : (gkill G b)[i]? = some k) (hm : k.mode = 1) : i ≠ b ∧ G[i]? = some k := by
  unfold gkill at h
  split at h
  · rename_i q hq
    have hb : b < G.length := (List.getElem?_eq_some_iff.1 hq).1
    rw [List.getElem?_set] at h
    simp only [hb, if_true] at h
    split at h
    · injection h with h; subst h; simp at hm
    · rename_i hbi; exact ⟨fun hc => hbi hc.symm, h⟩
  · rename_i hn
    refine ⟨fun hc => ?_, h⟩
    subst hc
    rw [h] at hn
    cases hn
theorem gkill_len (G : GH) (b : Nat) : (gkill G b).length = G.length := by
  unfold gkill
  split <;> simp

theorem growBy_le (n : Nat) : ∀ (rounds c : Nat), c ≤ 2 * n + 1000 → Builtin.growBy n rounds c ≤ 2 * n + 1000 + 768
  | 0, c, h => by simp only [Builtin.growBy]; omega
  | r + 1, c, h => by
    simp only [Builtin.growBy]
    split
    · omega
    · exact growBy_le n r _ (by omega)

theorem nextcap_le (n c : Nat) (h : c < n) : Builtin.nextslicecap n c ≤ 2 * n + 1768 := by
  unfold Builtin.nextslicecap
  split
  · omega
  · split
    · omega
    · have := growBy_le n 4 c (by omega)
      omega

theorem zeroCells_size (z : Array Value) (n : Nat) : (Builtin.zeroCells z n).size = n * z.size := by simp [Builtin.zeroCells]

def capOf (w : World) (need old : Nat) (e : TypeId) : Nat := (Question.appendCap need old e).cut (w.tape w.drawn (.appendCap need old e))
theorem capOf_ge (w : World) (need old : Nat) (e : TypeId) : need ≤ capOf w need old e := by simp [capOf, Question.cut]
def drewOne (w : World) : World := { w with drawn := w.drawn + 1 }
theorem drewOne_below (w : World) : Below w.heap.size w (drewOne w) := below_drawn w _

theorem run_app_room {t u ty e : TypeId} {i : TypeInfo} {n c mm : Nat} {X : List Value} {vx : Value} {ad : Addr} {w' : World}
    (hu : P.underlying t = some (.slice e)) (hi : P.info? e = some i) (huq : (∃ e2, P.underlying u = some (.slice e2)) ∨ P.underlying u = some .string) (hlen : (Builtin.lenOf vx).run P w = .ok mm w)
    (hx : (Builtin.firstCells i.size mm vx).run P w = .ok X.toArray w) (hroom : n + mm ≤ c) (hst : (storeCells (ad.add (n * i.size)) X).run P w = .ok () w') :
    (Builtin.append_ #[t, u] ty #[.slice (some ad) n c, vx]).run P w = .ok (.slice (some ad) (n + mm) c) w' := by
  rcases huq with ⟨e2, huq⟩ | huq <;>
  · unfold Builtin.append_
    simp only [List.getElem?_toArray, List.getElem?_cons_zero, List.getElem?_cons_succ, Sem.run_bind, run_und hu, run_und huq, Result.andThen_ok, run_sizeI hi, Sem.run_pure, Bool.false_eq_true, if_false, hlen, hroom, if_true, Bool.not_false, hx, hst]

theorem run_app_none {t u ty e : TypeId} {i : TypeInfo} {vx : Value}
    (hu : P.underlying t = some (.slice e)) (hi : P.info? e = some i) (huq : (∃ e2, P.underlying u = some (.slice e2)) ∨ P.underlying u = some .string) (hlen : (Builtin.lenOf vx).run P w = .ok 0 w)
    (hx : (Builtin.firstCells i.size 0 vx).run P w = .ok #[] w) :
    (Builtin.append_ #[t, u] ty #[.slice none 0 0, vx]).run P w = .ok (.slice none 0 0) w := by
  rcases huq with ⟨e2, huq⟩ | huq <;>
  · unfold Builtin.append_
    simp only [List.getElem?_toArray, List.getElem?_cons_zero, List.getElem?_cons_succ, Sem.run_bind, run_und hu, run_und huq, Result.andThen_ok, run_sizeI hi, Sem.run_pure, Bool.false_eq_true, if_false, hlen, Nat.le_refl, if_true, Bool.not_false, hx, Nat.add_zero]

theorem run_app_grow {t u ty e : TypeId} {i : TypeInfo} {n c mm : Nat} {X Y : List Value} {vx : Value} {bs : Option Addr} {z : Value}
    (hu : P.underlying t = some (.slice e)) (hi : P.info? e = some i) (huq : (∃ e2, P.underlying u = some (.slice e2)) ∨ P.underlying u = some .string) (hz : i.zero = some z) (hlen : (Builtin.lenOf vx).run P w = .ok mm w)
    (hx : (Builtin.firstCells i.size mm vx).run P (drewOne w) = .ok X.toArray (drewOne w)) (hy : (Builtin.firstCells i.size n (.slice bs n c)).run P (drewOne w) = .ok Y.toArray (drewOne w))
    (hroom : c < n + mm) (hb0 : i.bytes ≠ 0) (hbig : ¬ (Builtin.nextslicecap (n + mm) c * i.bytes > 2 ^ 48)) :
    (Builtin.append_ #[t, u] ty #[.slice bs n c, vx]).run P w = .ok (.slice (some ⟨w.heap.size, 0, none⟩) (n + mm) (capOf w (n + mm) c e))
      (pushRow (drewOne w) (Y.toArray ++ X.toArray ++ Builtin.zeroCells z.cells (capOf w (n + mm) c e - (n + mm))) e) := by
  have h1 : ¬ (n + mm ≤ c) := by omega
  have hch : (choose (.appendCap (n + mm) c e)).run P w = .ok (capOf w (n + mm) c e) (drewOne w) := by
    simp only [run_choose, Question.forced, Bool.false_eq_true, if_false, capOf, drewOne]
  have hti : ∀ w', (typeInfo e).run P w' = .ok i w' := fun w' => by simp only [typeInfo, Sem.run_bind, run_program, Result.andThen_ok, hi, Sem.run_pure]
  have h3 : (drewOne w).heap.size = w.heap.size := rfl
  rcases huq with ⟨e2, huq⟩ | huq <;>
  · unfold Builtin.append_
    simp only [List.getElem?_toArray, List.getElem?_cons_zero, List.getElem?_cons_succ, Sem.run_bind, run_und hu, run_und huq, Result.andThen_ok, run_sizeI hi, Sem.run_pure, Bool.false_eq_true, if_false, hlen, if_neg h1, Bool.not_false, if_true, hti,
      hb0, or_self, and_false, if_neg hbig, hch, run_askRoom, hy, hx, run_zero hi hz, run_newRow, h3]
theorem HRel.push_none (h : HRel P B K w0 m F G w) (cells : List IV) (t : TypeId) : HRel P B K w0 m F (gnew G cells t) w := by
  have hget : ∀ (b : Nat) (e : Ent), m.g b = some e → (gnew G cells t)[b]? = G[b]? := fun b e he => List.getElem?_append_left (h.gdom b e he)
  exact { bk := h.bk, frame := h.frame, os := h.os, tape := h.tape, output := h.output, size := h.size, fdom := h.fdom, fblk := h.fblk, finj := h.finj
          gdom := fun b e he => by have := h.gdom b e he; simp [gnew]; omega
          gblk := fun b k e hk hm he => h.gblk b k e (by rw [← hget b e he]; exact hk) hm he
          ginj := fun b1 b2 k1 k2 e1 e2 h1 h2 m1 m2 g1 g2 hne => h.ginj b1 b2 k1 k2 e1 e2 (by rw [← hget b1 e1 g1]; exact h1) (by rw [← hget b2 e2 g2]; exact h2) m1 m2 g1 g2 hne
          gf := fun b i k e r h1 h2 g1 hr => h.gf b i k e r (by rw [← hget b e g1]; exact h1) h2 g1 hr }

/-- What append does, of related lists. 'hx': the cells that come on are read so, in every world that has only grown. -/
theorem append_rel (hR : HRel P B K w0 m F G w) {t u ty e : TypeId} {i : TypeInfo} {p : Option GA} {n mm : Nat} {x : List IV} {X : List Value} {vs vx : Value} {a' : Option GA} {G' : GH} {z : Value}
    (hu : P.underlying t = some (.slice e)) (hi : P.info? e = some i) (huq : (∃ e2, P.underlying u = some (.slice e2)) ∨ P.underlying u = some .string) (hz1 : i.zero = some z) (hz2 : z.cells.size = i.size) (hb0 : 0 < i.bytes) (hbz : i.bytes ≤ 2 ^ 20)
    (h : gappend G e i.size i.bytes p n x mm = some (a', G')) (hs : VRel m (.slice p n) vs) (hlen : ∀ w', (Builtin.lenOf vx).run P w' = .ok mm w')
    (hx : ∀ w', Below w.heap.size w w' → (Builtin.firstCells i.size mm vx).run P w' = .ok X.toArray w') (hxl : x.length = mm * i.size) (hXl : X.length = mm * i.size)
    (hxr : ∀ (j : Nat) (iv : IV) (v : Value), x[j]? = some iv → X[j]? = some v → VRel m.noF iv v ∧ v.oneCell' = true) :
    ∃ w' m' v', (Builtin.append_ #[t, u] ty #[vs, vx]).run P w = .ok v' w' ∧ m.le m' ∧ HRel P B K w0 m' F G' w' ∧ VRel m' (.slice a' (n + mm)) v' := by
  have hes : P.cellsOf e = i.size := by simp [Program.cellsOf, hi]
  have hXone : ∀ v ∈ X, v.oneCell' = true := by
    intro v hv
    obtain ⟨j, hj, rfl⟩ := List.mem_iff_getElem.1 hv
    have h1 : j < x.length := by omega
    exact (hxr j x[j] X[j] (List.getElem?_eq_getElem h1) (List.getElem?_eq_getElem hj)).2
  unfold gappend at h
  split at h
  · rename_i hroom
    have hbig : ∀ c, c < n + mm → ¬ (Builtin.nextslicecap (n + mm) c * i.bytes > 2 ^ 48) := by
      intro c hc
      have h1 := nextcap_le (n + mm) c hc
      have h2 : Builtin.nextslicecap (n + mm) c * i.bytes ≤ (2 * (n + mm) + 1768) * i.bytes := Nat.mul_le_mul_right _ h1
      have h3 : (2 * (n + mm) + 1768) * i.bytes = 2 * ((n + mm) * i.bytes) + 1768 * i.bytes := by rw [Nat.add_mul, Nat.mul_assoc]
      unfold roomI at hroom
      omega
    -- the new row, when there is no room
    have grow : ∀ (bs : Option Addr) (c : Nat) (Y : List Value) (G1 : GH) (old : List IV), c < n + mm → (Builtin.firstCells i.size n (.slice bs n c)).run P (drewOne w) = .ok Y.toArray (drewOne w) →
        HRel P B K w0 m F G1 w → old.length = n * i.size → Y.length = n * i.size → (∀ (j : Nat) (iv : IV) (v : Value), old[j]? = some iv → Y[j]? = some v → VRel m.noF iv v ∧ v.oneCell' = true) →
        ∃ w' m' v', (Builtin.append_ #[t, u] ty #[.slice bs n c, vx]).run P w = .ok v' w' ∧ m.le m' ∧ HRel P B K w0 m' F (gnew G1 (old ++ x) e) w' ∧ VRel m' (.slice (some (gaddr G1)) (n + mm)) v' := by
      intro bs c Y G1 old hc hy hR1 ho hY hor
      have hcap := capOf_ge w (n + mm) c e
      have hrowsz : (Y.toArray ++ X.toArray ++ Builtin.zeroCells z.cells (capOf w (n + mm) c e - (n + mm))).size = capOf w (n + mm) c e * i.size := by
        simp only [Array.size_append, List.size_toArray, zeroCells_size, hz2, hXl, hY]
        rw [← Nat.add_mul, ← Nat.add_mul]
        congr 1; omega
      have hgr : Grown w (pushRow (drewOne w) (Y.toArray ++ X.toArray ++ Builtin.zeroCells z.cells (capOf w (n + mm) c e - (n + mm))) e) (Y.toArray ++ X.toArray ++ Builtin.zeroCells z.cells (capOf w (n + mm) c e - (n + mm))) e (0, 0) := by
        have g1 := grown_push (drewOne w) (Y.toArray ++ X.toArray ++ Builtin.zeroCells z.cells (capOf w (n + mm) c e - (n + mm))) e
        exact { below := (drewOne_below w).trans g1.below, row := g1.row }
      refine ⟨_, _, _, run_app_grow hu hi huq hz1 (hlen w) (hx _ (drewOne_below w)) hy hc (by omega) (hbig c hc), Map.le_addG (hR1.g_none (Nat.le_refl _)), hR1.newG hgr ?_ ?_ (.inl rfl), ?_⟩
      · intro j iv hj
        by_cases hjo : j < old.length
        · rw [List.getElem?_append_left hjo] at hj
          have hjY : j < Y.length := by omega
          refine ⟨Y[j], ?_, hor j iv _ hj (List.getElem?_eq_getElem hjY)⟩
          rw [Array.getElem?_append, if_pos (by simp; omega), Array.getElem?_append, if_pos (by simpa using hjY)]
          simp [hjY]
        · rw [List.getElem?_append_right (by omega)] at hj
          have hjx : j - old.length < x.length := (List.getElem?_eq_some_iff.1 hj).1
          have hjX : j - old.length < X.length := by omega
          refine ⟨X[j - old.length], ?_, hxr _ iv _ hj (List.getElem?_eq_getElem hjX)⟩
          rw [Array.getElem?_append, if_pos (by simp; omega), Array.getElem?_append, if_neg (by simp; omega)]
          simp only [List.size_toArray, List.getElem?_toArray]
          rw [show j - Y.length = j - old.length by omega]
          exact List.getElem?_eq_getElem hjX
      · rw [hrowsz, List.length_append, ho, hxl, ← Nat.add_mul]
        exact Nat.mul_le_mul_right _ hcap
      · refine .slice (gaddr G1) _ _ _ (Map.addG_self _ _ _) hcap fun _ => ?_
        simp only [gaddr, Nat.zero_add, hes]
        exact Nat.le_of_eq hrowsz.symm
    split at h
    · split at h
      · rename_i hn
        subst hn
        cases hs
        split at h
        · rename_i hm
          subst hm
          injection h with h
          injection h with h1 h2
          subst h1; subst h2
          have hX : X = [] := List.length_eq_zero_iff.1 (by simpa using hXl)
          subst hX
          exact ⟨w, m, _, run_app_none hu hi huq (hlen w) (hx w (Below.refl _ _)), m.le_refl, hR, .sliceNil⟩
        · rename_i hm
          injection h with h
          injection h with h1 h2
          subst h1; subst h2
          have := grow none 0 [] G [] (by omega) (by simp [Builtin.firstCells]) hR (by simp) (by simp) (fun j iv v hj _ => by simp at hj)
          simpa using this
      · cases h
    · rename_i p
      split at h
      · rename_i old hown hold
        injection h with h
        injection h with h1 h2
        subst h1; subst h2
        obtain ⟨hol, hoc, blk, hblk, _⟩ := grd_some hold
        simp only [gown, hblk, Bool.and_eq_true, decide_eq_true_eq, beq_iff_eq] at hown
        obtain ⟨hmo, hel⟩ := hown
        have hRk := hR.kill p.b
        have hga : gaddr G = gaddr (gkill G p.b) := by simp [gaddr, gkill_len]
        rw [hga]
        cases hs with
        | sliceE _ ad =>
          -- an empty one without room
          have h0 : old = [] := List.length_eq_zero_iff.1 (by simpa using hol)
          subst h0
          by_cases hm : mm = 0
          · subst hm
            have hX : X = [] := List.length_eq_zero_iff.1 (by simpa using hXl)
            have hxe : x = [] := List.length_eq_zero_iff.1 (by simpa using hxl)
            subst hX; subst hxe
            -- it stays as it is: the new block is empty and stands nowhere
            refine ⟨w, m, .slice (some ad) 0 0, ?_, m.le_refl, ?_, .sliceE _ _⟩
            · exact run_app_room hu hi huq (hlen w) (hx w (Below.refl _ _)) (Nat.le_refl _) rfl
            · exact hRk.push_none _ _
          · have := grow (some ad) 0 [] (gkill G p.b) [] (by omega) (by simp [Builtin.firstCells, loadCells, loadCellsFrom]) hRk (by simp) (by simp) (fun j iv v hj _ => by simp at hj)
            simpa using this
        | slice _ en _ c he hnc hrw =>
          obtain ⟨cc, tt, fr, hgb⟩ := hR.gblk _ _ _ hblk (by omega) he
          obtain ⟨hK, htt, hrwt, hccs, hfr⟩ := hgb.rw hmo
          have hesz := hgb.esz hrwt
          rw [hel, hes] at hesz
          have hrw' := hrw hrwt
          rw [hesz] at hrw'
          obtain ⟨Y, hYl, hYr, hYv, hYc⟩ := grd_cells hR.mem hold he
          have hYo : ∀ (j : Nat) (iv : IV) (v : Value), old[j]? = some iv → Y[j]? = some v → cc[en.off + p.o + j]? = some v ∧ VRel m.noF iv v ∧ v.oneCell' = true := by
            intro j iv v h1 h2
            have h3 := hYc j v h2
            rw [cell?_eq hgb.row] at h3
            have h4 := hoc j iv h1
            simp only [gld, GA.add, hblk, hmo, Nat.le_refl, if_true] at h4
            obtain ⟨v', h5, h6, h7⟩ := hgb.cells _ _ h4
            rw [← Nat.add_assoc, h3] at h5
            injection h5 with h5
            subst h5
            exact ⟨h3, h6, h7⟩
          by_cases hr : n + mm ≤ c
          · have hmul : (n + mm) * i.size ≤ c * i.size := Nat.mul_le_mul_right _ hr
            rw [Nat.add_mul] at hmul
            have hfit : en.off + p.o + n * i.size + X.length ≤ cc.size := by omega
            obtain ⟨w', hw1, hw2⟩ := run_setCells (P := P) en.blk (en.off + p.o + n * i.size) tt fr X 0 cc w hgb.row (by omega) hfr.no hXone
            rw [Nat.add_zero] at hw2
            have fg : ∀ (b : Nat) (k : Blk) (e : Ent), (gkill G p.b)[b]? = some k → k.mode = 1 → m.g b = some e → e.blk ≠ en.blk := by
              intro b k e2 h1 h2 h3
              obtain ⟨h4, h5⟩ := gkill_get h1 h2
              exact hR.ginj b p.b k blk e2 en h5 hblk h2 hmo h3 he h4
            have ff : ∀ i r, m.f i = some r → en.blk ≠ r := fun i r hr => hR.gf p.b i blk en r hblk hmo he hr
            have hR2 := hRk.over hw2 hK fg ff
            let e' : Ent := ⟨en.blk, en.off + p.o, en.size - p.o, i.size, true⟩
            have hR3 := hR2.addEnt (e' := e') (cells := old ++ x) (t := tt) hw2.row (by
                intro j iv hj
                rw [setAll_get X _ cc _ hfit]
                by_cases hjo : j < old.length
                · rw [List.getElem?_append_left hjo] at hj
                  have hjY : j < Y.length := by omega
                  rw [if_neg (by show ¬ (en.off + p.o + n * i.size ≤ en.off + p.o + j ∧ _); omega)]
                  exact ⟨Y[j], hYo j iv _ hj (List.getElem?_eq_getElem hjY)⟩
                · rw [List.getElem?_append_right (by omega)] at hj
                  have hjx : j - old.length < x.length := (List.getElem?_eq_some_iff.1 hj).1
                  have hjX : j - old.length < X.length := by omega
                  rw [if_pos (by show en.off + p.o + n * i.size ≤ en.off + p.o + j ∧ en.off + p.o + j < _; omega)]
                  refine ⟨X[j - old.length], ?_, hxr _ iv _ hj (List.getElem?_eq_getElem hjX)⟩
                  rw [show e'.off + j - (en.off + p.o + n * i.size) = j - old.length by show en.off + p.o + j - _ = _; omega]
                  exact List.getElem?_eq_getElem hjX)
              (by rw [setAll_size, List.length_append]; show en.off + p.o + _ ≤ _; omega) (by rw [setAll_size]; exact hfr) hK rfl (by show i.size = P.cellsOf tt; rw [htt, hel, hes]) (by rw [setAll_size]; show cc.size = en.off + p.o + (en.size - p.o); omega) fg ff
            rw [htt, hel] at hR3
            refine ⟨w', _, _, run_app_room hu hi huq (hlen w) (hx w (Below.refl _ _)) hr ?_, Map.le_addG (hRk.g_none (Nat.le_refl _)), hR3, ?_⟩
            · rw [addr_add]; exact hw1
            · refine .slice (gaddr (gkill G p.b)) e' _ _ (Map.addG_self _ _ _) hr fun _ => ?_
              show 0 + c * i.size ≤ en.size - p.o
              omega
          · have := grow (some ⟨en.blk, en.off + p.o, none⟩) c Y (gkill G p.b) old (by omega) (by simp only [Builtin.firstCells]; exact hYr _ (drewOne_below w)) hRk (by omega) (by omega) (fun j iv v h1 h2 => (hYo j iv v h1 h2).2)
            exact this
      · cases h
  · cases h

end
end Go.LI

/-! append, copy and []byte(s), as operations; and each operation that is no call. -/
namespace Go.LI
open Go Go.RowKit

section
variable {R : Type} {P : Program} {B K : Nat → Prop} {w0 : World} {m : Map} {F : List (List IV)} {G : GH} {w : World} {O : Ora R} {lo : List Nat} {sand : Bool} {o : Oper} {env : List IV} {a : Act} {k : IV → List (List IV) → GH → Option R} {r : R}

theorem two_args {c : Call} {args : List IV} {x y : IV} (hA : ARel m args (c.args.map a.eval)) (h : args = [x, y]) : ∃ vx vy, c.args.map a.eval = #[vx, vy] ∧ VRel m x vx ∧ VRel m y vy := by
  subst h
  obtain ⟨vx, h1, h2⟩ := hA.get (i := 0) (iv := x) rfl
  obtain ⟨vy, h3, h4⟩ := hA.get (i := 1) (iv := y) rfl
  have hs : (c.args.map a.eval).size = 2 := by have := hA.1; simp at this; simp; omega
  refine ⟨vx, vy, ?_, h2, h4⟩
  apply Array.ext'
  apply List.ext_getElem?
  intro i
  match i with
  | 0 => simpa using h1
  | 1 => simpa using h3
  | i + 2 => rw [List.getElem?_eq_none (by rw [Array.length_toList, hs]; omega), List.getElem?_eq_none (by simp)]

theorem two_types {ts : Array TypeId} {t u : TypeId} (h : ts.toList = [t, u]) : ts = #[t, u] := by
  apply Array.ext'; simpa using h

theorem run_call_builtin {c : Call} {b : Builtin} (ho : o.op = .call c) (hc : c.callee = .builtin b) (w' : World) :
    (execOp a.eval o).run P w' = (builtin b c.argTypes o.type (c.args.map fun | .const _ => true | _ => false) (c.args.map a.eval)).run P w' := by
  simp [execOp, ho, resolve, hc, invoke]
  rfl

theorem bytesI_rel (s : List UInt8) : ∀ (j : Nat) (iv : IV) (v : Value), (bytesI s)[j]? = some iv → (s.map fun b => Value.int .u8 b.toNat)[j]? = some v → VRel m.noF iv v ∧ v.oneCell' = true := by
  intro j iv v h1 h2
  simp only [bytesI, List.getElem?_map] at h1 h2
  cases hs : s[j]? with
  | none => rw [hs] at h1; cases h1
  | some b =>
    rw [hs] at h1 h2
    simp at h1 h2
    subst h1; subst h2
    exact ⟨.int _ _, rfl⟩

theorem s_append {c : Call} (ho : o.op = .call c) (hc : c.callee = .builtin .append) (h : opC P O lo sand o env F G k = some r) (hE : ERel m env a.tmps) (hR : HRel P B K w0 m F G w) : StepOk P B K w0 m o a w k r := by
  simp only [opC, ho] at h
  split at h
  · rename_i args hargs
    rw [hc] at h
    simp only [builtinC] at h
    have hA := evs_arel hE hargs
    split at h
    · rename_i t u p n x hts
      have hts' := two_types hts
      obtain ⟨vs, vx, hvv, hvs, hvx⟩ := two_args hA rfl
      have fin : ∀ {w' : World} {v' : Value}, (Builtin.append_ #[t, u] o.type #[vs, vx]).run P w = .ok v' w' → (execOp a.eval o).run P w = .ok (.value v') w' := by
        intro w' v' hrun
        rw [run_call_builtin ho hc, hts', hvv]
        simp [builtin, hrun]
      split at h
      · rename_i e hu
        split at h
        · rename_i i z hi hz
          split at h
          · cases h
          · rename_i hcond
            have hcond : 0 < i.bytes ∧ i.bytes ≤ 2 ^ 20 ∧ 0 < i.size ∧ z.cells.length = i.size := by
              by_cases hq : 0 < i.bytes ∧ i.bytes ≤ 2 ^ 20 ∧ 0 < i.size ∧ z.cells.length = i.size
              · exact hq
              · exact absurd hq hcond
            obtain ⟨q1, q2, q3, q4⟩ := hcond
            obtain ⟨i', zv, z1, z2, z3⟩ := zeroT_some hz
            have : i' = i := by rw [hi] at z1; injection z1 with z1; exact z1.symm
            subst this
            have hzs : zv.cells.size = i'.size := by rw [← q4]; exact (cells_rel (ofValue_rel (m := m) z3)).1.symm
            split at h
            · rename_i b mm e2 hu2
              split at h
              · rename_i new hnew
                split at h
                · rename_i a' G' hg
                  -- a slice comes on
                  have key : ∀ (X : List Value), (∀ w', Below w.heap.size w w' → (Builtin.firstCells i'.size mm vx).run P w' = .ok X.toArray w') → new.length = mm * i'.size → X.length = mm * i'.size →
                      (∀ (j : Nat) (iv : IV) (v : Value), new[j]? = some iv → X[j]? = some v → VRel m.noF iv v ∧ v.oneCell' = true) → (∀ w', (Builtin.lenOf vx).run P w' = .ok mm w') → StepOk P B K w0 m o a w k r := by
                    intro X h1 h2 h3 h4 h5
                    obtain ⟨w', m', v', r1, r2, r3, r4⟩ := append_rel (ty := o.type) hR hu hi (.inl ⟨e2, hu2⟩) z2 hzs q1 q2 hg hvs h5 h1 h2 h3 h4
                    exact ⟨_, _, m', w', F, G', wp_of_value (fin r1), r2, r3, r4, h⟩
                  cases hvx with
                  | sliceNil =>
                    simp only [if_true] at hnew
                    injection hnew with hnew
                    subst hnew
                    exact key [] (fun w' _ => by simp [Builtin.firstCells]) (by simp) (by simp) (fun j iv v h => by simp at h) (fun w' => by simp [Builtin.lenOf])
                  | sliceE b' ad =>
                    simp only at hnew
                    obtain ⟨l1, _, _⟩ := grd_some hnew
                    have : new = [] := List.length_eq_zero_iff.1 (by simpa using l1)
                    subst this
                    exact key [] (fun w' _ => by simp [Builtin.firstCells, loadCells, loadCellsFrom]) (by simp) (by simp) (fun j iv v h => by simp at h) (fun w' => by simp [Builtin.lenOf])
                  | slice b' en _ cc he hnc hrw =>
                    simp only at hnew
                    obtain ⟨l1, l2, blk, hblk, hmo⟩ := grd_some hnew
                    obtain ⟨Y, hYl, hYr, hYv, hYc⟩ := grd_cells hR.mem hnew he
                    obtain ⟨crow, tt, fr, hgb⟩ := hR.gblk _ _ _ hblk hmo he
                    refine key Y (fun w' hw => by simp only [Builtin.firstCells]; exact hYr w' hw) l1 hYl (fun j iv v h1 h2 => ?_) (fun w' => by simp [Builtin.lenOf])
                    have h3 := hYc j v h2
                    rw [cell?_eq hgb.row] at h3
                    have h4 := l2 j iv h1
                    simp only [gld, GA.add, hblk, hmo, if_true] at h4
                    obtain ⟨v', h5, h6, h7⟩ := hgb.cells _ _ h4
                    rw [← Nat.add_assoc, h3] at h5
                    injection h5 with h5
                    subst h5
                    exact ⟨h6, h7⟩
                · cases h
              · cases h
            · rename_i s hu2
              split at h
              · rename_i hs1
                split at h
                · rename_i a' G' hg
                  cases hvx
                  have hx : ∀ w' : World, (Builtin.firstCells i'.size s.length (.string ⟨⟨s⟩⟩)).run P w' = .ok (s.map fun b => Value.int .u8 b.toNat).toArray w' := by
                    intro w'
                    simp only [Builtin.firstCells, Sem.run_pure]
                    congr 1
                    apply Array.ext'
                    have : ((⟨⟨s⟩⟩ : ByteArray).extract 0 s.length).data.toList = s := by
                      rw [ByteArray.data_extract]; simp
                    rw [Array.toList_map, this]
                  obtain ⟨w', m', v', r1, r2, r3, r4⟩ := append_rel (ty := o.type) hR hu hi (.inr hu2) z2 hzs q1 q2 hg hvs (fun w' => by simp [Builtin.lenOf]; rfl) (fun w' _ => hx w') (by simp [bytesI, hs1]) (by simp [hs1]) (bytesI_rel s)
                  exact ⟨_, _, m', w', F, G', wp_of_value (fin r1), r2, r3, r4, h⟩
                · cases h
              · cases h
            · cases h
        · cases h
      · cases h
    · cases h
  · cases h

theorem s_convMakes {s d : TypeId} {x : Operand} (ho : o.op = .convert s d x) (hq : convMakes P o.op = true) (h : opC P O lo sand o env F G k = some r) (hE : ERel m env a.tmps) (hR : HRel P B K w0 m F G w) : StepOk P B K w0 m o a w k r := by
  simp only [opC, ho] at h
  rw [ho] at hq
  simp only [convMakes] at hq
  split at h
  · rename_i vx hx
    have hb := ev_rel hE hx
    unfold convC at h
    split at h
    · rename_i hd; rw [hd] at hq; cases hq
    · rename_i hd; rw [hd] at hq; cases hq
    · rename_i hd; rw [hd] at hq; cases hq
    · rename_i hd; rw [hd] at hq; cases hq
    · rename_i hd; rw [hd] at hq; cases hq
    · rename_i e st hs hd
      split at h
      · rename_i he
        split at h
        · rename_i hc1
          generalize hbv : a.eval x = bv at hb
          cases hb
          have hrun := Lib.run_convert_string_bytes w s d e ⟨⟨st⟩⟩ hs hd he
          have hrow := Lib.bytesWorld_at_new w e ⟨⟨st⟩⟩
          have hgr : Grown w (Lib.bytesWorld w e ⟨⟨st⟩⟩) (Lib.bytesCells w e ⟨⟨st⟩⟩) e ((Lib.bytesCells w e ⟨⟨st⟩⟩).size, (Lib.bytesCells w e ⟨⟨st⟩⟩).size + 1) :=
            { below := ⟨rfl, rfl, rfl, by rw [Lib.bytesWorld_size]; omega, fun i hi => Lib.bytesWorld_at_old w e _ i hi⟩, row := hrow }
          have hcap : st.length ≤ grownCap w st.length 0 e := grownCap_ge w _ _ _
          have hsz : (Lib.bytesCells w e ⟨⟨st⟩⟩).size = grownCap w st.length 0 e := by
            simp only [Lib.bytesCells, Array.size_append, Array.size_map, Array.size_replicate]
            show st.length + (grownCap w st.length 0 e - st.length) = _
            omega
          refine ⟨_, _, _, _, _, _, wp_of_value (v' := .slice (some ⟨w.heap.size, 0, none⟩) st.length (grownCap w st.length 0 e)) (w' := Lib.bytesWorld w e ⟨⟨st⟩⟩) ?_, Map.le_addG (hR.g_none (Nat.le_refl _)), hR.newG hgr (cells := bytesI st) ?_ (by rw [hsz]; simp [bytesI]; exact hcap) (.inr (Nat.le_refl _)), ?_, h⟩
          · simp only [execOp, ho, hbv]
            exact run_v hrun
          · intro j iv hj
            have hjl : j < st.length := by
              have := (List.getElem?_eq_some_iff.1 hj).1
              simpa [bytesI] using this
            have := bytesI_rel (m := m) st j iv (.int .u8 (st[j]).toNat) hj (by simp [hjl])
            refine ⟨_, ?_, this⟩
            simp only [Lib.bytesCells]
            rw [Array.getElem?_append, if_pos (by show j < (Array.map _ (⟨st⟩ : Array UInt8)).size; simpa using hjl)]
            show (Array.map _ (⟨st⟩ : Array UInt8))[j]? = _
            simp [hjl]
          · refine .slice (gaddr G) _ _ _ (Map.addG_self _ _ _) hcap fun _ => ?_
            simp only [gaddr, Nat.zero_add, hc1, Nat.mul_one, hsz]
            exact Nat.le_refl _
        · cases h
      · cases h
    · rename_i hd; rw [hd] at hq; cases hq
    · rename_i e e' ga n hs hd
      split at h
      · rename_i he
        split at h
        · rename_i hsd
          subst hsd
          split at h
          · cases h
          · rename_i hn0
            cases hgm : gmark G ga.b with
            | false => rw [hgm, cond_false] at h; cases h
            | true =>
              rw [hgm, cond_true] at h
              unfold gmark at hgm
              split at hgm
              · rename_i kb hkb
                have hm1 : kb.mode = 1 := by simpa using hgm
                generalize hbv : a.eval x = bv at hb
                cases hb with
                | slice _ en _ cc hen hnc hrw =>
                  obtain ⟨c, t, fr, hgb⟩ := hR.gblk _ _ _ hkb (by omega) hen
                  obtain ⟨hK, ht, _, hcs, hfr⟩ := hgb.rw hm1
                  have hfr' : FrOk c.size (if fr.1 == fr.2 then (c.size, c.size + 1) else (min fr.1 c.size, max fr.2 (c.size + 1))) := by
                    split
                    · exact .inr (Nat.le_refl _)
                    · rename_i hne
                      have hne' : fr.1 ≠ fr.2 := by simpa using hne
                      rcases hfr with h1 | h1
                      · exact (hne' h1).elim
                      · refine .inr ?_
                        simp only
                        omega
                  have hrow := hgb.row
                  have hsh : w.shape? en.blk = some (t, c.size) := by unfold World.shape?; rw [hrow]
                  have hw' : Wrote w (w.freeze ⟨en.blk, c.size, none⟩ 1) en.blk c t (if fr.1 == fr.2 then (c.size, c.size + 1) else (min fr.1 c.size, max fr.2 (c.size + 1))) := by
                    unfold World.freeze
                    rw [if_neg (by decide)]
                    refine ⟨rfl, rfl, rfl, by simp, ?_, fun i hi => ?_⟩
                    · simp only [Array.getElem?_modify, hrow, if_true, Option.map_some]
                    · simp only [Array.getElem?_modify, if_neg (fun hc : en.blk = i => hi hc.symm)]
                  refine ⟨_, _, m, _, F, G, wp_of_value (v' := .slice (some ⟨en.blk, en.off + ga.o, none⟩) n cc) (w' := w.freeze ⟨en.blk, c.size, none⟩ 1) ?_, m.le_refl, hR.mark hkb hm1 hen hgb hw' hfr', ?_, h⟩
                  · simp only [execOp, ho, hbv]
                    exact run_v (by simp [convert, run_und hs, run_und he, markStringish, hsh])
                  · exact .slice ga en n cc hen hnc hrw
                | sliceE _ _ => exact (hn0 rfl).elim
              · cases hgm
        · cases h
      · cases h
    · cases h
  · cases h

theorem s_copy {c : Call} (ho : o.op = .call c) (hc : c.callee = .builtin .copy) (h : opC P O lo sand o env F G k = some r) (hE : ERel m env a.tmps) (hR : HRel P B K w0 m F G w) : StepOk P B K w0 m o a w k r := by
  simp only [opC, ho] at h
  split at h
  · rename_i args hargs
    rw [hc] at h
    simp only [builtinC] at h
    have hA := evs_arel hE hargs
    split at h
    · rename_i t u p n b mm hts
      have hts' := two_types hts
      obtain ⟨vs, vx, hvv, hvs, hvx⟩ := two_args hA rfl
      have fin : ∀ {w' : World} {v' : Value}, (Builtin.copy_ #[t, u] o.type #[vs, vx]).run P w = .ok v' w' → (execOp a.eval o).run P w = .ok (.value v') w' := by
        intro w' v' hrun
        rw [run_call_builtin ho hc, hts', hvv]
        simp [builtin, hrun]
      split at h
      · rename_i e hu
        split at h
        · cases h
        · rename_i hz
          obtain ⟨ii, hii, hs⟩ := cellsT_pos hz
          split at h
          · rename_i p b
            split at h
            · rename_i cs hcs
              split at h
              · rename_i G' hG'
                obtain ⟨l1, l2, blk2, hblk2, hmo2⟩ := grd_some hcs
                -- what is read
                have hread : ∃ Y : List Value, Y.length = min mm n * P.cellsOf e ∧ (Builtin.firstCells (P.cellsOf e) (min mm n) vx).run P w = .ok Y.toArray w ∧ (Builtin.lenOf vx).run P w = .ok mm w ∧
                    ∀ (j : Nat) (iv : IV) (v : Value), cs[j]? = some iv → Y[j]? = some v → VRel m.noF iv v ∧ v.oneCell' = true := by
                  cases hvx with
                  | sliceE _ ad =>
                    have : cs = [] := List.length_eq_zero_iff.1 (by simpa using l1)
                    subst this
                    exact ⟨[], by simp, by simp [Builtin.firstCells, loadCells, loadCellsFrom], by simp [Builtin.lenOf], fun j iv v h => by simp at h⟩
                  | slice _ en _ cc he hnc hrw =>
                    obtain ⟨Y, hYl, hYr, hYv, hYc⟩ := grd_cells hR.mem hcs he
                    obtain ⟨crow, tt, fr, hgb⟩ := hR.gblk _ _ _ hblk2 hmo2 he
                    refine ⟨Y, hYl, by simp only [Builtin.firstCells]; exact hYr w (Below.refl _ _), by simp [Builtin.lenOf], fun j iv v h1 h2 => ?_⟩
                    have h3 := hYc j v h2
                    rw [cell?_eq hgb.row] at h3
                    have h4 := l2 j iv h1
                    simp only [gld, GA.add, hblk2, hmo2, if_true] at h4
                    obtain ⟨v', h5, h6, h7⟩ := hgb.cells _ _ h4
                    rw [← Nat.add_assoc, h3] at h5
                    injection h5 with h5
                    subst h5
                    exact ⟨h6, h7⟩
                obtain ⟨Y, hYl, hYr, hYn, hYv⟩ := hread
                have hYone : ∀ v ∈ Y, v.oneCell' = true := by
                  intro v hv
                  obtain ⟨j, hj, rfl⟩ := List.mem_iff_getElem.1 hv
                  have h1 : j < cs.length := by omega
                  exact (hYv j cs[j] Y[j] (List.getElem?_eq_getElem h1) (List.getElem?_eq_getElem hj)).2
                unfold gst at hG'
                split at hG'
                · rename_i blk hblk
                  split at hG'
                  · rename_i hmo
                    injection hG' with hG'
                    subst hG'
                    cases hvs with
                    | sliceE _ ad =>
                      have hm0 : min mm 0 = 0 := by simp
                      rw [hm0] at hYl hYr l1 h
                      have : cs = [] := List.length_eq_zero_iff.1 (by simpa using l1)
                      subst this
                      have hY0 : Y = [] := List.length_eq_zero_iff.1 (by simpa using hYl)
                      subst hY0
                      have hsp : splice blk.cells p.o [] = blk.cells := by simp [splice]
                      rw [hsp] at h
                      have hset : G.set p.b { blk with cells := blk.cells } = G := by
                        have : ({ blk with cells := blk.cells } : Blk) = blk := rfl
                        rw [this]
                        obtain ⟨hlt, heq⟩ := List.getElem?_eq_some_iff.1 hblk
                        rw [← heq]; exact List.set_getElem_self hlt
                      rw [hset] at h
                      refine ⟨_, _, m, w, F, G, wp_of_value (fin (v' := .int .i64 (0 : Nat)) ?_), m.le_refl, hR, .int _ _, h⟩
                      rw [← hs] at hYr
                      simp [Builtin.copy_, run_und hu, hYn, run_sizeI hii, storeCells, goInt, hYr]
                    | slice _ en _ cc he hnc hrw =>
                      obtain ⟨crow, tt, fr, hgb⟩ := hR.gblk _ _ _ hblk (by omega) he
                      have hfits := hgb.fits
                      obtain ⟨w', hw1, hw2⟩ := run_setCells (P := P) en.blk (en.off + p.o) tt fr Y 0 crow w hgb.row (by omega) (hgb.rw hmo.1).2.2.2.2.no hYone
                      refine ⟨_, _, m, w', F, _, wp_of_value (fin (v' := .int .i64 ((min mm n : Nat) : Int)) ?_), m.le_refl, ?_, .int _ _, h⟩
                      · have hYr' := hYr
                        rw [← hs] at hYr'
                        have e0 : Nat.min mm n = min mm n := rfl
                        simp only [Builtin.copy_, List.getElem?_toArray, List.getElem?_cons_zero, List.getElem?_cons_succ, Sem.run_bind, run_und hu, Result.andThen_ok, hYn, run_sizeI hii, e0, hYr', hw1, Sem.run_pure, goInt]
                      · refine hR.writeG hblk hmo.1 he hgb hw2 (by rw [setAll_size]) (by rw [splice_len hmo.2]; exact Nat.le_refl _) ?_
                        rw [Nat.add_zero]
                        exact splice_rel (Q := fun iv v => VRel m.noF iv v ∧ v.oneCell' = true) hmo.2 hfits (by omega) hgb.cells hYv
                  · cases hG'
                · cases hG'
              · cases h
            · cases h
          · split at h
            · rename_i hmn
              have hn0 : Nat.min mm n = 0 := hmn
              refine ⟨_, _, m, w, F, G, wp_of_value (fin (v' := .int .i64 ((0 : Nat) : Int)) ?_), m.le_refl, hR, .int _ _, h⟩
              have hl : ∀ w' : World, (Builtin.lenOf vx).run P w' = .ok mm w' := by
                intro w'
                cases hvx <;> simp [Builtin.lenOf]
              have hf : (Builtin.firstCells ii.size 0 vx).run P w = .ok #[] w := by
                cases hvx <;> simp [Builtin.firstCells, loadCells, loadCellsFrom]
              cases hvs <;> simp [Builtin.copy_, run_und hu, hl, run_sizeI hii, hn0, hf, storeCells, goInt]
            · cases h
      · cases h
    · cases h
  · cases h

end
end Go.LI
