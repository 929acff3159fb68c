/- An operation's outcome does not hang on what follows. -/
import Derived.Test.YtckelpgijjbpaaaLiA
namespace Go.LI
open Go

section
variable {R : Type} {P : Program}

theorem ldLeaf_param (G : GH) (a : GA) (l : Leaf) (k : IV → Option R) : ldLeaf G a l k = (ldLeaf G a l some).bind k := by
  cases l <;> simp only [ldLeaf] <;> split <;> rfl
theorem ldCells_param {R : Type} (G : GH) (a : GA) (ls : List Leaf) : ∀ (i : Nat) (k : List IV → Option R), ldCells G a ls i k = (ldCells G a ls i some).bind k := by
  suffices H : ∀ (R : Type) (i : Nat) (k : List IV → Option R), ldCells G a ls i k = (ldCells G a ls i some).bind k from H R
  induction ls with
  | nil => intro R i k; rfl
  | cons l ls ih =>
    intro R i k
    simp only [ldCells]
    rw [ldLeaf_param, ldLeaf_param G (a.add i) l (fun v => ldCells G a ls (i + 1) fun vs => some (v :: vs)), Option.bind_assoc]
    congr 1
    funext v
    rw [ih _ (i + 1) (fun vs => k (v :: vs)), ih _ (i + 1) (fun vs => some (v :: vs)), Option.bind_assoc]
    rfl

theorem cond_bind {α β : Type} (c : Bool) (x y : Option α) (k : α → Option β) : (cond c x y).bind k = cond c (x.bind k) (y.bind k) := by cases c <;> rfl
theorem ite_bind {α β : Type} (c : Prop) [Decidable c] (x y : Option α) (k : α → Option β) : (if c then x else y).bind k = if c then x.bind k else y.bind k := by split <;> rfl

theorem loadC_param (t : TypeId) (x : IV) (F : List (List IV)) (G : GH) (k : IV → Option R) : loadC P t x F G k = (loadC P t x F G some).bind k := by
  unfold loadC
  split
  · split
    · split
      · rw [ldCells_param, ldCells_param (k := fun vs => some (IV.agg vs)), Option.bind_assoc]; rfl
      · rfl
    · split
      · rw [ldLeaf_param]
      · rfl
  · split
    · split <;> rfl
    · rfl
  · rfl

theorem storeC_param (t : TypeId) (x v : IV) (F : List (List IV)) (G : GH) (k : List (List IV) → GH → Option R) : storeC P t x v F G k = (storeC P t x v F G fun F G => some (F, G)).bind fun x => k x.1 x.2 := by
  unfold storeC
  split
  · split
    · split
      · split <;> rfl
      · rfl
    · split
      · split <;> rfl
      · rfl
    · rfl
  · rfl

theorem binC_param (op : BinOp) (t : TypeId) (x y : IV) (k : IV → Option R) : binC P op t x y k = (binC P op t x y some).bind k := by
  unfold binC
  repeat' first
    | rfl
    | rw [cond_bind]
    | split

theorem unC_param (op : UnOp) (x : IV) (k : IV → Option R) : unC op x k = (unC op x some).bind k := by
  unfold unC
  split <;> rfl

theorem convC_param (s d : TypeId) (x : IV) (G : GH) (k : IV → GH → Option R) : convC P s d x G k = (convC P s d x G fun v G => some (v, G)).bind fun x => k x.1 x.2 := by
  unfold convC
  repeat' first
    | rfl
    | split

theorem minmaxC_param (mx : Bool) : ∀ (ys : List IV) (x : IV) (k : IV → Option R), minmaxC mx ys x k = (minmaxC mx ys x some).bind k
  | [], x, k => rfl
  | y :: ys, x, k => by
    simp only [minmaxC]
    split
    · exact minmaxC_param mx ys _ k
    · split
      · exact minmaxC_param mx ys _ k
      · rfl
    · rfl

theorem builtinC_param (b : Builtin) (ts : Array TypeId) (args : List IV) (G : GH) (k : IV → GH → Option R) : builtinC P b ts args G k = (builtinC P b ts args G fun v G => some (v, G)).bind fun x => k x.1 x.2 := by
  unfold builtinC
  split
  · repeat' first
      | rfl
      | split
  · split
    · rw [minmaxC_param, minmaxC_param (k := fun v => some (v, G)), Option.bind_assoc]; rfl
    · rfl
  · split
    · rw [minmaxC_param, minmaxC_param (k := fun v => some (v, G)), Option.bind_assoc]; rfl
    · rfl
  · repeat' first
      | rfl
      | split
  · repeat' first
      | rfl
      | split
  · rfl

theorem allocC_param (lo : List Nat) (d : Option Tmp) (t : TypeId) (cs : List IV) (F : List (List IV)) (G : GH) (k : IV → List (List IV) → GH → Option R) :
    allocC lo d t cs F G k = (allocC lo d t cs F G fun v F G => some (v, F, G)).bind fun x => k x.1 x.2.1 x.2.2 := by
  unfold allocC
  split
  · rfl
  · split <;> rfl

/-- A call of a Go function? -/
def isCall : Op → Bool
  | .call c => match c.callee with
    | .value _ => true
    | _ => false
  | _ => false

theorem opC_param {O : Ora R} {O' : Ora (IV × List (List IV) × GH)} {lo : List Nat} {sand : Bool} {o : Oper} (env : List IV) (F : List (List IV)) (G : GH) (k : IV → List (List IV) → GH → Option R) (hc : isCall o.op = false) :
    opC P O lo sand o env F G k = (opC P O' lo sand o env F G fun v F G => some (v, F, G)).bind fun x => k x.1 x.2.1 x.2.2 := by
  unfold opC
  split
  · split <;> rfl
  · split <;> rfl
  · split
    · rw [cond_bind]; rfl
    · rfl
  · split
    · rw [allocC_param]
    · rfl
  · split
    · rw [allocC_param]
    · rfl
  · repeat' first
      | rfl
      | split
  · repeat' first
      | rfl
      | split
  · split
    · rw [loadC_param, loadC_param (k := fun v => some (v, F, G)), Option.bind_assoc]; rfl
    · rfl
  · split
    · rw [storeC_param, storeC_param (k := fun F G => some (undefI, F, G)), Option.bind_assoc]; rfl
    · rfl
  · repeat' first
      | rfl
      | split
  · split
    · split
      · split <;> rfl
      · rw [binC_param, binC_param (k := fun v => some (v, F, G)), Option.bind_assoc]; rfl
    · rfl
  · split
    · rw [unC_param, unC_param (k := fun v => some (v, F, G)), Option.bind_assoc]; rfl
    · rfl
  · split
    · rw [convC_param, convC_param (k := fun v G => some (v, F, G)), Option.bind_assoc]; rfl
    · rfl
  · repeat' first
      | rfl
      | split
  · repeat' first
      | rfl
      | split
  · repeat' first
      | rfl
      | rw [cond_bind]
      | split
  · repeat' first
      | rfl
      | rw [cond_bind]
      | split
  · repeat' first
      | rfl
      | split
  · repeat' first
      | rfl
      | split
  · repeat' first
      | rfl
      | split
  · repeat' first
      | rfl
      | rw [cond_bind]
      | split
  · repeat' first
      | rfl
      | split
  · rename_i c ho
    rw [ho] at hc
    simp only [isCall] at hc
    split
    · split
      · rw [builtinC_param, builtinC_param (k := fun v G => some (v, F, G)), Option.bind_assoc]; rfl
      · rename_i hcc; rw [hcc] at hc; cases hc
      · rfl
    · rfl
  · rfl
theorem convC_qparam {s d : TypeId} {x : Operand} {v : IV} {G : GH} (hm : convMakes P (.convert s d x) = false) (k : IV → GH → Option R) : convC P s d v G k = (convC P s d v G fun v _ => some v).bind fun v => k v G := by
  simp only [convMakes] at hm
  unfold convC
  split
  · rfl
  · rfl
  · split <;> rfl
  · split <;> rfl
  · rfl
  · rename_i hd; rw [hd] at hm; cases hm
  · repeat' first
      | rfl
      | split
  · rfl

def quietB : Builtin → Bool
  | .len | .max | .min => true
  | _ => false
theorem builtinC_qparam {b : Builtin} {ts : Array TypeId} {args : List IV} {G : GH} (hb : quietB b = true) (k : IV → GH → Option R) : builtinC P b ts args G k = (builtinC P b ts args G fun v _ => some v).bind fun v => k v G := by
  unfold builtinC
  split
  · repeat' first
      | rfl
      | split
  · split
    · rw [minmaxC_param]
    · rfl
  · split
    · rw [minmaxC_param]
    · rfl
  · cases hb
  · cases hb
  · rfl

theorem opC_qparam {O : Ora R} {O' : Ora IV} {lo : List Nat} {sand : Bool} {o : Oper} (env : List IV) (F : List (List IV)) (G : GH) (k : IV → List (List IV) → GH → Option R) (hc : isCall o.op = false) (hq : quietOp o.op = true) (hm : convMakes P o.op = false) :
    opC P O lo sand o env F G k = (opC P O' lo sand o env F G fun v _ _ => some v).bind fun v => k v F G := by
  unfold opC
  split
  · split <;> rfl
  · split <;> rfl
  · split
    · rw [cond_bind]; rfl
    · rfl
  · rename_i ho; rw [ho] at hq; cases hq
  · rename_i ho; rw [ho] at hq; cases hq
  · repeat' first
      | rfl
      | split
  · rename_i ho; rw [ho] at hq; cases hq
  · split
    · rw [loadC_param]
    · rfl
  · rename_i ho; rw [ho] at hq; cases hq
  · repeat' first
      | rfl
      | split
  · split
    · split
      · split <;> rfl
      · rw [binC_param]
    · rfl
  · split
    · rw [unC_param]
    · rfl
  · rename_i s d x ho
    rw [ho] at hm
    split
    · exact convC_qparam hm _
    · rfl
  · repeat' first
      | rfl
      | split
  · repeat' first
      | rfl
      | split
  · rename_i ho; rw [ho] at hq; cases hq
  · repeat' first
      | rfl
      | rw [cond_bind]
      | split
  · repeat' first
      | rfl
      | split
  · repeat' first
      | rfl
      | split
  · repeat' first
      | rfl
      | split
  · repeat' first
      | rfl
      | rw [cond_bind]
      | split
  · repeat' first
      | rfl
      | split
  · rename_i c ho
    rw [ho] at hc
    simp only [isCall] at hc
    split
    · split
      · rename_i b hcc
        rw [ho] at hq
        simp only [quietOp, hcc] at hq
        exact builtinC_qparam (by cases b <;> first | rfl | cases hq) _
      · rename_i hcc; rw [hcc] at hc; cases hc
      · rfl
    · rfl
  · rfl
end
end Go.LI
