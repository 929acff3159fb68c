/- From a run of the interpreter to the call in the model. -/
import Derived.Test.YtckelpgijjbpaaaLiR
namespace Go.LI
open Go Go.RowKit

section
variable {P : Program}

/-- What the interpreter gives for a function of plain arguments, the model's call does, and leaves what stood. -/
theorem calls_of_run (hm : P.follows .mixedOrders = true) (hn : ∀ (f : Nat) (fn : Func), P.funcs[f]? = some fn → (fn.name == "runtime.NumGoroutine") = false)
    {lo : Nat → List Nat} {fuel n : Nat} {f : FuncId} {fn : Func} {c : Code} {args : List IV} {args' : Array Value} {b : Bool} (hf : P.funcs[f]? = some fn) (hc : fn.body = some c)
    (h : runC (R := IV) P lo fuel n f args [] (fun v _ => some v) = some (.bool b)) (hl : noLocs args = true) (hA : ∀ m, ARel m args args') (w : World) :
    Calls P f args' w fun e w' => e = .returned (.bool b) ∧ Below w.heap.size w w' := by
  obtain ⟨v, G', h1, h2, h3⟩ := run_good hm hn lo fuel n f args [] _ _ h hl
  injection h1 with h1
  subst h1
  rcases h3 _ _ w ⟨fun _ => none, fun _ => none⟩ w args' (fun _ => rfl) (hA _) (HRel.empty w) with ⟨_, hcall⟩ | ⟨v', hv, _⟩
  · refine hcall.mono ?_
    rintro e w' ⟨v', rfl, m', q1, q2, q3, q4⟩
    refine ⟨?_, ⟨q3.os, q3.tape, q3.output, q3.size, fun b hb => (q3.frame b hb).2⟩⟩
    cases q4
    rfl
  · have hn' : ¬ fn.name = "runtime.NumGoroutine" := by simpa using hn f fn hf
    simp [callFunc, hf, hn', hc] at hv

/-- Plain arguments. -/
theorem arel_nil (m : Map) : ARel m [] #[] := ⟨rfl, fun i iv v h => by simp at h⟩
theorem arel_cons {m : Map} {v : IV} {v' : Value} {vs : List IV} {vs' : List Value} (hv : VRel m v v') (h : ARel m vs vs'.toArray) : ARel m (v :: vs) (v' :: vs').toArray :=
  ⟨by simpa using h.1, fun i iv x a b => by
    cases i with
    | zero => simp at a b; subst a; subst b; exact hv
    | succ i => exact h.2 i iv x (by simpa using a) (by simpa using b)⟩

/-- No function of the program counts goroutines. -/
def noCount (P : Program) : Bool := P.funcs.toList.all fun fn => !(fn.name == "runtime.NumGoroutine")
theorem noCount_spec (h : noCount P = true) (f : Nat) (fn : Func) (hf : P.funcs[f]? = some fn) : (fn.name == "runtime.NumGoroutine") = false := by
  have := List.all_eq_true.1 h fn (by
    obtain ⟨hlt, he⟩ := Array.getElem?_eq_some_iff.1 hf
    rw [← he]; simp)
  simpa using this

theorem run_pure {R : Type} {lo : Nat → List Nat} {l : List Nat} {fuel n : Nat} {f : Nat} {fn : Func} {args : List IV} {G : GH} {k : IV → GH → Option R} (hf : P.funcs[f]? = some fn) (hl : lo f = l) (hp : l.contains pureMark = true) (ha : isFlats args = true) :
    runC P lo fuel (n + 1) f args G k = bodyC P (runC P lo fuel n) l fuel fn args [] (fun v _ => if isFlat v then k v G else none) := by
  simp only [runC, hf, hl, hp, ha, if_true]
theorem run_body {R : Type} {lo : Nat → List Nat} {l : List Nat} {fuel n : Nat} {f : Nat} {fn : Func} {args : List IV} {G : GH} {k : IV → GH → Option R} (hf : P.funcs[f]? = some fn) (hl : lo f = l) (hp : l.contains pureMark = false) :
    runC P lo fuel (n + 1) f args G k = bodyC P (runC P lo fuel n) l fuel fn args G k := by
  simp only [runC, hf, hl, hp, Bool.false_eq_true, if_false]
end
end Go.LI
