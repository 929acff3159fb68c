/- Runs with a shelf of library functions. -/
import Derived.Test.YtckelpgijjbpaaaLiT
import Derived.Test.YtckelpgijjbpaaaLiX
namespace Go.LI
open Go Go.RowKit

/-- What a library function gives for plain arguments. -/
abbrev Lib := Nat → List IV → Option IV
def nil0 : Map := ⟨fun _ => none, fun _ => none⟩

def runL {R : Type} (P : Program) (lib : Lib) (lo : Nat → List Nat) (fuel : Nat) : Nat → Ora R
  | 0, _, _, _, _ => none
  | n + 1, f, args, G, k => match lib f args with
    | some v => k v G
    | none => match P.funcs[f]? with
      | some fn => if (lo f).contains pureMark then (if isFlats args then bodyC P (runL P lib lo fuel n) (lo f) fuel fn args [] (fun v _ => if isFlat v then k v G else none) else none)
        else bodyC P (runL P lib lo fuel n) (lo f) fuel fn args G k
      | none => none

def GoodLib (P : Program) (lib : Lib) : Prop :=
  ∀ (f : Nat) (args : List IV) (v : IV), lib f args = some v → isFlats args = true ∧ isFlat v = true ∧ noLoc v = true ∧
    ∀ (w : World) (args' : Array Value), ARel nil0 args args' → CallSim P f args' w fun v' w' => Below w.heap.size w w' ∧ VRel nil0 v v'

section
variable {R : Type} {P : Program} {lib : Lib}

theorem natL (lo : Nat → List Nat) (fuel : Nat) : ∀ n : Nat, NatO (R := R) (runL P lib lo fuel n)
  | 0 => fun f args G k r h => by cases h
  | n + 1 => fun f args G k r h => by
    simp only [runL] at h
    split at h
    · rename_i v hv
      exact ⟨v, G, fun k' => by simp only [runL]; rw [hv]⟩
    · rename_i hv
      split at h
      · rename_i fn hf
        by_cases hp : (lo f).contains pureMark = true
        · rw [if_pos hp] at h
          split at h
          · rename_i hfl
            obtain ⟨v, G', h1⟩ := body_nat (natL lo fuel n) h
            rw [h1] at h
            split at h
            · rename_i hv2
              exact ⟨v, G, fun k' => by simp only [runL]; rw [hv, hf]; simp only; rw [if_pos hp, if_pos hfl, h1, if_pos hv2]⟩
            · cases h
          · cases h
        · rw [if_neg hp] at h
          obtain ⟨v, G', h1⟩ := body_nat (natL lo fuel n) h
          exact ⟨v, G', fun k' => by simp only [runL]; rw [hv, hf]; simp only; rw [if_neg hp]; exact h1 k'⟩
      · cases h

theorem goodL (hm : P.follows .mixedOrders = true) (hn : ∀ (f : Nat) (fn : Func), P.funcs[f]? = some fn → (fn.name == "runtime.NumGoroutine") = false) (hL : GoodLib P lib) (lo : Nat → List Nat) (fuel : Nat) : ∀ n, GoodO P (runL (R := R) P lib lo fuel n)
  | 0 => fun f args G k r h => by simp [runL] at h
  | n + 1 => fun f args G k r h hl => by
    simp only [runL] at h
    split at h
    · rename_i v hv
      obtain ⟨h1, h2, h3, h4⟩ := hL f args v hv
      refine ⟨v, G, h, h3, fun B K w0 m w args' hmf hA hR => ?_⟩
      refine (h4 w args' ⟨hA.1, fun i iv x a b => call_quiet.flat_any (hA.2 i iv x a b) (flat_eq0.flats_get h1 a)⟩).mono ?_
      rintro v' w' ⟨q1, q2⟩
      exact ⟨m, m.le_refl, hmf, hR.grow q1, call_quiet.flat_any q2 h2⟩
    · split at h
      · rename_i fn hf
        split at h
        · split at h
          · rename_i hfl
            exact pure_good hfl (fun h => body_sim hm (goodL hm hn hL lo fuel n) (natL lo fuel n) hf (hn f fn hf) h) h
          · cases h
        · exact body_sim hm (goodL hm hn hL lo fuel n) (natL lo fuel n) hf (hn f fn hf) h
      · cases h

theorem callsL_of_run (hm : P.follows .mixedOrders = true) (hn : ∀ (f : Nat) (fn : Func), P.funcs[f]? = some fn → (fn.name == "runtime.NumGoroutine") = false) (hL : GoodLib P lib)
    {lo : Nat → List Nat} {fuel n : Nat} {f : FuncId} {fn : Func} {c : Code} {args : List IV} {args' : Array Value} {b : Bool} (hf : P.funcs[f]? = some fn) (hc : fn.body = some c)
    (h : runL (R := IV) P lib lo fuel n f args [] (fun v _ => some v) = some (.bool b)) (hl : noLocs args = true) (hA : ∀ m, ARel m args args') (w : World) :
    Calls P f args' w fun e w' => e = .returned (.bool b) ∧ Below w.heap.size w w' := by
  obtain ⟨v, G', h1, h2, h3⟩ := goodL hm hn hL lo fuel n f args [] _ _ h hl
  injection h1 with h1
  subst h1
  rcases h3 _ _ w ⟨fun _ => none, fun _ => none⟩ w args' (fun _ => rfl) (hA _) (HRel.empty w) with ⟨_, hcall⟩ | ⟨v', hv, _⟩
  · refine hcall.mono ?_
    rintro e w' ⟨v', rfl, m', q1, q2, q3, q4⟩
    refine ⟨?_, ⟨q3.os, q3.tape, q3.output, q3.size, fun b hb => (q3.frame b hb).2⟩⟩
    cases q4
    rfl
  · have hn' : ¬ fn.name = "runtime.NumGoroutine" := by simpa using hn f fn hf
    simp [callFunc, hf, hn', hc] at hv

theorem runL_pure {lo : Nat → List Nat} {l : List Nat} {fuel n : Nat} {f : Nat} {fn : Func} {args : List IV} {G : GH} {k : IV → GH → Option R} (hf : P.funcs[f]? = some fn) (hl : lo f = l) (hp : l.contains pureMark = true) (ha : isFlats args = true) (hL : lib f args = none) :
    runL P lib lo fuel (n + 1) f args G k = bodyC P (runL P lib lo fuel n) l fuel fn args [] (fun v _ => if isFlat v then k v G else none) := by
  simp only [runL, hf, hl, hp, ha, if_true, hL]
theorem runL_body {lo : Nat → List Nat} {l : List Nat} {fuel n : Nat} {f : Nat} {fn : Func} {args : List IV} {G : GH} {k : IV → GH → Option R} (hf : P.funcs[f]? = some fn) (hl : lo f = l) (hp : l.contains pureMark = false) (hL : lib f args = none) :
    runL P lib lo fuel (n + 1) f args G k = bodyC P (runL P lib lo fuel n) l fuel fn args G k := by
  simp only [runL, hf, hl, hp, Bool.false_eq_true, if_false, hL]
theorem runL_lib {lo : Nat → List Nat} {fuel n : Nat} {f : Nat} {args : List IV} {v : IV} {G : GH} {k : IV → GH → Option R} (hL : lib f args = some v) :
    runL P lib lo fuel (n + 1) f args G k = k v G := by
  simp only [runL, hL]
end
end Go.LI
