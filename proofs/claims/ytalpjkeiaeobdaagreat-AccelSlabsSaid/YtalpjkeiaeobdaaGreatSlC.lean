/- A shelf of spans' sums, products and quotients; the fixed fact of the layer, run over it. -/
import Derived.Test.YtalpjkeiaeobdaaGreatSlB
import Derived.Test.YtalpjkeiaeobdaaGreatLiAll2
namespace Go.LI.Film
open Go.Proofs.YtalpjkeiaeobdaaGreat Go Go.Proofs Go.LI Go.LI.Fl Go.RowKit
set_option linter.unusedVariables false
set_option linter.unusedSimpArgs false
set_option maxRecDepth 100000

def ok1 (a : Nat) : Bool := decide (a < 18446744073709551616) && fin a
def ok4 (a b c d : Nat) : Bool := (ok1 a && ok1 b) && (ok1 c && ok1 d)
theorem ok1_num {a : Nat} (h : ok1 a = true) : num a ∧ fin a = true := by
  unfold ok1 at h
  rw [Bool.and_eq_true, decide_eq_true_eq] at h
  exact ⟨⟨h.1, Nat.le_of_lt (of_decide_eq_true h.2)⟩, h.2⟩
theorem ok4_num {a b c d : Nat} (h : ok4 a b c d = true) : num a ∧ num b ∧ num c ∧ num d ∧ (fin a && fin b) = true ∧ (fin c && fin d) = true := by
  unfold ok4 at h
  simp only [Bool.and_eq_true] at h
  obtain ⟨⟨h1, h2⟩, h3, h4⟩ := h
  exact ⟨(ok1_num h1).1, (ok1_num h2).1, (ok1_num h3).1, (ok1_num h4).1, by rw [(ok1_num h1).2, (ok1_num h2).2]; rfl, by rw [(ok1_num h3).2, (ok1_num h4).2]; rfl⟩
def sp2 (l h : Nat) : Option IV := if l = 5 then none else if h = 5 then none else some (SP l h)
theorem sp2_some {l h : Nat} {v : IV} (e : sp2 l h = some v) : v = SP l h := by
  unfold sp2 at e
  split at e
  · cases e
  · split at e
    · cases e
    · injection e with e; exact e.symm
def libS : Lib := fun f args => match f, args with
  | 81, [.agg [.float .f64 a, .float .f64 b], .agg [.float .f64 c, .float .f64 d]] => bif ok4 a b c d then (bif nilS a b || nilS c d then some (SP 0 0) else sp2 (proL a b c d) (proH a b c d)) else none
  | 38, [.agg [.float .f64 a, .float .f64 b], .agg [.float .f64 c, .float .f64 d]] => bif ok4 a b c d then sp2 (lowA a c) (highA b d) else none
  | 18, [.agg [.float .f64 a, .float .f64 b], .agg [.float .f64 c, .float .f64 d]] => bif ok4 a b c d then sp2 (quoL a b c d) (quoH a b c d) else none
  | _, _ => none

theorem entry {fuel n f : Nat} {args : List IV} {v : IV} (h : runC (R := IV) Tryz.prog lo0 fuel n f args [] (fun v _ => some v) = some v) (ha : isFlats args = true) (hv : isFlat v = true) (hl : noLocs args = true) :
    isFlats args = true ∧ isFlat v = true ∧ noLoc v = true ∧ ∀ (w : World) (args' : Array Value), ARel nil0 args args' → CallSim Tryz.prog f args' w fun v' w' => Below w.heap.size w w' ∧ VRel nil0 v v' := by
  obtain ⟨v1, G', h1, h2, h3⟩ := run_good hm (noCount_spec hn) lo0 fuel n f args [] _ _ h hl
  injection h1 with h1
  subst h1
  refine ⟨ha, hv, h2, fun w args' hA => ?_⟩
  refine (h3 _ _ w nil0 w args' (fun _ => rfl) hA (HRel.empty w)).mono ?_
  rintro v' w' ⟨m', q1, q2, q3, q4⟩
  exact ⟨⟨q3.os, q3.tape, q3.output, q3.size, fun b hb => (q3.frame b hb).2⟩, call_quiet.flat_any q4 hv⟩
theorem libS_good : GoodLib Tryz.prog libS := by
  intro f args v h
  unfold libS at h
  split at h
  · rename_i a b c d
    cases hk : ok4 a b c d with
    | false => rw [hk] at h; cases h
    | true =>
      rw [hk, cond_true] at h
      obtain ⟨n1, n2, n3, n4, f1, f2⟩ := ok4_num hk
      have hs := wSpanMul (R := IV) (F := 1200) (n := 50) (by omega) (by omega) a b c d n1 n2 n3 n4 f1 f2 [] (fun v _ => some v)
      have e : (bif nilS a b || nilS c d then SP 0 0 else SP (proL a b c d) (proH a b c d)) = v := by
        cases hq : (nilS a b || nilS c d) with
        | true => rw [hq, cond_true] at h; rw [cond_true]; injection h
        | false => rw [hq, cond_false] at h; rw [cond_false]; exact (sp2_some h).symm
      rw [e] at hs
      have hfl : isFlat v = true := by
        rw [← e]
        cases (nilS a b || nilS c d) <;> rfl
      exact entry hs rfl hfl rfl
  · rename_i a b c d
    cases hk : ok4 a b c d with
    | false => rw [hk] at h; cases h
    | true =>
      rw [hk, cond_true] at h
      obtain ⟨n1, n2, n3, n4, f1, f2⟩ := ok4_num hk
      have e := sp2_some h
      subst e
      exact entry (wSpanAdd (R := IV) (F := 1200) (n := 50) (by omega) (by omega) a b c d n1.1 n2.1 n3.1 n4.1 [] (fun v _ => some v)) rfl rfl rfl
  · rename_i a b c d
    cases hk : ok4 a b c d with
    | false => rw [hk] at h; cases h
    | true =>
      rw [hk, cond_true] at h
      obtain ⟨n1, n2, n3, n4, f1, f2⟩ := ok4_num hk
      have e := sp2_some h
      subst e
      exact entry (wSpanDiv (R := IV) (F := 1200) (n := 50) (by omega) (by omega) a b c d n1 n2 n3 n4 [] (fun v _ => some v)) rfl rfl rfl
  · cases h

theorem awakeL {R : Type} (G : GH) (k : IV → GH → Option R) : runL Tryz.prog libS lo0 1152921504606846976 50 4 [] G k = k (.bool true) G := by kernel_rfl
end Go.LI.Film
