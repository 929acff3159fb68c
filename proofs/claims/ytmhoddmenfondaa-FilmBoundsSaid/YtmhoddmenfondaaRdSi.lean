/- Small things of the film laws: sides, what Awake says. -/
import Derived.Test.YtmhoddmenfondaaRdD3
namespace Go.LI.Film
open Go.Proofs.Ytmhoddmenfondaa Go Go.Proofs Go.LI Go.LI.Fl
set_option linter.unusedVariables false
set_option linter.unusedSimpArgs false
set_option maxRecDepth 100000

theorem u64_mod (p : Int) : 0 ≤ IntKind.wrap .u64 p := by
  have e1 : IntKind.u64.bits = 64 := rfl
  unfold IntKind.wrap
  simp only [IntKind.signed, Bool.false_and, decide_eq_true_eq, ge_iff_le, e1]
  simp only [Bool.false_eq_true, if_false]
  omega
theorem side_of (p : Int) {m : Nat} (hm : 0 < m) (hm1 : m ≤ 1000) : ∃ w : Nat, 1 ≤ w ∧ w ≤ m ∧ IntKind.wrap .i64 ((1 : Int) + (IntKind.wrap .i64 (Int.tmod (IntKind.wrap .u64 p) (m : Int)))) = (w : Int) := by
  have h0 := u64_mod p
  generalize IntKind.wrap .u64 p = q at h0
  have e : Int.tmod q (m : Int) = q % (m : Int) := Int.tmod_eq_emod_of_nonneg h0
  have h1 : 0 ≤ q % (m : Int) := Int.emod_nonneg _ (by omega)
  have h2 : q % (m : Int) < m := Int.emod_lt_of_pos _ (by omega)
  rw [e]
  generalize q % (m : Int) = z at h1 h2
  refine ⟨(1 + z).toNat, by omega, by omega, ?_⟩
  rw [wrapI (v := z) (by omega) (by omega), wrapI (by omega) (by omega)]
  omega

section
variable {R : Type}
abbrev SAw (O : Ora R) : Prop := ∀ (G : GH) (k : IV → GH → Option R), O fn_ze1 [] G k = k (.bool true) G
theorem drop3 {β : Type} (a : Option GA) (b : Option GA) (n : Nat) (c : Bool) (f : Option GA → (Option GA × Nat) → Bool → Option β) :
    ((ivTup 3 (.tuple [.ptr a, .slice b n, .bool c])).bind fun c3 => (ivPtr (c3.getD 0 undefI)).bind fun x4 => (ivSlice (c3.getD 1 undefI)).bind fun x5 => (ivBool (c3.getD 2 undefI)).bind fun x6 => f x4 x5 x6) = f a (b, n) c := rfl
end
end Go.LI.Film
