/- TextureMixes: the law, and over the interpreter. -/
import Derived.Test.YtbjcipikclbecaaTxS
namespace Go.LI.Film
open Go.Proofs.Ytbjcipikclbecaa Go Go.Proofs Go.LI Go.LI.Fl
set_option linter.unusedVariables false
set_option linter.unusedSimpArgs false
set_option maxRecDepth 100000
set_option exponentiation.threshold 2500

section
variable {R : Type} {O : Ora R}
abbrev SWi (O : Ora R) : Prop := ∀ (a0 a1 a2 a3 a4 a5 b0 b1 b2 b3 b4 b5 : Nat), fle .f64 b0 a0 = true → fle .f64 a1 b1 = true → fle .f64 b2 a2 = true → fle .f64 a3 b3 = true → fle .f64 b4 a4 = true → fle .f64 a5 b5 = true →
  ∀ (G : GH) (k : IV → GH → Option R), O fn_zp1 [S6 a0 a1 a2 a3 a4 a5, S6 b0 b1 b2 b3 b4 b5] G k = k (.bool true) G
theorem yWi {F n : Nat} (hn : 2 ≤ n) : SWi (runC (R := R) Try.prog lo0 F n) := by
  obtain ⟨n, rfl⟩ : ∃ j, n = j + 2 := ⟨n - 2, by omega⟩
  have h2 : ∀ (a0 a1 b0 b1 : Nat), fle .f64 b0 a0 = true → fle .f64 a1 b1 = true → ∀ (G : GH) (k : IV → GH → Option R), runC (R := R) Try.prog lo0 F (n + 1) fn_zm1 [S2 a0 a1, S2 b0 b1] G k = k (.bool true) G := fun a0 a1 b0 b1 h1 h2 G k => by
    rw [show fn_zm1 = 32 from rfl, r_zm1, e_zm1, h1, cond_true, h2]
  intro a0 a1 a2 a3 a4 a5 b0 b1 b2 b3 b4 b5 p0 p1 p2 p3 p4 p5 G k
  rw [show fn_zp1 = 16 from rfl, r_zp1, e_zp1, h2 _ _ _ _ p0 p1, ivB, cond_true, h2 _ _ _ _ p2 p3, ivB, cond_true, h2 _ _ _ _ p4 p5, ivB]
theorem Mx.f1 {c l h : Nat} (m : Mx c l h) (w : c < 2 ^ 64) (f : fin c = true) : fle .f64 l (zw c) = true := by
  rw [fle_sv m.nl (zw_num (num_fin w f))]
  exact decide_eq_true m.lo
theorem Mx.f2 {c l h : Nat} (m : Mx c l h) (w : c < 2 ^ 64) (f : fin c = true) : fle .f64 (zw c) h = true := by
  rw [fle_sv (zw_num (num_fin w f)) m.nh]
  exact decide_eq_true m.hi
/-! ### Over the interpreter -/
theorem yCkq {F n : Nat} (hF : 1000 ≤ F) (hn : 7 ≤ n) : SCkq (runC (R := R) Try.prog lo0 F n) := by
  obtain ⟨n, rfl⟩ : ∃ j, n = j + 1 := ⟨n - 1, by omega⟩
  intro a pa c m ts G hT hw hc
  obtain ⟨G', k1, h1⟩ := ckq_body (O := runC (R := R) Try.prog lo0 F n) (yChp (by omega) (by omega)) hF a pa c m ts G hT hw hc
  exact ⟨G', k1, fun k => by rw [show fn_zi = 10 from rfl, r_zi]; exact h1 k⟩
end
end Go.LI.Film
