/- Mixes: the functions' steps. -/
import Derived.Test.YtbjcipikclbecaaGreatTxO
import Derived.Test.YtbjcipikclbecaaGreatTxH
set_option linter.unusedVariables false
set_option linter.unusedSimpArgs false
set_option maxRecDepth 100000
set_option exponentiation.threshold 2500
namespace Go.LI.Film
open Go.Proofs.YtbjcipikclbecaaGreat Go Go.Proofs Go.LI Go.LI.Fl
abbrev S2 (a b : Nat) : IV := .agg [fL a, fL b]
abbrev S6 (a b c d e f : Nat) : IV := .agg [fL a, fL b, fL c, fL d, fL e, fL f]
theorem zdD {β : Type} (a b c d e g : Nat) (f : Nat → Nat → Nat → Nat → Nat → Nat → Option β) :
    ((zr 6 (S6 a b c d e g)).bind fun c3 => (zc .f64 (c3.getD 0 za)).bind fun x4 => (zc .f64 (c3.getD 1 za)).bind fun x5 => (zc .f64 (c3.getD 2 za)).bind fun x6 => (zc .f64 (c3.getD 3 za)).bind fun x7 => (zc .f64 (c3.getD 4 za)).bind fun x8 => (zc .f64 (c3.getD 5 za)).bind fun x9 => f x4 x5 x6 x7 x8 x9) = f a b c d e g := rfl
theorem zHf (c : Bool) (x y : Nat) : (if (if c = true then (0 : Int) else 10) = 0 then (if c = true then x else 0) else y) = if c = true then x else y := by cases c <;> rfl
section
variable {R : Type}
abbrev zJ5 (O : Ora R) : Prop := ∀ (x : Nat) (e : Int) (G : GH) (k : IV → GH → Option R), O zoc [fL x, iL e] G k = k (fL (if e = 0 then x else 18442240474082181120)) G
abbrev zH2 (O : Ora R) : Prop := ∀ (x : Nat) (e : Int) (G : GH) (k : IV → GH → Option R), O zlM [fL x, iL e] G k = k (fL (if e = 0 then x else 9218868437227405312)) G
abbrev zJG (O : Ora R) : Prop := ∀ (a b c d : Nat), a < 2 ^ 64 → b < 2 ^ 64 → c < 2 ^ 64 → d < 2 ^ 64 → ∀ (G : GH) (k : IV → GH → Option R), O zeW [S2 a b, S2 c d] G k = k (S2 (zuW a c) (zhS b d)) G
theorem zJp {F n : Nat} (hn : 3 ≤ n) : zJ5 (runC (R := R) Tryz.prog lo0 (F + 1) n) := by
  obtain ⟨n, rfl⟩ : ∃ j, n = j + 3 := ⟨n - 3, by omega⟩
  have hI := zHx (R := R) (F := F) (n := n + 2) (by omega)
  intro x e G k
  rw [show zoc = 81 from rfl, zBm, zBt]
  by_cases h : e = 0
  · subst h; rw [show ((0 : Int) != 0) = false from rfl, cond_false, if_pos rfl]
  · rw [show (e != 0) = true by simpa using h, cond_true, (hI G _).2, ivF, if_neg h]
theorem zIi {F n : Nat} (hn : 3 ≤ n) : zH2 (runC (R := R) Tryz.prog lo0 (F + 1) n) := by
  obtain ⟨n, rfl⟩ : ∃ j, n = j + 3 := ⟨n - 3, by omega⟩
  have hI := zHx (R := R) (F := F) (n := n + 2) (by omega)
  intro x e G k
  rw [show zlM = 83 from rfl, zy7, zzc]
  by_cases h : e = 0
  · subst h; rw [show ((0 : Int) != 0) = false from rfl, cond_false, if_pos rfl]
  · rw [show (e != 0) = true by simpa using h, cond_true, (hI G _).1, ivF, if_neg h]
theorem zIY {F n : Nat} (hF : 1 ≤ F) (hn : 10 ≤ n) : zJG (runC (R := R) Tryz.prog lo0 F n) := by
  obtain ⟨n, rfl⟩ : ∃ j, n = j + 10 := ⟨n - 10, by omega⟩
  obtain ⟨F, rfl⟩ : ∃ F', F = F' + 1 := ⟨F - 1, by omega⟩
  have hA := zJX (R := R) (F := F + 1) (n := n + 9) (by omega) (by omega)
  have hL := zJp (R := R) (F := F) (n := n + 9) (by omega)
  have hH := zIi (R := R) (F := F) (n := n + 9) (by omega)
  intro a b c d ha hb hc hd G k
  rw [show zeW = 62 from rfl, zA5, zAO, hA a c true ha hc, zkS, hL, ivF, hA b d false hb hd, zkS, hH, ivF]
  rw [zHf, zHf]
  rfl
theorem zAB (O : Ora R) (fuel : Nat) (a0 a1 a2 a3 a4 a5 b0 b1 b2 b3 b4 b5 : Nat) (G : GH) (k : IV → GH → Option R) :
  zf Tryz.prog O [3, 4, 6, 7, 777777] (fuel + 4) Tryz.f64 [S6 a0 a1 a2 a3 a4 a5, S6 b0 b1 b2 b3 b4 b5, .func 36 []] G k =
  O zbg [S2 a0 a1, S2 b0 b1] G fun v0 G1 => (zr 2 v0).bind fun c0 => (zc .f64 (c0.getD 0 za)).bind fun x0 => (zc .f64 (c0.getD 1 za)).bind fun x1 =>
  O zbg [S2 a2 a3, S2 b2 b3] G1 fun v1 G2 => (zr 2 v1).bind fun c1 => (zc .f64 (c1.getD 0 za)).bind fun x2 => (zc .f64 (c1.getD 1 za)).bind fun x3 =>
  O zbg [S2 a4 a5, S2 b4 b5] G2 fun v2 G3 => (zr 2 v2).bind fun c2 => (zc .f64 (c2.getD 0 za)).bind fun x4 => (zc .f64 (c2.getD 1 za)).bind fun x5 =>
  k (S6 x0 x1 x2 x3 x4 x5) G3 := by kernel_rfl
theorem zBv (O : Ora R) (fuel : Nat) (a0 a1 a2 a3 a4 a5 b0 b1 b2 b3 b4 b5 : Nat) (G : GH) (k : IV → GH → Option R) :
  zf Tryz.prog O [3, 4, 6, 7, 777777] (fuel + 4) Tryz.f64 [S6 a0 a1 a2 a3 a4 a5, S6 b0 b1 b2 b3 b4 b5, .func 62 []] G k =
  O zeW [S2 a0 a1, S2 b0 b1] G fun v0 G1 => (zr 2 v0).bind fun c0 => (zc .f64 (c0.getD 0 za)).bind fun x0 => (zc .f64 (c0.getD 1 za)).bind fun x1 =>
  O zeW [S2 a2 a3, S2 b2 b3] G1 fun v1 G2 => (zr 2 v1).bind fun c1 => (zc .f64 (c1.getD 0 za)).bind fun x2 => (zc .f64 (c1.getD 1 za)).bind fun x3 =>
  O zeW [S2 a4 a5, S2 b4 b5] G2 fun v2 G3 => (zr 2 v2).bind fun c2 => (zc .f64 (c2.getD 0 za)).bind fun x4 => (zc .f64 (c2.getD 1 za)).bind fun x5 =>
  k (S6 x0 x1 x2 x3 x4 x5) G3 := by kernel_rfl
theorem zES (fuel n : Nat) (args : List IV) (G : GH) (k : IV → GH → Option R) :
  runC (R := R) Tryz.prog lo0 fuel (n + 1) 64 args G k = zf Tryz.prog (runC Tryz.prog lo0 fuel n) [3, 4, 6, 7, 777777] fuel Tryz.f64 args G k := zh Tryz.func64 rfl rfl
abbrev zJK (O : Ora R) : Prop := ∀ (a0 a1 a2 a3 a4 a5 b0 b1 b2 b3 b4 b5 : Nat), num a0 → num a1 → num a2 → num a3 → num a4 → num a5 → num b0 → num b1 → num b2 → num b3 → num b4 → num b5 →
  ∀ (G : GH) (k : IV → GH → Option R), O zro [S6 a0 a1 a2 a3 a4 a5, S6 b0 b1 b2 b3 b4 b5] G k = k (S6 (zuW a0 b0) (zhS a1 b1) (zuW a2 b2) (zhS a3 b3) (zuW a4 b4) (zhS a5 b5)) G
theorem zJB {F n : Nat} (hn : 12 ≤ n) : zJK (runC (R := R) Tryz.prog lo0 (F + 4) n) := by
  obtain ⟨n, rfl⟩ : ∃ j, n = j + 12 := ⟨n - 12, by omega⟩
  have hA := zIY (R := R) (F := F + 4) (n := n + 10) (by omega) (by omega)
  intro a0 a1 a2 a3 a4 a5 b0 b1 b2 b3 b4 b5 p0 p1 p2 p3 p4 p5 q0 q1 q2 q3 q4 q5 G k
  have hE : ∀ (G : GH) (k : IV → GH → Option R), runC Tryz.prog lo0 (F + 4) (n + 11) zhc [S6 a0 a1 a2 a3 a4 a5, S6 b0 b1 b2 b3 b4 b5, .func 62 []] G k = k (S6 (zuW a0 b0) (zhS a1 b1) (zuW a2 b2) (zhS a3 b3) (zuW a4 b4) (zhS a5 b5)) G := fun G k => by
    rw [show zhc = 64 from rfl, zES, zBv, hA _ _ _ _ p0.1 p1.1 q0.1 q1.1, zfY, hA _ _ _ _ p2.1 p3.1 q2.1 q3.1, zfY, hA _ _ _ _ p4.1 p5.1 q4.1 q5.1, zfY]
  rw [show zro = 39 from rfl, zBM, zBL, hE, zdD]
end
end Go.LI.Film
