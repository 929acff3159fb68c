/- Triples of spans, pixels: sums, of the program and of the reference. -/
import Derived.Test.YtmhoddmenfondaaRdV1
namespace Go.LI.Film
open Go.Proofs.Ytmhoddmenfondaa Go Go.Proofs Go.LI Go.LI.Fl
set_option linter.unusedVariables false
set_option linter.unusedSimpArgs false
set_option maxRecDepth 100000

/-- Six numbers: three spans. -/
def F6 (a : Nat → Nat) : IV := .agg [.float .f64 (a 0), .float .f64 (a 1), .float .f64 (a 2), .float .f64 (a 3), .float .f64 (a 4), .float .f64 (a 5)]
/-- A pixel. -/
def PX (a : Nat → Nat) (c d : Int) : IV := .agg [.float .f64 (a 0), .float .f64 (a 1), .float .f64 (a 2), .float .f64 (a 3), .float .f64 (a 4), .float .f64 (a 5), .int .i64 c, .int .i64 d]
/-- A sample. -/
def SM (a : Nat → Nat) (clear : Bool) (sa : Option GA) (sn : Nat) : IV := .agg [.float .f64 (a 0), .float .f64 (a 1), .float .f64 (a 2), .float .f64 (a 3), .float .f64 (a 4), .float .f64 (a 5), .bool clear, .slice sa sn]
def sumA (a b : Nat → Nat) (i : Nat) : Nat := if i % 2 = 0 then lowA (a i) (b i) else highA (a i) (b i)
def W6 (a : Nat → Nat) : Prop := ∀ i, a i < 2 ^ 64
theorem sumA_w (a b : Nat → Nat) : W6 (sumA a b) := by
  intro i
  unfold sumA
  split
  · exact lowA_lt
  · exact highA_lt
theorem F6_open {β : Type} (a : Nat → Nat) (f : Nat → Nat → Nat → Nat → Nat → Nat → Option β) :
    ((ivAgg 6 (F6 a)).bind fun c3 => (ivFloat .f64 (c3.getD 0 undefI)).bind fun x4 => (ivFloat .f64 (c3.getD 1 undefI)).bind fun x5 => (ivFloat .f64 (c3.getD 2 undefI)).bind fun x6 => (ivFloat .f64 (c3.getD 3 undefI)).bind fun x7 => (ivFloat .f64 (c3.getD 4 undefI)).bind fun x8 => (ivFloat .f64 (c3.getD 5 undefI)).bind fun x9 => f x4 x5 x6 x7 x8 x9) = f (a 0) (a 1) (a 2) (a 3) (a 4) (a 5) := rfl
theorem F2_open {β : Type} (a b : Nat) (f : Nat → Nat → Option β) : ((ivAgg 2 (.agg [.float .f64 a, .float .f64 b])).bind fun c3 => (ivFloat .f64 (c3.getD 0 undefI)).bind fun x4 => (ivFloat .f64 (c3.getD 1 undefI)).bind fun x5 => f x4 x5) = f a b := rfl

section
variable {R : Type}
abbrev SVecEach (O : Ora R) : Prop := ∀ (a b : Nat → Nat), W6 a → W6 b → ∀ (G : GH) (k : IV → GH → Option R), O fn_zL1 [F6 a, F6 b, .func 66 []] G k = k (F6 (sumA a b)) G
abbrev SVecAdd (O : Ora R) : Prop := ∀ (a b : Nat → Nat), W6 a → W6 b → ∀ (G : GH) (k : IV → GH → Option R), O fn_zF1 [F6 a, F6 b] G k = k (F6 (sumA a b)) G
abbrev SRVecAdd (O : Ora R) : Prop := ∀ (a b : Nat → Nat), W6 a → W6 b → ∀ (G : GH) (k : IV → GH → Option R), O fn_zK1 [F6 a, F6 b] G k = k (F6 (sumA a b)) G
abbrev SRPixAdd (O : Ora R) : Prop := ∀ (a b : Nat → Nat) (c d : Int) (clear : Bool) (sa : Option GA) (sn : Nat), W6 a → W6 b → ∀ (G : GH) (k : IV → GH → Option R), O fn_zw1 [PX a c d, SM b clear sa sn] G k = k (PX (sumA a b) (IntKind.wrap .i64 (c + 1)) (if clear = true then d else IntKind.wrap .i64 (d + 1))) G

theorem each_body {O : Ora R} {F : Nat} (hF : 4 ≤ F) (hA : SpanAdd O) {a b : Nat → Nat} (ha : W6 a) (hb : W6 b) (G : GH) (k : IV → GH → Option R) :
    bodyC Try.prog O [3, 4, 6, 7, 777777] F Try.f65 [F6 a, F6 b, .func 66 []] G k = k (F6 (sumA a b)) G := by
  obtain ⟨f, rfl⟩ : ∃ f, F = f + 4 := ⟨F - 4, by omega⟩
  unfold F6
  rw [e_zL1, hA _ _ _ _ (ha 0) (ha 1) (hb 0) (hb 1), F2_open, hA _ _ _ _ (ha 2) (ha 3) (hb 2) (hb 3), F2_open, hA _ _ _ _ (ha 4) (ha 5) (hb 4) (hb 5), F2_open]
  rfl
theorem wVecEach {F n : Nat} (hF : 4 ≤ F) (hn : 11 ≤ n) : SVecEach (runC (R := R) Try.prog lo0 F n) := by
  obtain ⟨n, rfl⟩ : ∃ j, n = j + 11 := ⟨n - 11, by omega⟩
  intro a b ha hb G k
  rw [r_zL1]
  exact each_body hF (wSpanAdd (by omega) (by omega)) ha hb G k
theorem vecAdd_body {O : Ora R} {F : Nat} (hA : SVecEach O) {a b : Nat → Nat} (ha : W6 a) (hb : W6 b) (G : GH) (k : IV → GH → Option R) :
    bodyC Try.prog O [2, 3, 4, 777777] F Try.f49 [F6 a, F6 b] G k = k (F6 (sumA a b)) G := by
  have h := hA a b ha hb
  have ho := fun f => F6_open (β := R) (sumA a b) f
  unfold F6 at h ho ⊢
  rw [e_zF1, h, ho]
theorem wVecAdd {F n : Nat} (hF : 4 ≤ F) (hn : 12 ≤ n) : SVecAdd (runC (R := R) Try.prog lo0 F n) := by
  obtain ⟨n, rfl⟩ : ∃ j, n = j + 12 := ⟨n - 12, by omega⟩
  intro a b ha hb G k
  have h := vecAdd_body (F := F) (wVecEach (R := R) (F := F) (n := n + 11) hF (by omega)) ha hb G k
  unfold F6 at h ⊢
  rw [r_zF1]
  exact h
theorem rvecAdd_body {O : Ora R} {F : Nat} (hA : RSpanAdd O) {a b : Nat → Nat} (ha : W6 a) (hb : W6 b) (G : GH) (k : IV → GH → Option R) :
    bodyC Try.prog O [2, 3, 4, 777777] F Try.f63 [F6 a, F6 b] G k = k (F6 (sumA a b)) G := by
  unfold F6
  rw [e_zK1, hA _ _ _ _ (ha 0) (ha 1) (hb 0) (hb 1), F2_open, hA _ _ _ _ (ha 2) (ha 3) (hb 2) (hb 3), F2_open, hA _ _ _ _ (ha 4) (ha 5) (hb 4) (hb 5), F2_open]
  rfl
theorem wRVecAdd {F n : Nat} (hF : 1100 ≤ F) (hn : 7 ≤ n) : SRVecAdd (runC (R := R) Try.prog lo0 F n) := by
  obtain ⟨n, rfl⟩ : ∃ j, n = j + 7 := ⟨n - 7, by omega⟩
  intro a b ha hb G k
  have h := rvecAdd_body (F := F) (wRSpanAdd (R := R) (F := F) (n := n + 6) hF (by omega)) ha hb G k
  unfold F6 at h ⊢
  rw [r_zK1]
  exact h
theorem rpixAdd_body {O : Ora R} {F : Nat} (hA : SRVecAdd O) {a b : Nat → Nat} {c d : Int} {clear : Bool} {sa : Option GA} {sn : Nat} (ha : W6 a) (hb : W6 b) (G : GH) (k : IV → GH → Option R) :
    bodyC Try.prog O [2, 3, 4, 777777] F Try.f44 [PX a c d, SM b clear sa sn] G k = k (PX (sumA a b) (IntKind.wrap .i64 (c + 1)) (if clear = true then d else IntKind.wrap .i64 (d + 1))) G := by
  have h := hA a b ha hb
  have ho := fun f => F6_open (β := R) (sumA a b) f
  unfold F6 at h ho
  unfold PX SM
  rw [e_zw1, h, ho]
  cases clear with
  | true => rw [Bool.not_true, cond_false, if_pos rfl]
  | false => rw [Bool.not_false, cond_true, if_neg (by simp)]
theorem wRPixAdd {F n : Nat} (hF : 1100 ≤ F) (hn : 8 ≤ n) : SRPixAdd (runC (R := R) Try.prog lo0 F n) := by
  obtain ⟨n, rfl⟩ : ∃ j, n = j + 8 := ⟨n - 8, by omega⟩
  intro a b c d clear sa sn ha hb G k
  have h := rpixAdd_body (F := F) (c := c) (d := d) (clear := clear) (sa := sa) (sn := sn) (wRVecAdd (R := R) (F := F) (n := n + 7) hF (by omega)) ha hb G k
  unfold PX SM at h ⊢
  rw [r_zw1]
  exact h
end
end Go.LI.Film
