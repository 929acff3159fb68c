/- Textures' checks: the program's check of one texture, and the document's. -/
import Derived.Test.YtbjcipikclbecaaTxE
import Derived.Test.YtbjcipikclbecaaRdPt4
namespace Go.LI.Film
open Go.Proofs.Ytbjcipikclbecaa Go Go.Proofs Go.LI Go.LI.Fl
set_option linter.unusedVariables false
set_option linter.unusedSimpArgs false
set_option maxRecDepth 100000
set_option exponentiation.threshold 2500

/-- A texture. -/
structure Tx where
  k : Int
  c0 : Nat
  c1 : Nat
  c2 : Nat
  a : Int
  b : Int
  s : Nat
  im : Int
def tcs (t : Tx) : List IV := [.int .i64 t.k, .float .f64 t.c0, .float .f64 t.c1, .float .f64 t.c2, .int .i64 t.a, .int .i64 t.b, .float .f64 t.s, .int .i64 t.im]
def Tx.w (t : Tx) : Prop := t.c0 < 2 ^ 64 ∧ t.c1 < 2 ^ 64 ∧ t.c2 < 2 ^ 64 ∧ t.s < 2 ^ 64
def ahd (x i : Int) : Bool := decide (x ≥ 0) && decide (x < i)
/-- What is wrong with a texture. -/
def chk (t : Tx) (i p : Int) : Int :=
  bif decide (t.k < 1) || decide (t.k > 5) then 2 else
  bif (t.k == 1 || t.k == 5) && !(fin t.c0 && (fin t.c1 && fin t.c2)) then 10 else
  bif (t.k == 2 || t.k == 3 || t.k == 4) && !fin t.s then 10 else
  bif t.k == 3 && (flt .f64 t.s (0 : Nat) || fgt .f64 t.s (4607182418800017408 : Nat)) then 2 else
  bif (t.k == 2 || t.k == 3) && (!ahd t.a i || !ahd t.b i) || t.k == 5 && !ahd t.a i then 110 else
  bif t.k == 4 && (decide (t.im < 0) || decide (t.im ≥ p)) then 110 else 0
theorem kcases (k : Int) : k < 1 ∨ k > 5 ∨ k = 1 ∨ k = 2 ∨ k = 3 ∨ k = 4 ∨ k = 5 := by omega

section
variable {R : Type} {O : Ora R}
abbrev SAh (O : Ora R) : Prop := ∀ (x i : Int) (p : GA) (G : GH), ldInt G .i64 p = some i → ∀ (k : IV → GH → Option R), O fn_texture_check_1 [.int .i64 x, .ptr (some p)] G k = k (.bool (ahd x i)) G
theorem ah_body {F : Nat} (x i : Int) (p : GA) (G : GH) (h : ldInt G .i64 p = some i) (k : IV → GH → Option R) : bodyC Try.prog O [777777] F Try.f38 [.int .i64 x, .ptr (some p)] G k = k (.bool (ahd x i)) G := by
  rw [e_texture_check_1, ahd, h, Option.bind_some]
  cases decide (x ≥ 0) <;> rfl
abbrev STn (O : Ora R) : Prop := ∀ (a b c : Nat), a < 2 ^ 64 → b < 2 ^ 64 → c < 2 ^ 64 → ∀ (G : GH) (k : IV → GH → Option R), O fn_texture_numbers [.agg [.float .f64 a, .float .f64 b, .float .f64 c]] G k = k (.bool (fin a && (fin b && fin c))) G
theorem tn_body (hN : SNumber O) {F : Nat} {a b c : Nat} (ha : a < 2 ^ 64) (hb : b < 2 ^ 64) (hc : c < 2 ^ 64) (G : GH) (k : IV → GH → Option R) : bodyC Try.prog O [1, 777777] F Try.f39 [.agg [.float .f64 a, .float .f64 b, .float .f64 c]] G k = k (.bool (fin a && (fin b && fin c))) G := by
  rw [e_texture_numbers, hN a ha, ivB]
  cases fin a
  · rfl
  · rw [cond_true, hN b hb, ivB]
    cases fin b
    · rfl
    · rw [cond_true, hN c hc, ivB]; rfl
abbrev SRn (O : Ora R) : Prop := ∀ (a b c : Nat), a < 2 ^ 64 → b < 2 ^ 64 → c < 2 ^ 64 → ∀ (G : GH) (k : IV → GH → Option R), O fn_ref09_number [.agg [.float .f64 a, .float .f64 b, .float .f64 c]] G k = k (.bool (fin a && (fin b && fin c))) G
theorem rn_body (hN : SQNumber O) {F : Nat} {a b c : Nat} (ha : a < 2 ^ 64) (hb : b < 2 ^ 64) (hc : c < 2 ^ 64) (G : GH) (k : IV → GH → Option R) : bodyC Try.prog O [1, 777777] F Try.f41 [.agg [.float .f64 a, .float .f64 b, .float .f64 c]] G k = k (.bool (fin a && (fin b && fin c))) G := by
  rw [e_ref09_number, hN a ha, ivB]
  cases fin a
  · rfl
  · rw [cond_true, hN b hb, ivB]
    cases fin b
    · rfl
    · rw [cond_true, hN c hc, ivB]; rfl

abbrev SChp (O : Ora R) : Prop := ∀ (t : Tx) (i p : Int), t.w → ∀ (G : GH) (k : IV → GH → Option R), O fn_texture_check [.agg (tcs t), .int .i64 i, .int .i64 p] G k = k (.int .i64 (chk t i p)) (gnew G [.int .i64 i] 3)
theorem chp_body (hA : SAh O) (hT : STn O) (hN : SNumber O) {F : Nat} (hF : 1 ≤ F) (t : Tx) (i p : Int) (hw : t.w) (G : GH) (k : IV → GH → Option R) : bodyC Try.prog O lo22 F Try.f22 [.agg (tcs t), .int .i64 i, .int .i64 p] G k = k (.int .i64 (chk t i p)) (gnew G [.int .i64 i] 3) := by
  obtain ⟨F, rfl⟩ : ∃ F', F = F' + 1 := ⟨F - 1, by omega⟩
  obtain ⟨q, c0, c1, c2, a, b, s, im⟩ := t
  obtain ⟨w0, w1, w2, w3⟩ := hw
  simp only at w0 w1 w2 w3
  have hl : ldInt (gnew G [.int .i64 i] 3) .i64 (gaddr G) = some i := (BL.new G [.int .i64 i] 3).int (i := 0) rfl
  have hA' := fun x k => hA x i (gaddr G) _ hl k
  have hT' := hT c0 c1 c2 w0 w1 w2
  have hN' := hN s w3
  unfold tcs
  rw [e_texture_check]
  simp only [u_texture_check, L_texture_check_0, stepN, l_texture_check_0, u_texture_check_0, a_texture_check_0N, L_texture_check_1, l_texture_check_1, u_texture_check_1, a_texture_check_1N, L_texture_check_2, l_texture_check_2, u_texture_check_2, a_texture_check_2N, L_texture_check_3, l_texture_check_3, u_texture_check_3, a_texture_check_3N, L_texture_check_4, l_texture_check_4, u_texture_check_4, a_texture_check_4N, L_texture_check_5, l_texture_check_5, u_texture_check_5, a_texture_check_5N]
  simp only [hT', hN', hA', ivB]
  rcases kcases q with h | h | rfl | rfl | rfl | rfl | rfl
  · simp only [chk, h, decide_true, cond_true, Bool.true_or]
  · have h1 : ¬ q < 1 := by omega
    simp only [chk, h, h1, decide_true, decide_false, cond_true, cond_false, Bool.or_true]
  all_goals simp only [chk, Int.reduceLT, Int.reduceLE, Int.reduceGT, Int.reduceGE, Int.reduceBEq, decide_true, decide_false, cond_true, cond_false, Bool.true_and, Bool.false_and, Bool.or_false, Bool.false_or, Bool.or_true, Bool.true_or]
  · cases (fin c0 && (fin c1 && fin c2)) <;> rfl
  · cases fin s <;> cases ahd a i <;> cases ahd b i <;> rfl
  · cases fin s <;> cases flt .f64 s 0 <;> cases fgt .f64 s 4607182418800017408 <;> cases ahd a i <;> cases ahd b i <;> rfl
  · cases fin s <;> cases decide (im < 0) <;> cases decide (im ≥ p) <;> rfl
  · cases (fin c0 && (fin c1 && fin c2)) <;> cases ahd a i <;> rfl

abbrev SChr (O : Ora R) : Prop := ∀ (t : Tx) (i p : Int), t.w → ∀ (G : GH) (k : IV → GH → Option R), O fn_ref09_one [.agg (tcs t), .int .i64 i, .int .i64 p] G k = k (.int .i64 (chk t i p)) G
theorem chr_body (hT : SRn O) (hN : SQNumber O) {F : Nat} (hF : 1 ≤ F) (t : Tx) (i p : Int) (hw : t.w) (G : GH) (k : IV → GH → Option R) : bodyC Try.prog O lo24 F Try.f24 [.agg (tcs t), .int .i64 i, .int .i64 p] G k = k (.int .i64 (chk t i p)) G := by
  obtain ⟨F, rfl⟩ : ∃ F', F = F' + 1 := ⟨F - 1, by omega⟩
  obtain ⟨q, c0, c1, c2, a, b, s, im⟩ := t
  obtain ⟨w0, w1, w2, w3⟩ := hw
  simp only at w0 w1 w2 w3
  have hT' := hT c0 c1 c2 w0 w1 w2
  have hN' := hN s w3
  unfold tcs
  rw [e_ref09_one]
  simp only [u_ref09_one, L_ref09_one_0, stepN, l_ref09_one_0, u_ref09_one_0, a_ref09_one_0N, L_ref09_one_1, l_ref09_one_1, u_ref09_one_1, a_ref09_one_1N, L_ref09_one_2, l_ref09_one_2, u_ref09_one_2, a_ref09_one_2N, L_ref09_one_3, l_ref09_one_3, u_ref09_one_3, a_ref09_one_3N, L_ref09_one_4, l_ref09_one_4, u_ref09_one_4, a_ref09_one_4N, L_ref09_one_5, l_ref09_one_5, u_ref09_one_5, a_ref09_one_5N, L_ref09_one_6, l_ref09_one_6, u_ref09_one_6, a_ref09_one_6N, L_ref09_one_7, l_ref09_one_7, u_ref09_one_7, a_ref09_one_7N]
  simp only [hT', hN', ivB]
  rcases kcases q with h | h | rfl | rfl | rfl | rfl | rfl
  · have h2 : (q == 2) = false := by rw [beq_eq_false_iff_ne]; omega
    simp only [chk, h, h2, decide_true, cond_true, cond_false, Bool.true_or]
    cases decide (a ≥ 0) <;> cases decide (b ≥ 0) <;> rfl
  · have h1 : ¬ q < 1 := by omega
    have h2 : (q == 2) = false := by rw [beq_eq_false_iff_ne]; omega
    simp only [chk, h, h1, h2, decide_true, decide_false, cond_true, cond_false, Bool.or_true]
    cases decide (a ≥ 0) <;> cases decide (b ≥ 0) <;> rfl
  all_goals simp only [chk, ahd, Int.reduceLT, Int.reduceLE, Int.reduceGT, Int.reduceGE, Int.reduceBEq, decide_true, decide_false, cond_true, cond_false, Bool.true_and, Bool.false_and, Bool.or_false, Bool.false_or, Bool.or_true, Bool.true_or]
  · cases decide (a ≥ 0) <;> cases decide (b ≥ 0) <;> cases (fin c0 && (fin c1 && fin c2)) <;> rfl
  · cases decide (a ≥ 0) <;> cases decide (b ≥ 0) <;> cases fin s <;> cases decide (a < i) <;> cases decide (b < i) <;> rfl
  · cases decide (a ≥ 0) <;> cases decide (b ≥ 0) <;> cases fin s <;> cases flt .f64 s 0 <;> cases fgt .f64 s 4607182418800017408 <;> cases decide (a < i) <;> cases decide (b < i) <;> rfl
  · cases decide (a ≥ 0) <;> cases decide (b ≥ 0) <;> cases fin s <;> cases decide (im < 0) <;> cases decide (im ≥ p) <;> rfl
  · cases decide (a ≥ 0) <;> cases decide (b ≥ 0) <;> cases (fin c0 && (fin c1 && fin c2)) <;> cases decide (a < i) <;> rfl
end
end Go.LI.Film
