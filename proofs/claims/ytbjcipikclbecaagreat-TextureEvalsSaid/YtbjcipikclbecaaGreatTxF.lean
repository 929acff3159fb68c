/- Textures' checks: the program's check of one texture, and the document's. -/
import Derived.Test.YtbjcipikclbecaaGreatTxE
import Derived.Test.YtbjcipikclbecaaGreatRdPt4
set_option linter.unusedVariables false
set_option linter.unusedSimpArgs false
set_option maxRecDepth 100000
set_option exponentiation.threshold 2500
namespace Go.LI.Film
open Go.Proofs.YtbjcipikclbecaaGreat Go Go.Proofs Go.LI Go.LI.Fl
structure Tx where
  k : Int
  c0 : Nat
  c1 : Nat
  c2 : Nat
  a : Int
  b : Int
  s : Nat
  im : Int
def tcs (t : Tx) : List IV := [iL t.k, fL t.c0, fL t.c1, fL t.c2, iL t.a, iL t.b, fL t.s, iL t.im]
def Tx.w (t : Tx) : Prop := t.c0 < 2 ^ 64 ∧ t.c1 < 2 ^ 64 ∧ t.c2 < 2 ^ 64 ∧ t.s < 2 ^ 64
def ahd (x i : Int) : Bool := decide (x ≥ 0) && decide (x < i)
def chk (t : Tx) (i p : Int) : Int :=
  bif decide (t.k < 1) || decide (t.k > 5) then 2 else
  bif (t.k == 1 || t.k == 5) && !(fin t.c0 && (fin t.c1 && fin t.c2)) then 10 else
  bif (t.k == 2 || t.k == 3 || t.k == 4) && !fin t.s then 10 else
  bif t.k == 3 && (flt .f64 t.s (0 : Nat) || fgt .f64 t.s (4607182418800017408 : Nat)) then 2 else
  bif (t.k == 2 || t.k == 3) && (!ahd t.a i || !ahd t.b i) || t.k == 5 && !ahd t.a i then 110 else
  bif t.k == 4 && (decide (t.im < 0) || decide (t.im ≥ p)) then 110 else 0
theorem zB8 (k : Int) : k < 1 ∨ k > 5 ∨ k = 1 ∨ k = 2 ∨ k = 3 ∨ k = 4 ∨ k = 5 := by omega
section
variable {R : Type} {O : Ora R}
abbrev SAh (O : Ora R) : Prop := ∀ (x i : Int) (p : GA) (G : GH), z0 G .i64 p = some i → ∀ (k : IV → GH → Option R), O z7 [iL x, .ptr (some p)] G k = k (.bool (ahd x i)) G
theorem zGr {F : Nat} (x i : Int) (p : GA) (G : GH) (h : z0 G .i64 p = some i) (k : IV → GH → Option R) : zf Tryz.prog O [777777] F Tryz.f54 [iL x, .ptr (some p)] G k = k (.bool (ahd x i)) G := by
  rw [zrQ, ahd, h, Option.bind_some]
  cases decide (x ≥ 0) <;> rfl
abbrev STn (O : Ora R) : Prop := ∀ (a b c : Nat), a < 2 ^ 64 → b < 2 ^ 64 → c < 2 ^ 64 → ∀ (G : GH) (k : IV → GH → Option R), O zb4 [.agg [fL a, fL b, fL c]] G k = k (.bool (fin a && (fin b && fin c))) G
theorem zFN (hN : zyS O) {F : Nat} {a b c : Nat} (ha : a < 2 ^ 64) (hb : b < 2 ^ 64) (hc : c < 2 ^ 64) (G : GH) (k : IV → GH → Option R) : zf Tryz.prog O [1, 777777] F Tryz.f55 [.agg [fL a, fL b, fL c]] G k = k (.bool (fin a && (fin b && fin c))) G := by
  rw [zrw, hN a ha, ivB]
  cases fin a
  · rfl
  · rw [cond_true, hN b hb, ivB]
    cases fin b
    · rfl
    · rw [cond_true, hN c hc, ivB]; rfl
abbrev SRn (O : Ora R) : Prop := ∀ (a b c : Nat), a < 2 ^ 64 → b < 2 ^ 64 → c < 2 ^ 64 → ∀ (G : GH) (k : IV → GH → Option R), O zeG [.agg [fL a, fL b, fL c]] G k = k (.bool (fin a && (fin b && fin c))) G
theorem zGw (hN : ztr O) {F : Nat} {a b c : Nat} (ha : a < 2 ^ 64) (hb : b < 2 ^ 64) (hc : c < 2 ^ 64) (G : GH) (k : IV → GH → Option R) : zf Tryz.prog O [1, 777777] F Tryz.f67 [.agg [fL a, fL b, fL c]] G k = k (.bool (fin a && (fin b && fin c))) G := by
  rw [zuE, hN a ha, ivB]
  cases fin a
  · rfl
  · rw [cond_true, hN b hb, ivB]
    cases fin b
    · rfl
    · rw [cond_true, hN c hc, ivB]; rfl
abbrev zH0 (O : Ora R) : Prop := ∀ (t : Tx) (i p : Int), t.w → ∀ (G : GH) (k : IV → GH → Option R), O zgf [.agg (tcs t), iL i, iL p] G k = k (iL (chk t i p)) (zac G [iL i] 3)
theorem zEo (hA : SAh O) (hT : STn O) (hN : zyS O) {F : Nat} (hF : 1 ≤ F) (t : Tx) (i p : Int) (hw : t.w) (G : GH) (k : IV → GH → Option R) : zf Tryz.prog O zgr F Tryz.f33 [.agg (tcs t), iL i, iL p] G k = k (iL (chk t i p)) (zac G [iL i] 3) := by
  obtain ⟨F, rfl⟩ : ∃ F', F = F' + 1 := ⟨F - 1, by omega⟩
  obtain ⟨q, c0, c1, c2, a, b, s, im⟩ := t
  obtain ⟨w0, w1, w2, w3⟩ := hw
  simp only at w0 w1 w2 w3
  have hl : z0 (zac G [iL i] 3) .i64 (zaA G) = some i := (BL.new G [iL i] 3).int (i := 0) rfl
  have hA' := fun x k => hA x i (zaA G) _ hl k
  have hT' := hT c0 c1 c2 w0 w1 w2
  have hN' := hN s w3
  unfold tcs
  rw [zub]
  simp only [zhs, zcW, zi, zcy, zeR, zei, zcQ, zcC, zfa, zeC, zcz, zcA, zfb, zdR, zcP, zcT, ze1, zeB, zcM, zcJ, ze8, zeA, zcO, zcN, ze7, zeI]
  simp only [hT', hN', hA', ivB]
  rcases zB8 q with h | h | rfl | rfl | rfl | rfl | rfl
  · simp only [chk, h, decide_true, cond_true, Bool.true_or]
  · have h1 : ¬ q < 1 := by omega
    simp only [chk, h, h1, decide_true, decide_false, cond_true, cond_false, Bool.or_true]
  all_goals simp only [chk, Int.reduceLT, Int.reduceLE, Int.reduceGT, Int.reduceGE, Int.reduceBEq, decide_true, decide_false, cond_true, cond_false, Bool.true_and, Bool.false_and, Bool.or_false, Bool.false_or, Bool.or_true, Bool.true_or]
  · cases (fin c0 && (fin c1 && fin c2)) <;> rfl
  · cases fin s <;> cases ahd a i <;> cases ahd b i <;> rfl
  · cases fin s <;> cases flt .f64 s 0 <;> cases fgt .f64 s 4607182418800017408 <;> cases ahd a i <;> cases ahd b i <;> rfl
  · cases fin s <;> cases decide (im < 0) <;> cases decide (im ≥ p) <;> rfl
  · cases (fin c0 && (fin c1 && fin c2)) <;> cases ahd a i <;> rfl
abbrev zI7 (O : Ora R) : Prop := ∀ (t : Tx) (i p : Int), t.w → ∀ (G : GH) (k : IV → GH → Option R), O zlZ [.agg (tcs t), iL i, iL p] G k = k (iL (chk t i p)) G
theorem zEE (hT : SRn O) (hN : ztr O) {F : Nat} (hF : 1 ≤ F) (t : Tx) (i p : Int) (hw : t.w) (G : GH) (k : IV → GH → Option R) : zf Tryz.prog O zdP F Tryz.f44 [.agg (tcs t), iL i, iL p] G k = k (iL (chk t i p)) G := by
  obtain ⟨F, rfl⟩ : ∃ F', F = F' + 1 := ⟨F - 1, by omega⟩
  obtain ⟨q, c0, c1, c2, a, b, s, im⟩ := t
  obtain ⟨w0, w1, w2, w3⟩ := hw
  simp only at w0 w1 w2 w3
  have hT' := hT c0 c1 c2 w0 w1 w2
  have hN' := hN s w3
  unfold tcs
  rw [zyv]
  simp only [zoo, zgZ, zi, zg3, zjE, zis, zgW, zgP, zjC, ziv, zgD, zgH, zku, zil, zgV, zgI, zjW, ziG, zgT, zgy, zkw, zim, zg0, zgR, zj3, zh9, zgu, zgw, zjA, ziF, zgE, zgQ, zkd, ziV]
  simp only [hT', hN', ivB]
  rcases zB8 q with h | h | rfl | rfl | rfl | rfl | rfl
  · have h2 : (q == 2) = false := by rw [beq_eq_false_iff_ne]; omega
    simp only [chk, h, h2, decide_true, cond_true, cond_false, Bool.true_or]
    cases decide (a ≥ 0) <;> cases decide (b ≥ 0) <;> rfl
  · have h1 : ¬ q < 1 := by omega
    have h2 : (q == 2) = false := by rw [beq_eq_false_iff_ne]; omega
    simp only [chk, h, h1, h2, decide_true, decide_false, cond_true, cond_false, Bool.or_true]
    cases decide (a ≥ 0) <;> cases decide (b ≥ 0) <;> rfl
  all_goals simp only [chk, ahd, Int.reduceLT, Int.reduceLE, Int.reduceGT, Int.reduceGE, Int.reduceBEq, decide_true, decide_false, cond_true, cond_false, Bool.true_and, Bool.false_and, Bool.or_false, Bool.false_or, Bool.or_true, Bool.true_or]
  · cases decide (a ≥ 0) <;> cases decide (b ≥ 0) <;> cases (fin c0 && (fin c1 && fin c2)) <;> rfl
  · cases decide (a ≥ 0) <;> cases decide (b ≥ 0) <;> cases fin s <;> cases decide (a < i) <;> cases decide (b < i) <;> rfl
  · cases decide (a ≥ 0) <;> cases decide (b ≥ 0) <;> cases fin s <;> cases flt .f64 s 0 <;> cases fgt .f64 s 4607182418800017408 <;> cases decide (a < i) <;> cases decide (b < i) <;> rfl
  · cases decide (a ≥ 0) <;> cases decide (b ≥ 0) <;> cases fin s <;> cases decide (im < 0) <;> cases decide (im ≥ p) <;> rfl
  · cases decide (a ≥ 0) <;> cases decide (b ≥ 0) <;> cases (fin c0 && (fin c1 && fin c2)) <;> cases decide (a < i) <;> rfl
end
end Go.LI.Film
