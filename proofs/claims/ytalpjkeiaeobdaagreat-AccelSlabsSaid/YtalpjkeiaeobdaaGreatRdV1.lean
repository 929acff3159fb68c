/- Spans and triples of spans: sums, of the program and of the reference. -/
import Derived.Test.YtalpjkeiaeobdaaGreatRdR5
import Derived.Test.YtalpjkeiaeobdaaGreatRdPd
namespace Go.LI.Film
open Go.Proofs.YtalpjkeiaeobdaaGreat Go Go.Proofs Go.LI Go.LI.Fl
set_option linter.unusedVariables false
set_option linter.unusedSimpArgs false
set_option maxRecDepth 100000

/-- The ends of a sum of spans. -/
def lowA (a b : Nat) : Nat := if (fin a && fin b) = true then addR a b true else 18442240474082181120
def highA (a b : Nat) : Nat := if (fin a && fin b) = true then addR a b false else 9218868437227405312

theorem sealW_lt {neg : Bool} {r : Nat} {grow : Bool} : sealW neg r grow < 2 ^ 64 := by
  rw [sealW_near]
  have := nearW_le r grow
  split
  · decide
  · cases neg with
    | true => exact word_lt this
    | false => rw [word_false]; omega
theorem lowA_lt {a b : Nat} : lowA a b < 2 ^ 64 := by
  unfold lowA; split
  · exact sealW_lt
  · decide
theorem highA_lt {a b : Nat} : highA a b < 2 ^ 64 := by
  unfold highA; split
  · exact sealW_lt
  · decide

section
variable {R : Type}
abbrev SpanLow (O : Ora R) : Prop := ∀ (x : Nat) (e : Int) (G : GH) (k : IV → GH → Option R), O fn_span_low [.float .f64 x, .int .i64 e] G k = k (.float .f64 (if e = 0 then x else 18442240474082181120)) G
abbrev SpanHigh (O : Ora R) : Prop := ∀ (x : Nat) (e : Int) (G : GH) (k : IV → GH → Option R), O fn_span_high [.float .f64 x, .int .i64 e] G k = k (.float .f64 (if e = 0 then x else 9218868437227405312)) G
abbrev SpanAdd (O : Ora R) : Prop := ∀ (a b c d : Nat), a < 2 ^ 64 → b < 2 ^ 64 → c < 2 ^ 64 → d < 2 ^ 64 → ∀ (G : GH) (k : IV → GH → Option R),
  O fn_span_Add [.agg [.float .f64 a, .float .f64 b], .agg [.float .f64 c, .float .f64 d]] G k = k (.agg [.float .f64 (lowA a c), .float .f64 (highA b d)]) G
abbrev RSpanAdd (O : Ora R) : Prop := ∀ (a b c d : Nat), a < 2 ^ 64 → b < 2 ^ 64 → c < 2 ^ 64 → d < 2 ^ 64 → ∀ (G : GH) (k : IV → GH → Option R),
  O fn_ref02_Add [.agg [.float .f64 a, .float .f64 b], .agg [.float .f64 c, .float .f64 d]] G k = k (.agg [.float .f64 (lowA a c), .float .f64 (highA b d)]) G

theorem wSpanLow {F n : Nat} (hn : 3 ≤ n) : SpanLow (runC (R := R) Tryz.prog lo0 (F + 1) n) := by
  obtain ⟨n, rfl⟩ : ∃ j, n = j + 3 := ⟨n - 3, by omega⟩
  have hI := wInf (R := R) (F := F) (n := n + 2) (by omega)
  intro x e G k
  rw [r_span_low, e_span_low]
  by_cases h : e = 0
  · subst h; rw [show ((0 : Int) != 0) = false from rfl, cond_false, if_pos rfl]
  · rw [show (e != 0) = true by simpa using h, cond_true, (hI G _).2, ivF, if_neg h]
theorem wSpanHigh {F n : Nat} (hn : 3 ≤ n) : SpanHigh (runC (R := R) Tryz.prog lo0 (F + 1) n) := by
  obtain ⟨n, rfl⟩ : ∃ j, n = j + 3 := ⟨n - 3, by omega⟩
  have hI := wInf (R := R) (F := F) (n := n + 2) (by omega)
  intro x e G k
  rw [r_span_high, e_span_high]
  by_cases h : e = 0
  · subst h; rw [show ((0 : Int) != 0) = false from rfl, cond_false, if_pos rfl]
  · rw [show (e != 0) = true by simpa using h, cond_true, (hI G _).1, ivF, if_neg h]

theorem pick (c : Bool) (x y : Nat) : (if (if c = true then (0 : Int) else 10) = 0 then (if c = true then x else 0) else y) = if c = true then x else y := by cases c <;> rfl

theorem spanAdd_body {O : Ora R} {F : Nat} (hA : SAdd O) (hL : SpanLow O) (hH : SpanHigh O) {a b c d : Nat} (ha : a < 2 ^ 64) (hb : b < 2 ^ 64) (hc : c < 2 ^ 64) (hd : d < 2 ^ 64) (G : GH) (k : IV → GH → Option R) :
    bodyC Tryz.prog O [2, 3, 4, 777777] F Tryz.f38 [.agg [.float .f64 a, .float .f64 b], .agg [.float .f64 c, .float .f64 d]] G k = k (.agg [.float .f64 (lowA a c), .float .f64 (highA b d)]) G := by
  rw [e_span_Add, hA a c true ha hc, pairFI, hL, ivF, hA b d false hb hd, pairFI, hH, ivF]
  rw [pick, pick]
  rfl

theorem wSpanAdd {F n : Nat} (hF : 1 ≤ F) (hn : 10 ≤ n) : SpanAdd (runC (R := R) Tryz.prog lo0 F n) := by
  obtain ⟨n, rfl⟩ : ∃ j, n = j + 10 := ⟨n - 10, by omega⟩
  obtain ⟨F, rfl⟩ : ∃ F', F = F' + 1 := ⟨F - 1, by omega⟩
  intro a b c d ha hb hc hd G k
  rw [r_span_Add]
  exact spanAdd_body (wAdd (by omega) (by omega)) (wSpanLow (by omega)) (wSpanHigh (by omega)) ha hb hc hd G k

theorem rspanAdd_body {O : Ora R} {F : Nat} (hF : 1 ≤ F) (hA : SRAdd O) (hI : SRInf O) {a b c d : Nat} (ha : a < 2 ^ 64) (hb : b < 2 ^ 64) (hc : c < 2 ^ 64) (hd : d < 2 ^ 64) (G : GH) (k : IV → GH → Option R) :
    u_ref02_Add O k (L_ref02_Add_0 O F k) a b c d G = k (.agg [.float .f64 (lowA a c), .float .f64 (highA b d)]) G := by
  simp only [u_ref02_Add]
  rw [hA a c true ha hc, pairFI]
  simp only [L_ref02_Add_0]
  rw [stepF hF]
  simp only [l_ref02_Add_0, u_ref02_Add_0]
  have two : ∀ (x p q r s t u : Nat), p = a → q = b → r = c → s = d → a_ref02_Add_0N O k (L_ref02_Add_1 O F k) x p q r s t u G = k (.agg [.float .f64 x, .float .f64 (highA b d)]) G := by
    rintro x p q r s t u rfl rfl rfl rfl
    simp only [a_ref02_Add_0N]
    rw [hA q s false hb hd, pairFI]
    simp only [L_ref02_Add_1]
    rw [stepF hF]
    simp only [l_ref02_Add_1, u_ref02_Add_1, a_ref02_Add_1N]
    unfold highA
    by_cases h : (fin q && fin s) = true
    · rw [if_pos h, if_pos h, if_pos h, show ((0 : Int) != 0) = false from rfl, cond_false]
    · rw [if_neg h, if_neg h, if_neg h, show ((10 : Int) != 0) = true from rfl, cond_true, hI, ivF]
  by_cases h : (fin a && fin c) = true
  · rw [if_pos h, if_pos h, show ((0 : Int) != 0) = false from rfl, cond_false, two _ _ _ _ _ _ _ rfl rfl rfl rfl]
    unfold lowA
    rw [if_pos h]
  · rw [if_neg h, if_neg h, show ((10 : Int) != 0) = true from rfl, cond_true, hI, ivF, negW (by decide), two _ _ _ _ _ _ _ rfl rfl rfl rfl]
    unfold lowA
    rw [if_neg h, show dbl.word true 9218868437227405312 = 18442240474082181120 by decide +kernel]

theorem wRSpanAdd {F n : Nat} (hF : 1100 ≤ F) (hn : 6 ≤ n) : RSpanAdd (runC (R := R) Tryz.prog lo0 F n) := by
  obtain ⟨n, rfl⟩ : ∃ j, n = j + 6 := ⟨n - 6, by omega⟩
  intro a b c d ha hb hc hd G k
  rw [r_ref02_Add, e_ref02_Add]
  exact rspanAdd_body (by omega) (wRAdd hF (by omega)) (wRInf (by omega)) ha hb hc hd G k
end
end Go.LI.Film
