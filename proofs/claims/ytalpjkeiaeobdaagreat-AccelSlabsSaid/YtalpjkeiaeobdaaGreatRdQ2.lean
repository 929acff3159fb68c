/- Quotients: what they stand for; round.Div. -/
import Derived.Test.YtalpjkeiaeobdaaGreatRdQ1
import Derived.Test.YtalpjkeiaeobdaaGreatRdS8
import Derived.Test.YtalpjkeiaeobdaaGreatRdPm
namespace Go.LI.Fl
open Go Go.LI Ieee
set_option linter.unusedVariables false
set_option maxRecDepth 100000
set_option exponentiation.threshold 2000

/-- One, in units of the least number. -/
def one1074 : Nat := 2 ^ 1074
theorem one_eq : ∃ p, p = 1074 ∧ one1074 = 2 ^ p := ⟨1074, rfl, rfl⟩
theorem one_pos : 0 < one1074 := Nat.two_pow_pos _
/-- The quotient, rounded down or up. -/
def divR (a b : Nat) (down : Bool) : Nat := sealW (sg dbl a != sg dbl b) (rndR (mag dbl (rg dbl a) * one1074) (mag dbl (rg dbl b)) ((sg dbl a != sg dbl b) == down)) ((sg dbl a != sg dbl b) == down)
def divOk (a b : Nat) : Bool := fin a && fin b && decide (rg dbl b ≠ 0)
def divV (a b : Nat) (down : Bool) : Nat := if divOk a b = true then divR a b down else 0
def divE (a b : Nat) : Int := if (fin a && fin b) = true then if rg dbl b = 0 then 11 else 0 else 10

theorem rndR_nil (B : Nat) (g : Bool) : rndR 0 B g = 0 := by
  unfold rndR
  rw [Nat.zero_div]
  have h : floorR 0 = 0 := rfl
  rw [h, (mag_zero dbl).2 rfl, Nat.zero_mul, if_neg (by simp)]

theorem rep_div {Nx Ny a b : Nat} {ex ey : Int} (hx1 : -1074 ≤ ex) (hx2 : ex ≤ 971) (hy1 : -1074 ≤ ey) (hy2 : ey ≤ 971) (ha : a ≤ 200) (hb : b ≤ 200) (hN : Ny ≠ 0) :
    ∃ p s : Nat, (p : Int) - s = (ex - a) - (ey - b) + 1074 ∧ RepN (Nx * 2 ^ a / (Ny * 2 ^ b)) p s (decide (Nx * 2 ^ a % (Ny * 2 ^ b) ≠ 0)) (Nx * 2 ^ (ex + 1074).toNat * one1074) (Ny * 2 ^ (ey + 1074).toNat) := by
  obtain ⟨t, ht, h1⟩ := one_eq
  rw [h1]
  have hD : 0 < Ny * 2 ^ b := Nat.mul_pos (Nat.pos_of_ne_zero hN) (Nat.two_pow_pos _)
  refine ⟨(1900 + (ex - ey + 1074 + b - a)).toNat, 1900, by omega, ?_⟩
  have e1 : ∀ N, N * 2 ^ (1900 + (ex - ey + 1074 + b - a)).toNat * (Ny * 2 ^ (ey + 1074).toNat) = N * (Ny * 2 ^ b) * 2 ^ (1900 + ex + 2148 - a).toNat := by
    intro N
    have h2 : 2 ^ (1900 + (ex - ey + 1074 + b - a)).toNat * 2 ^ (ey + 1074).toNat = 2 ^ b * 2 ^ (1900 + ex + 2148 - a).toNat := by
      rw [← Nat.pow_add, ← Nat.pow_add]
      congr 1
      omega
    calc N * 2 ^ (1900 + (ex - ey + 1074 + b - a)).toNat * (Ny * 2 ^ (ey + 1074).toNat) = N * Ny * (2 ^ (1900 + (ex - ey + 1074 + b - a)).toNat * 2 ^ (ey + 1074).toNat) := by ac_rfl
      _ = N * Ny * (2 ^ b * 2 ^ (1900 + ex + 2148 - a).toNat) := by rw [h2]
      _ = _ := by ac_rfl
  have e2 : Nx * 2 ^ (ex + 1074).toNat * 2 ^ t * 2 ^ 1900 = Nx * 2 ^ a * 2 ^ (1900 + ex + 2148 - a).toNat := by
    rw [Nat.mul_assoc, Nat.mul_assoc, Nat.mul_assoc, ← Nat.pow_add, ← Nat.pow_add, ← Nat.pow_add]
    congr 2
    omega
  have hC := Nat.two_pow_pos (1900 + ex + 2148 - a).toNat
  have hdm := Nat.div_add_mod (Nx * 2 ^ a) (Ny * 2 ^ b)
  have hml := Nat.mod_lt (Nx * 2 ^ a) hD
  unfold RepN
  rw [e1, e1, e2, Nat.add_mul, Nat.one_mul]
  rw [Nat.mul_comm] at hdm
  generalize Nx * 2 ^ a / (Ny * 2 ^ b) * (Ny * 2 ^ b) = Q at hdm
  generalize Nx * 2 ^ a % (Ny * 2 ^ b) = r at hdm hml
  generalize Ny * 2 ^ b = D at hml
  generalize Nx * 2 ^ a = X at hdm
  generalize 2 ^ (1900 + ex + 2148 - a).toNat = C at hC
  refine ⟨Nat.mul_le_mul_right _ (by omega), Nat.mul_lt_mul_of_pos_right (by omega) hC, ?_⟩
  rw [decide_eq_true_iff]
  constructor
  · intro h hc
    have := Nat.eq_of_mul_eq_mul_right hC hc
    omega
  · intro h hc
    exact h (by rw [show Q = X by omega])

/-- A number's digits and place, shifted to a length. -/
theorem len_shift {N k : Nat} (h0 : N ≠ 0) (hN : N < 2 ^ 53) (hk : 53 ≤ k) : blen N ≤ 53 ∧ 2 ^ (k - 1) ≤ N * 2 ^ (k - blen N) ∧ N * 2 ^ (k - blen N) < 2 ^ k := by
  have h1 : blen N ≤ 53 := blen_lt.2 hN
  obtain ⟨h2, h3, h4⟩ := blen_pos h0
  refine ⟨h1, ?_, ?_⟩
  · refine Nat.le_trans (Nat.le_of_eq ?_) (Nat.mul_le_mul_right _ h2)
    rw [← Nat.pow_add]; congr 1; omega
  · refine Nat.lt_of_lt_of_eq (Nat.mul_lt_mul_of_pos_right h3 (Nat.two_pow_pos _)) ?_
    rw [← Nat.pow_add]; congr 1; omega
theorem blen_quot {X D : Nat} {i j : Nat} (h1 : 2 ^ i ≤ X) (h2 : D < 2 ^ j) (h0 : 0 < D) (hij : 54 + j ≤ i + 1) : 54 ≤ blen (X / D) := by
  have : 2 ^ 53 ≤ X / D := by
    rw [Nat.le_div_iff_mul_le h0]
    refine Nat.le_trans ?_ h1
    refine Nat.le_trans (Nat.mul_le_mul_left _ (Nat.le_of_lt h2)) ?_
    rw [← Nat.pow_add]
    exact Nat.pow_le_pow_right (by decide) (by omega)
  have := blen_ge.2 this
  omega
theorem fok_mag {s : Bool} {N : Nat} {e : Int} {x : Nat} (h : FOk s N e (sv x)) : N * 2 ^ (e + 1074).toNat = mag dbl (rg dbl x) := by
  have h1 := h.hv
  rw [sv_sgn] at h1
  have h2 := congrArg Int.natAbs h1
  rw [sgn_abs, sgn_abs] at h2
  exact h2.symm
theorem fok_zero {s : Bool} {N : Nat} {e : Int} {x : Nat} (h : FOk s N e (sv x)) : N = 0 ↔ rg dbl x = 0 := by
  have h1 := fok_mag h
  refine Iff.trans ?_ (mag_zero dbl)
  rw [← h1]
  constructor
  · intro h; rw [h, Nat.zero_mul]
  · intro h
    rcases Nat.mul_eq_zero.1 h with h | h
    · exact h
    · have := Nat.two_pow_pos (e + 1074).toNat; omega
end Go.LI.Fl
namespace Go.LI.Film
open Go.Proofs.YtalpjkeiaeobdaaGreat Go Go.Proofs Go.LI Go.LI.Fl
set_option linter.unusedVariables false
set_option linter.unusedSimpArgs false
set_option maxRecDepth 100000
section
variable {R : Type}
abbrev SDiv (O : Ora R) : Prop := ∀ (x y : Nat) (down : Bool), x < 2 ^ 64 → y < 2 ^ 64 → ∀ (G : GH) (k : IV → GH → Option R), O fn_round_Div [.float .f64 x, .float .f64 y, .bool down] G k = k (.tuple [.float .f64 (divV x y down), .int .i64 (divE x y)]) G
abbrev SLeft0 (O : Ora R) : Prop := ∀ (neg : Bool) (e : Int) (more : Bool), -100000 ≤ e → e ≤ 100000 → ∀ (G : GH) (k : IV → GH → Option R),
  O fn_round_exact_left [W neg 0 e more, .int .i64 (117 : Int)] G k = k (W neg 0 (e - 117) more) G
theorem wLeft0 {F n : Nat} (hF : 1 ≤ F) (hn : 1 ≤ n) : SLeft0 (runC (R := R) Tryz.prog lo0 F n) := by
  obtain ⟨n, rfl⟩ : ∃ j, n = j + 1 := ⟨n - 1, by omega⟩
  intro neg e more he1 he2 G k
  unfold W
  rw [r_round_exact_left, e_round_exact_left]
  simp only [u_round_exact_left, L_round_exact_left_0]
  rw [stepF hF]
  simp only [l_round_exact_left_0, u_round_exact_left_0, a_round_exact_left_0N]
  rw [decide_eq_true (by decide), cond_true, show IntKind.wrap .i64 ((117 : Int) - 64) = ((53 : Nat) : Int) by decide, decide_eq_false (by omega), cond_false, show (0 % 2 ^ 64 : Nat) = 0 from rfl, shl_nat, wrapI (by omega) (by omega)]
  rfl

theorem div_body {O : Ora R} {F : Nat} (hT : STwo O) (hSp : SSplit O) (hL : SLength O) (hLe : SLeft O) (hL0 : SLeft0 O) (hD : SDiv64 O) (hTo : STo O) {x y : Nat} {down : Bool} (hx : x < 2 ^ 64) (hy : y < 2 ^ 64) (G : GH) (k : IV → GH → Option R) :
    bodyC Tryz.prog O [8, 9, 10, 777777] F Tryz.f37 [.float .f64 x, .float .f64 y, .bool down] G k = k (.tuple [.float .f64 (divV x y down), .int .i64 (divE x y)]) G := by
  rw [e_round_Div, hT x y hx hy, ivB]
  unfold divV divE divOk
  by_cases hf : (fin x && fin y) = true
  · rw [hf, Bool.not_true, cond_false, Bool.true_and, if_pos rfl]
    rw [Bool.and_eq_true] at hf
    have hfy : rg dbl y < 9218868437227405312 := of_decide_eq_true hf.2
    rw [feq_zero hy (by omega)]
    by_cases h0 : rg dbl y = 0
    · rw [decide_eq_true h0, cond_true, decide_eq_false (by simpa using h0), if_neg (by simp), if_pos h0]
    · rw [decide_eq_false h0, cond_false, decide_eq_true h0, if_pos rfl, if_neg h0]
      obtain ⟨Nx, ex, fx, hsx⟩ := hSp x hx hf.1
      obtain ⟨Ny, ey, fy, hsy⟩ := hSp y hy hf.2
      have hNy : Ny ≠ 0 := fun h => h0 ((fok_zero fy).1 h)
      have lx := hL (sg dbl x) Nx ex false (by have := fx.hN; omega)
      have ly := hL (sg dbl y) Ny ey false (by have := fy.hN; omega)
      obtain ⟨ky1, ky2, ky3⟩ := len_shift hNy fy.hN (k := 53) (by omega)
      have a1 := fx.e1
      have a2 := fx.e2
      have a3 := fy.e1
      have a4 := fy.e2
      have a5 := fx.hN
      have kx1 : blen Nx ≤ 53 := blen_lt.2 a5
      rw [hsx, W_open, hsy, W_open]
      unfold W at lx ly
      rw [lx, ivI]
      have hleft : ∀ k, O fn_round_exact_left [.agg [.bool (sg dbl x), .int .u64 ((Nx / 2 ^ 64 : Nat) : Int), .int .u64 ((Nx % 2 ^ 64 : Nat) : Int), .int .i64 ex, .bool false], .int .i64 (IntKind.wrap .i64 ((117 : Int) - ((blen Nx : Nat) : Int)))] (gfreeze G) k = k (W (sg dbl x) (Nx * 2 ^ (117 - blen Nx)) (ex - ((117 - blen Nx : Nat) : Int)) false) (gfreeze G) := by
        intro k
        rw [wrapI (by omega) (by omega), show (117 : Int) - ((blen Nx : Nat) : Int) = ((117 - blen Nx : Nat) : Int) by omega]
        by_cases hz : Nx = 0
        · subst hz
          rw [Nat.zero_mul]
          exact hL0 (sg dbl x) ex false (by omega) (by omega) (gfreeze G) k
        · obtain ⟨_, _, q3⟩ := len_shift hz a5 (k := 117) (by omega)
          exact hLe (sg dbl x) Nx (117 - blen Nx) ex false hz (by have : (2 : Nat) ^ 117 ≤ 2 ^ 128 := Nat.pow_le_pow_right (by decide) (by decide); omega) (by omega) (by omega) (gfreeze G) k
      rw [hleft, W_open, ly, ivI, wrapI (v := (53 : Int) - ((blen Ny : Nat) : Int)) (by omega) (by omega), show (53 : Int) - ((blen Ny : Nat) : Int) = ((53 - blen Ny : Nat) : Int) by omega]
      have hle := hLe (sg dbl y) Ny (53 - blen Ny) ey false hNy (by have : (2 : Nat) ^ 53 ≤ 2 ^ 128 := Nat.pow_le_pow_right (by decide) (by decide); omega) (by omega) (by omega) (gfreeze G)
      unfold W at hle
      have hop := fun f => W_open (β := R) (sg dbl y) (Ny * 2 ^ (53 - blen Ny)) (ey - ((53 - blen Ny : Nat) : Int)) false f
      unfold W at hop
      rw [hle, hop]
      -- the two divisions
      obtain ⟨X, hX⟩ : ∃ X, X = Nx * 2 ^ (117 - blen Nx) := ⟨_, rfl⟩
      obtain ⟨Y, hY⟩ : ∃ Y, Y = Ny * 2 ^ (53 - blen Ny) := ⟨_, rfl⟩
      have hX117 : X < 2 ^ 117 := by
        rw [hX]
        by_cases hz : Nx = 0
        · rw [hz, Nat.zero_mul]; exact Nat.two_pow_pos _
        · exact (len_shift hz a5 (k := 117) (by omega)).2.2
      rw [← hX, ← hY]
      rw [← hY] at ky2 ky3
      have hYs : Y % 2 ^ 64 = Y := Nat.mod_eq_of_lt (by omega)
      have hXh : X / 2 ^ 64 < 2 ^ 53 := by rw [Nat.div_lt_iff_lt_mul (Nat.two_pow_pos _), ← Nat.pow_add]; exact hX117
      have d1 := hD 0 (X / 2 ^ 64) Y ky2 ky3 (by omega) (by omega) G
      rw [Nat.zero_mul, Nat.zero_add, show ((0 : Nat) : Int) = 0 from rfl] at d1
      have hm1 : X / 2 ^ 64 % Y < Y := Nat.mod_lt _ (by omega)
      have d2 := hD (X / 2 ^ 64 % Y) (X % 2 ^ 64) Y ky2 ky3 hm1 (Nat.mod_lt _ (Nat.two_pow_pos _)) G
      have pairUU : ∀ (a b : Int) (f : Int → Int → Option R), ((ivTup 2 (.tuple [.int .u64 a, .int .u64 b])).bind fun c => (ivInt .u64 (c.getD 0 undefI)).bind fun a => (ivInt .u64 (c.getD 1 undefI)).bind fun b => f a b) = f a b := fun a b f => rfl
      rw [hYs, d1, pairUU, d2, pairUU]
      -- together
      have hdm := Nat.div_add_mod X (2 ^ 64)
      have hdq := Nat.div_add_mod (X / 2 ^ 64) Y
      obtain ⟨Q1, hQ1⟩ : ∃ Q1, Q1 = X / 2 ^ 64 / Y := ⟨_, rfl⟩
      obtain ⟨r1, hr1⟩ : ∃ r1, r1 = X / 2 ^ 64 % Y := ⟨_, rfl⟩
      have hdq2 := Nat.div_add_mod (r1 * 2 ^ 64 + X % 2 ^ 64) Y
      have hm2 : (r1 * 2 ^ 64 + X % 2 ^ 64) % Y < Y := Nat.mod_lt _ (by omega)
      obtain ⟨Q0, hQ0⟩ : ∃ Q0, Q0 = (r1 * 2 ^ 64 + X % 2 ^ 64) / Y := ⟨_, rfl⟩
      obtain ⟨r0, hr0⟩ : ∃ r0, r0 = (r1 * 2 ^ 64 + X % 2 ^ 64) % Y := ⟨_, rfl⟩
      rw [← hr1] at hm1 hdq
      rw [← hQ1] at hdq
      rw [← hQ0, ← hr0] at hdq2
      rw [← hr0] at hm2
      rw [← hr1, ← hQ1, ← hQ0, ← hr0]
      have hXl : X % 2 ^ 64 < 2 ^ 64 := Nat.mod_lt _ (Nat.two_pow_pos _)
      have hQ0lt : Q0 < 2 ^ 64 := by
        rw [hQ0, Nat.div_lt_iff_lt_mul (by omega)]
        have : (r1 + 1) * 2 ^ 64 ≤ Y * 2 ^ 64 := Nat.mul_le_mul_right _ hm1
        rw [Nat.add_mul, Nat.one_mul] at this
        rw [Nat.mul_comm (2 ^ 64)]
        omega
      have hXe : X = r0 + Y * (Q1 * 2 ^ 64 + Q0) := by
        rw [Nat.mul_add, ← Nat.mul_assoc]
        generalize Y * Q1 = A at hdq
        generalize Y * Q0 = C at hdq2
        generalize X / 2 ^ 64 = h at hdm hdq
        generalize X % 2 ^ 64 = l at hdm hdq2
        omega
      have hN : X / Y = Q1 * 2 ^ 64 + Q0 ∧ X % Y = r0 := by
        constructor
        · rw [hXe, Nat.add_mul_div_left _ _ (by omega), Nat.div_eq_of_lt hm2, Nat.zero_add]
        · rw [hXe, Nat.add_mul_mod_self_left, Nat.mod_eq_of_lt hm2]
      have hh : (X / Y) / 2 ^ 64 = Q1 ∧ (X / Y) % 2 ^ 64 = Q0 := by
        rw [hN.1]; omega
      rw [← hh.1, ← hh.2, ← hN.2]
      obtain ⟨p, s, hps, hrep⟩ := rep_div (Nx := Nx) (Ny := Ny) (a := 117 - blen Nx) (b := 53 - blen Ny) a1 a2 a3 a4 (by omega) (by omega) hNy
      rw [← hX, ← hY, fok_mag fx, fok_mag fy] at hrep
      have hto := hTo (sg dbl x != sg dbl y) (X / Y) p s ((ex - ((117 - blen Nx : Nat) : Int)) - (ey - ((53 - blen Ny : Nat) : Int))) (decide (X % Y ≠ 0)) down _ _ ?_ (by omega) (by omega) ?_ hps hrep ?_ G
      · unfold W at hto
        rw [ibn, wrapI (by omega) (by omega), show (!(sg dbl x == sg dbl y)) = (sg dbl x != sg dbl y) from rfl, hto, ivF]
        rfl
      · refine Nat.lt_of_le_of_lt (Nat.div_le_self _ _) (Nat.lt_trans hX117 ?_)
        exact Nat.pow_lt_pow_right (by decide) (by decide)
      · rw [← fok_mag fy]
        exact Nat.mul_pos (Nat.pos_of_ne_zero hNy) (Nat.two_pow_pos _)
      · intro hmo
        have hXne : Nx ≠ 0 := by
          intro hz
          rw [hz, Nat.zero_mul] at hX
          rw [hX, Nat.zero_mod] at hmo
          simp at hmo
        have := (len_shift hXne a5 (k := 117) (by omega)).2.1
        rw [← hX] at this
        exact blen_quot this ky3 (by omega) (by decide)
  · have hf' : (fin x && fin y) = false := by simpa using hf
    rw [hf', Bool.not_false, cond_true, Bool.false_and, if_neg (by simp), if_neg (by simp)]
theorem wDiv {F n : Nat} (hF : 4 ≤ F) (hn : 9 ≤ n) : SDiv (runC (R := R) Tryz.prog lo0 F n) := by
  obtain ⟨n, rfl⟩ : ∃ j, n = j + 9 := ⟨n - 9, by omega⟩
  intro x y down hx hy G k
  rw [r_round_Div]
  exact div_body (wTwo (by omega) (by omega)) (wSplit (by omega) (by omega)) (wLength (by omega) (by omega)) (wLeft (by omega) (by omega)) (wLeft0 (by omega) (by omega)) (wDiv64 hF (by omega)) (wTo (by omega) (by omega)) hx hy G k
end
end Go.LI.Film
