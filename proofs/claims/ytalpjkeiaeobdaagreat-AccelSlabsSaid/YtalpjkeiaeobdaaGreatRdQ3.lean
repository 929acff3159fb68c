/- The reference's quotient. -/
import Derived.Test.YtalpjkeiaeobdaaGreatRdQ2
import Derived.Test.YtalpjkeiaeobdaaGreatRdR5
import Derived.Test.YtalpjkeiaeobdaaGreatRdPo
namespace Go.LI.Film
open Go.Proofs.YtalpjkeiaeobdaaGreat Go Go.Proofs Go.LI Go.LI.Fl
set_option linter.unusedVariables false
set_option linter.unusedSimpArgs false
set_option maxRecDepth 100000
section
variable {R : Type}
abbrev SRDiv (O : Ora R) : Prop := ∀ (x y : Nat) (down : Bool), x < 2 ^ 64 → y < 2 ^ 64 → ∀ (G : GH) (k : IV → GH → Option R), O fn_ref01_Div [.float .f64 x, .float .f64 y, .bool down] G k = k (.tuple [.float .f64 (divV x y down), .int .i64 (divE x y)]) G

theorem half_quot {out rest a y : Nat} (h : 2 * (out * y) + rest = a * 2 ^ 60) (hr : rest < 2 * y) (he : rest % 2 = 0) : out = a * 2 ^ 59 / y ∧ rest = 2 * (a * 2 ^ 59 % y) := by
  obtain ⟨t, rfl⟩ : ∃ t, rest = 2 * t := ⟨rest / 2, by omega⟩
  have e : a * 2 ^ 59 = t + y * out := by rw [Nat.mul_comm y]; omega
  rw [e, Nat.add_mul_div_left _ _ (by omega), Nat.add_mul_mod_self_left, Nat.div_eq_of_lt (by omega), Nat.mod_eq_of_lt (by omega)]
  omega
theorem rdiv_loop {O : Ora R} {F : Nat} (hF : 1 ≤ F) (K0 : Bool → Bool → Bool → Int → Int → Int → Int → Int → Bool → Int → Int → Int → Bool → GH → Option R) {a y : Nat} (ha : a < 2 ^ 53) (y1 : 2 ^ 52 ≤ y) (y2 : y < 2 ^ 53) (s2 s9 s11 : Bool) (c0 c1 c2 : Int) (c3 : Bool) (d0 d2 : Int) (d3 : Bool) (G : GH) :
    ∀ (r i j out rest : Nat), i + r = 60 → r < j → 2 * (out * y) + rest = a * 2 ^ i → rest < 2 * y → (i ≠ 0 → rest % 2 = 0) →
      l_ref01_Div_1 O F K0 j s2 s9 s11 (rest : Int) (out : Int) (i : Int) c0 c1 c2 c3 d0 (y : Int) d2 d3 G = K0 s2 s9 s11 ((2 * (a * 2 ^ 59 % y) : Nat) : Int) ((a * 2 ^ 59 / y : Nat) : Int) c0 c1 c2 c3 d0 (y : Int) d2 d3 G := by
  intro r
  induction r with
  | zero =>
    intro i j out rest hi hj he hr hp
    obtain ⟨j, rfl⟩ : ∃ j', j = j' + 1 := ⟨j - 1, by omega⟩
    have hi60 : i = 60 := by omega
    subst hi60
    obtain ⟨q1, q2⟩ := half_quot he hr (hp (by decide))
    simp only [l_ref01_Div_1, u_ref01_Div_1]
    rw [decide_eq_false (by omega), cond_false, ← q1, ← q2]
  | succ r ih =>
    intro i j out rest hi hj he hr hp
    obtain ⟨j, rfl⟩ : ∃ j', j = j' + 1 := ⟨j - 1, by omega⟩
    have hout : out < 2 ^ i := by
      have h1 : out * 2 ^ 52 ≤ out * y := Nat.mul_le_mul_left _ y1
      have h2 : a * 2 ^ i < 2 ^ 53 * 2 ^ i := Nat.mul_lt_mul_of_pos_right ha (Nat.two_pow_pos _)
      generalize 2 ^ i = T at he h2 ⊢
      generalize a * T = Z at he h2
      omega
    have hT : 2 ^ i ≤ 2 ^ 59 := Nat.pow_le_pow_right (by decide) (by omega)
    have hsh : shlI .u64 (out : Int) (1 : Int) = ((out * 2 ^ 1 : Nat) : Int) := by
      have := shl_nat out 1
      rw [Nat.mod_eq_of_lt (by omega)] at this
      exact this
    have hpow : a * 2 ^ (i + 1) = 2 * (a * 2 ^ i) := by rw [Nat.pow_succ]; ac_rfl
    simp only [l_ref01_Div_1, u_ref01_Div_1, L_ref01_Div_2]
    rw [decide_eq_true (by omega), cond_true, stepF hF]
    simp only [l_ref01_Div_2, u_ref01_Div_2]
    rw [hsh]
    have sh2 : ∀ z : Nat, z < 2 ^ 63 → shlI .u64 (z : Int) (1 : Int) = ((2 * z : Nat) : Int) := by
      intro z hz
      have := shl_nat z 1
      rw [Nat.mod_eq_of_lt (by omega)] at this
      rw [Nat.mul_comm]
      exact this
    by_cases hc : y ≤ rest
    · have hw : IntKind.wrap .u64 ((rest : Int) - (y : Int)) = ((rest - y : Nat) : Int) := by
        rw [show (rest : Int) - (y : Int) = ((rest - y : Nat) : Int) by omega, wrapU_small (by omega)]
      have hor : orI .u64 ((out * 2 ^ 1 : Nat) : Int) (1 : Int) = ((out * 2 ^ 1 + 1 : Nat) : Int) := or_nat_add (k := 1) (b := 1) (by omega) (by decide) (by decide)
      rw [decide_eq_true (by omega), cond_true, hw, hor]
      simp only [a_ref01_Div_2N]
      rw [sh2 _ (by omega), wrapI (by omega) (by omega), show (i : Int) + 1 = ((i + 1 : Nat) : Int) by omega]
      refine ih (i + 1) j (out * 2 ^ 1 + 1) (2 * (rest - y)) (by omega) (by omega) ?_ (by omega) (fun _ => by omega)
      rw [hpow, ← he, Nat.add_mul, Nat.one_mul, show out * 2 ^ 1 * y = 2 * (out * y) by rw [Nat.pow_one]; ac_rfl]
      omega
    · rw [decide_eq_false (by omega), cond_false]
      simp only [a_ref01_Div_2N]
      rw [sh2 _ (by omega), wrapI (by omega) (by omega), show (i : Int) + 1 = ((i + 1 : Nat) : Int) by omega]
      refine ih (i + 1) j (out * 2 ^ 1) (2 * rest) (by omega) (by omega) ?_ (by omega) (fun _ => by omega)
      rw [hpow, ← he, show out * 2 ^ 1 * y = 2 * (out * y) by rw [Nat.pow_one]; ac_rfl]
      omega

theorem VV_open {β : Type} (N : Nat) (e : Int) (m n : Bool) (f : Int → Int → Int → Bool → Bool → Option β) :
    ((ivTup 2 (.tuple [V N e m, .bool n])).bind fun c3 => (ivAgg 4 (c3.getD 0 undefI)).bind fun c4 => (ivInt .u64 (c4.getD 0 undefI)).bind fun x5 => (ivInt .u64 (c4.getD 1 undefI)).bind fun x6 => (ivInt .i64 (c4.getD 2 undefI)).bind fun x7 => (ivBool (c4.getD 3 undefI)).bind fun x8 => (ivBool (c3.getD 1 undefI)).bind fun x9 => f x5 x6 x7 x8 x9) =
      f ((N / 2 ^ 64 : Nat) : Int) ((N % 2 ^ 64 : Nat) : Int) e m n := rfl
theorem divR_zero {x y : Nat} {down : Bool} (h : rg dbl x = 0) : divR x y down = 0 := by
  unfold divR
  rw [h, (mag_zero dbl).2 rfl, Nat.zero_mul, rndR_nil]
  rfl
theorem rdiv_body {O : Ora R} {F : Nat} (hF : 100 ≤ F) (hN : SRNumber O) (hPt : SRPart O) (hL : SRLength O) (hU : SRUp O) (hTo : SRTo O) {x y : Nat} {down : Bool} (hx : x < 2 ^ 64) (hy : y < 2 ^ 64) (G : GH) (k : IV → GH → Option R) :
    u_ref01_Div O k (L_ref01_Div_0 O F k) x y down G = k (.tuple [.float .f64 (divV x y down), .int .i64 (divE x y)]) G := by
  have bad : ∀ b, b = (!(fin x && fin y)) → a_ref01_Div_0N O k (L_ref01_Div_1 O F k) x y down b G = k (.tuple [.float .f64 (divV x y down), .int .i64 (divE x y)]) G := by
    intro b hb
    simp only [a_ref01_Div_0N]
    rw [hb]
    unfold divV divE divOk
    by_cases hf : (fin x && fin y) = true
    · rw [hf, Bool.not_true, cond_false, Bool.true_and, if_pos rfl]
      rw [Bool.and_eq_true] at hf
      have hfx : rg dbl x < 9218868437227405312 := of_decide_eq_true hf.1
      have hfy : rg dbl y < 9218868437227405312 := of_decide_eq_true hf.2
      rw [feq_zero hy (by omega), feq_zero hx (by omega)]
      by_cases h0 : rg dbl y = 0
      · rw [decide_eq_true h0, cond_true, decide_eq_false (by simpa using h0), if_neg (by simp), if_pos h0]
      rw [decide_eq_false h0, cond_false, decide_eq_true h0, if_pos rfl, if_neg h0]
      by_cases hx0 : rg dbl x = 0
      · rw [decide_eq_true hx0, cond_true, divR_zero hx0]
      rw [decide_eq_false hx0, cond_false]
      obtain ⟨Nx, ex, fx, hsx⟩ := hPt x hx hf.1
      obtain ⟨Ny, ey, fy, hsy⟩ := hPt y hy hf.2
      have hNx : Nx ≠ 0 := fun h => hx0 ((fok_zero fx).1 h)
      have hNy : Ny ≠ 0 := fun h => h0 ((fok_zero fy).1 h)
      obtain ⟨kx1, kx2, kx3⟩ := len_shift hNx fx.hN (k := 53) (by omega)
      obtain ⟨ky1, ky2, ky3⟩ := len_shift hNy fy.hN (k := 53) (by omega)
      have a1 := fx.e1
      have a2 := fx.e2
      have a3 := fy.e1
      have a4 := fy.e2
      have p128 : (2 : Nat) ^ 53 ≤ 2 ^ 128 := Nat.pow_le_pow_right (by decide) (by decide)
      have lx := hL Nx ex false (by have := fx.hN; omega)
      have ly := hL Ny ey false (by have := fy.hN; omega)
      have ux := hU Nx (53 - blen Nx) ex false hNx (by omega) (by omega) (by omega) (gfreeze G)
      have uy := hU Ny (53 - blen Ny) ey false hNy (by omega) (by omega) (by omega) (gfreeze G)
      have ox := fun f => V_open (β := R) (Nx * 2 ^ (53 - blen Nx)) (ex - ((53 - blen Nx : Nat) : Int)) false f
      have oy := fun f => V_open (β := R) (Ny * 2 ^ (53 - blen Ny)) (ey - ((53 - blen Ny : Nat) : Int)) false f
      rw [hsx, VV_open, hsy, VV_open]
      unfold V at lx ly ux uy ox oy
      rw [lx, ivI, wrapI (v := (53 : Int) - ((blen Nx : Nat) : Int)) (by omega) (by omega), show (53 : Int) - ((blen Nx : Nat) : Int) = ((53 - blen Nx : Nat) : Int) by omega, ux, ox, ly, ivI, wrapI (v := (53 : Int) - ((blen Ny : Nat) : Int)) (by omega) (by omega), show (53 : Int) - ((blen Ny : Nat) : Int) = ((53 - blen Ny : Nat) : Int) by omega, uy, oy]
      obtain ⟨X, hX⟩ : ∃ X, X = Nx * 2 ^ (53 - blen Nx) := ⟨_, rfl⟩
      obtain ⟨Y, hY⟩ : ∃ Y, Y = Ny * 2 ^ (53 - blen Ny) := ⟨_, rfl⟩
      rw [← hX] at kx2 kx3
      rw [← hY] at ky2 ky3
      rw [← hX, ← hY, show X % 2 ^ 64 = X from Nat.mod_eq_of_lt (by omega), show Y % 2 ^ 64 = Y from Nat.mod_eq_of_lt (by omega)]
      simp only [L_ref01_Div_1]
      have hl := rdiv_loop (O := O) (F := F) (by omega) (a_ref01_Div_10 O k) kx3 ky2 ky3 down (sg dbl x) (sg dbl y) ((X / 2 ^ 64 : Nat) : Int) (X : Int) (ex - ((53 - blen Nx : Nat) : Int)) false ((Y / 2 ^ 64 : Nat) : Int) (ey - ((53 - blen Ny : Nat) : Int)) false G 60 0 F 0 X (by omega) (by omega) (by rw [Nat.zero_mul, Nat.mul_zero, Nat.pow_zero, Nat.mul_one, Nat.zero_add]) (by omega) (fun h => absurd rfl h)
      refine hl.trans ?_
      simp only [a_ref01_Div_10]
      obtain ⟨p, s, hps, hrep⟩ := rep_div (Nx := Nx) (Ny := Ny) (a := 53 - blen Nx + 59) (b := 53 - blen Ny) a1 a2 a3 a4 (by omega) (by omega) hNy
      rw [Nat.pow_add, ← Nat.mul_assoc, ← hX, ← hY, fok_mag fx, fok_mag fy] at hrep
      have hq60 : X * 2 ^ 59 / Y < 2 ^ 60 := by
        rw [Nat.div_lt_iff_lt_mul (by omega)]
        omega
      have hto := hTo (sg dbl x != sg dbl y) (X * 2 ^ 59 / Y) p s ((ex - ((53 - blen Nx : Nat) : Int)) - (ey - ((53 - blen Ny : Nat) : Int)) - 59) (decide (X * 2 ^ 59 % Y ≠ 0)) down _ _ ?_ (by omega) (by omega) ?_ (by rw [hps]; omega) hrep ?_ G
      · unfold V at hto
        rw [show X * 2 ^ 59 / Y / 2 ^ 64 = 0 from Nat.div_eq_of_lt (by omega), show X * 2 ^ 59 / Y % 2 ^ 64 = X * 2 ^ 59 / Y from Nat.mod_eq_of_lt (by omega), show ((0 : Nat) : Int) = 0 from rfl] at hto
        have hm : (((2 * (X * 2 ^ 59 % Y) : Nat) : Int) != 0) = decide (X * 2 ^ 59 % Y ≠ 0) := by
          rw [ibn]
          exact decide_eq_decide.2 (by omega)
        rw [hm, wrapI (v := (ex - ((53 - blen Nx : Nat) : Int)) - (ey - ((53 - blen Ny : Nat) : Int))) (by omega) (by omega), wrapI (by omega) (by omega), show (!(sg dbl x == sg dbl y)) = (sg dbl x != sg dbl y) from rfl, hto, ivF]
        rfl
      · exact Nat.lt_trans hq60 (Nat.pow_lt_pow_right (by decide) (by decide))
      · rw [← fok_mag fy]
        exact Nat.mul_pos (Nat.pos_of_ne_zero hNy) (Nat.two_pow_pos _)
      · intro _
        refine blen_quot (i := 111) (j := 53) ?_ ky3 (by omega) (by decide)
        rw [show (2 : Nat) ^ 111 = 2 ^ 52 * 2 ^ 59 from rfl]
        exact Nat.mul_le_mul_right _ kx2
    · have hf' : (fin x && fin y) = false := by simpa using hf
      rw [hf', Bool.not_false, cond_true, Bool.false_and, if_neg (by simp), if_neg (by simp)]
  simp only [u_ref01_Div, L_ref01_Div_0]
  rw [stepF (by omega)]
  simp only [l_ref01_Div_0, u_ref01_Div_0]
  rw [hN x hx, ivB]
  cases hfx : fin x with
  | false => rw [Bool.not_false, cond_true]; exact bad true (by rw [hfx]; rfl)
  | true => rw [Bool.not_true, cond_false, hN y hy, ivB]; exact bad _ (by rw [hfx, Bool.true_and])
theorem wRDiv {F n : Nat} (hF : 1100 ≤ F) (hn : 6 ≤ n) : SRDiv (runC (R := R) Tryz.prog lo0 F n) := by
  obtain ⟨n, rfl⟩ : ∃ j, n = j + 6 := ⟨n - 6, by omega⟩
  intro x y down hx hy G k
  have h := rdiv_body (O := runC (R := R) Tryz.prog lo0 F (n + 5)) (F := F) (by omega) (wRNumber (by omega)) (wRPart (by omega) (by omega)) (wRLength (by omega) (by omega)) (wRUp (by omega) (by omega)) (wRTo (by omega) (by omega)) hx hy (down := down) G k
  rw [r_ref01_Div, e_ref01_Div]
  exact h
end
end Go.LI.Film
