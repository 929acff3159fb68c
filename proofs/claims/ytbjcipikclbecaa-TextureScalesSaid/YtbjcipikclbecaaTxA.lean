/- round.Mul: the product, rounded down or up. -/
import Derived.Test.YtbjcipikclbecaaRdG2
import Derived.Test.YtbjcipikclbecaaRdPt1
namespace Go.LI.Fl
open Go Go.LI Ieee
set_option linter.unusedVariables false
set_option maxRecDepth 100000
set_option exponentiation.threshold 2500

def one74 : Nat := 2 ^ 1074
theorem one74_eq : ∃ p, p = 1074 ∧ one74 = 2 ^ p := ⟨1074, rfl, rfl⟩
theorem one74_pos : 0 < one74 := Nat.two_pow_pos _
/-- The product, rounded down or up. -/
def mulR (a b : Nat) (down : Bool) : Nat := sealW (sg dbl a != sg dbl b) (rndR (mag dbl (rg dbl a) * mag dbl (rg dbl b)) one74 ((sg dbl a != sg dbl b) == down)) ((sg dbl a != sg dbl b) == down)
def mulV (a b : Nat) (down : Bool) : Nat := if (fin a && fin b) = true then mulR a b down else 0

theorem rep_mul {Nx Ny : Nat} {ex ey : Int} (hx1 : -1074 ≤ ex) (hx2 : ex ≤ 971) (hy1 : -1074 ≤ ey) (hy2 : ey ≤ 971) :
    ∃ p s : Nat, (p : Int) - s = (ex + ey) + 1074 ∧ RepN (Nx * Ny) p s false (Nx * 2 ^ (ex + 1074).toNat * (Ny * 2 ^ (ey + 1074).toNat)) one74 := by
  obtain ⟨t, ht, h1⟩ := one74_eq
  rw [h1]
  refine ⟨(1100 + (ex + ey + 1074)).toNat, 1100, by omega, ?_⟩
  have e : Nx * Ny * 2 ^ (1100 + (ex + ey + 1074)).toNat * 2 ^ t = Nx * 2 ^ (ex + 1074).toNat * (Ny * 2 ^ (ey + 1074).toNat) * 2 ^ 1100 := by
    have h2 : 2 ^ (1100 + (ex + ey + 1074)).toNat * 2 ^ t = 2 ^ (ex + 1074).toNat * 2 ^ (ey + 1074).toNat * 2 ^ 1100 := by
      rw [← Nat.pow_add, ← Nat.pow_add, ← Nat.pow_add]
      congr 1
      omega
    calc Nx * Ny * 2 ^ (1100 + (ex + ey + 1074)).toNat * 2 ^ t = Nx * Ny * (2 ^ (1100 + (ex + ey + 1074)).toNat * 2 ^ t) := by ac_rfl
      _ = Nx * Ny * (2 ^ (ex + 1074).toNat * 2 ^ (ey + 1074).toNat * 2 ^ 1100) := by rw [h2]
      _ = _ := by ac_rfl
  refine ⟨by rw [e]; exact Nat.le_refl _, ?_, ?_⟩
  · rw [← e]
    exact Nat.mul_lt_mul_of_pos_right (Nat.mul_lt_mul_of_pos_right (by omega) (Nat.two_pow_pos _)) (Nat.two_pow_pos _)
  · rw [e]; simp

theorem num_seal (n : Bool) (r : Nat) (g : Bool) : num (sealW n r g) := by
  have hw : ∀ r', r' ≤ 9218868437227405312 → num (dbl.word n r') := by
    intro r' h
    have hlt : r' < dbl.signWeight := by rw [dbl_sw]; omega
    refine ⟨?_, by rw [rg_word dbl hlt]; exact h⟩
    have := (word_split dbl (neg := n) hlt).2.2
    rw [dbl_sw] at this
    omega
  have hle : (if r < 9218868437227405312 then r else if g then 9218868437227405312 else 9218868437227405311) ≤ 9218868437227405312 := by
    split
    · omega
    · split <;> omega
  unfold sealW
  generalize (if r < 9218868437227405312 then r else if g then 9218868437227405312 else 9218868437227405311) = r' at hle
  by_cases h0 : r' = 0
  · simp only [h0, if_true]
    exact ⟨by decide, by decide +kernel⟩
  · simp only [if_neg h0]
    exact hw _ hle
theorem mulR_num (a b : Nat) (d : Bool) : num (mulR a b d) := num_seal _ _ _
theorem num_nil : num 0 := ⟨by decide, by decide +kernel⟩
theorem mulV_num (a b : Nat) (d : Bool) : num (mulV a b d) := by
  unfold mulV; split
  · exact mulR_num a b d
  · exact num_nil

/-- 64 times 64 bits by halves. -/
theorem halves {A B C D : Nat} (P : Nat) (hP : P = 4294967296) : A + (B + D / P) / P + ((B + D / P) % P + C) / P = (A * P * P + (B + C) * P + D) / (P * P) := by
  subst hP
  omega
end Go.LI.Fl

namespace Go.LI.Film
open Go.Proofs.Ytbjcipikclbecaa Go Go.Proofs Go.LI Go.LI.Fl
set_option linter.unusedVariables false
set_option maxRecDepth 100000
section
variable {R : Type} {O : Ora R}
abbrev SMul64 (O : Ora R) : Prop := ∀ (x y : Nat), x < 2 ^ 53 → y < 2 ^ 53 → ∀ (G : GH) (k : IV → GH → Option R), O fn_bits_Mul64 [.int .u64 (x : Int), .int .u64 (y : Int)] G k = k (.tuple [.int .u64 ((x * y / 2 ^ 64 : Nat) : Int), .int .u64 ((x * y % 2 ^ 64 : Nat) : Int)]) G
theorem wMul64 {F n : Nat} (hn : 1 ≤ n) : SMul64 (runC (R := R) Try.prog lo0 F n) := by
  obtain ⟨n, rfl⟩ : ∃ j, n = j + 1 := ⟨n - 1, by omega⟩
  intro x y hx hy G k
  rw [r_bits_Mul64, e_bits_Mul64]
  have s0 : shrI .u64 (x : Int) (32 : Int) = ((x / 2 ^ 32 : Nat) : Int) := shr_nat (by omega) 32
  have s1 : shrI .u64 (y : Int) (32 : Int) = ((y / 2 ^ 32 : Nat) : Int) := shr_nat (by omega) 32
  have a0 : andI .u64 (x : Int) (4294967295 : Int) = ((x % 2 ^ 32 : Nat) : Int) := and_low (by omega) 32 (by decide)
  have a1 : andI .u64 (y : Int) (4294967295 : Int) = ((y % 2 ^ 32 : Nat) : Int) := and_low (by omega) 32 (by decide)
  have lx : x / 2 ^ 32 < 2 ^ 21 := by omega
  have ly : y / 2 ^ 32 < 2 ^ 21 := by omega
  have mx : x % 2 ^ 32 < 2 ^ 32 := Nat.mod_lt _ (by decide)
  have my : y % 2 ^ 32 < 2 ^ 32 := Nat.mod_lt _ (by decide)
  have dx : x = x / 2 ^ 32 * 2 ^ 32 + x % 2 ^ 32 := by omega
  have dy : y = y / 2 ^ 32 * 2 ^ 32 + y % 2 ^ 32 := by omega
  rw [s0, s1, a0, a1]
  have exy : x * y = (x / 2 ^ 32) * (y / 2 ^ 32) * 4294967296 * 4294967296 + ((x / 2 ^ 32) * (y % 2 ^ 32) + (x % 2 ^ 32) * (y / 2 ^ 32)) * 4294967296 + (x % 2 ^ 32) * (y % 2 ^ 32) := by
    conv => lhs; rw [dx, dy]
    rw [show (2 : Nat) ^ 32 = 4294967296 from rfl]
    generalize x / 4294967296 = p
    generalize x % 4294967296 = q
    generalize y / 4294967296 = r
    generalize y % 4294967296 = t
    simp only [Nat.add_mul, Nat.mul_add]
    have h1 : p * 4294967296 * (r * 4294967296) = p * r * 4294967296 * 4294967296 := by ac_rfl
    have h2 : q * (r * 4294967296) = q * r * 4294967296 := by ac_rfl
    have h3 : p * 4294967296 * t = p * t * 4294967296 := by ac_rfl
    omega
  have b1 : (x / 2 ^ 32) * (y / 2 ^ 32) ≤ 2 ^ 21 * 2 ^ 21 := Nat.mul_le_mul (by omega) (by omega)
  have b2 : (x / 2 ^ 32) * (y % 2 ^ 32) ≤ 2 ^ 21 * 2 ^ 32 := Nat.mul_le_mul (by omega) (by omega)
  have b3 : (x % 2 ^ 32) * (y / 2 ^ 32) ≤ 2 ^ 32 * 2 ^ 21 := Nat.mul_le_mul (by omega) (by omega)
  have b4 : (x % 2 ^ 32) * (y % 2 ^ 32) ≤ (2 ^ 32 - 1) * (2 ^ 32 - 1) := Nat.mul_le_mul (by omega) (by omega)
  generalize eA : (x / 2 ^ 32) * (y / 2 ^ 32) = A at exy b1
  generalize eB : (x / 2 ^ 32) * (y % 2 ^ 32) = B at exy b2
  generalize eC : (x % 2 ^ 32) * (y / 2 ^ 32) = C at exy b3
  generalize eD : (x % 2 ^ 32) * (y % 2 ^ 32) = D at exy b4
  have cA : ((x / 2 ^ 32 : Nat) : Int) * ((y / 2 ^ 32 : Nat) : Int) = (A : Int) := by rw [← eA]; exact (Int.natCast_mul _ _).symm
  have cB : ((x / 2 ^ 32 : Nat) : Int) * ((y % 2 ^ 32 : Nat) : Int) = (B : Int) := by rw [← eB]; exact (Int.natCast_mul _ _).symm
  have cC : ((x % 2 ^ 32 : Nat) : Int) * ((y / 2 ^ 32 : Nat) : Int) = (C : Int) := by rw [← eC]; exact (Int.natCast_mul _ _).symm
  have cD : ((x % 2 ^ 32 : Nat) : Int) * ((y % 2 ^ 32 : Nat) : Int) = (D : Int) := by rw [← eD]; exact (Int.natCast_mul _ _).symm
  have cX : (x : Int) * (y : Int) = ((x * y : Nat) : Int) := (Int.natCast_mul _ _).symm
  have ad : ∀ a b : Nat, (a : Int) + (b : Int) = ((a + b : Nat) : Int) := fun a b => (Int.natCast_add a b).symm
  rw [cA, cB, cC, cD, cX, wrapU_small (n := A) (by omega), wrapU_small (n := B) (by omega), wrapU_small (n := C) (by omega), wrapU_small (n := D) (by omega), wrapU]
  have sD : shrI .u64 (D : Int) (32 : Int) = ((D / 2 ^ 32 : Nat) : Int) := shr_nat (by omega) 32
  rw [sD, ad, wrapU_small (n := B + D / 2 ^ 32) (by omega)]
  have sT : shrI .u64 ((B + D / 2 ^ 32 : Nat) : Int) (32 : Int) = (((B + D / 2 ^ 32) / 2 ^ 32 : Nat) : Int) := shr_nat (by omega) 32
  have aT : andI .u64 ((B + D / 2 ^ 32 : Nat) : Int) (4294967295 : Int) = (((B + D / 2 ^ 32) % 2 ^ 32 : Nat) : Int) := and_low (by omega) 32 (by decide)
  rw [sT, aT, ad, ad, wrapU_small (n := (B + D / 2 ^ 32) % 2 ^ 32 + C) (by omega), wrapU_small (n := A + (B + D / 2 ^ 32) / 2 ^ 32) (by omega)]
  have sU : shrI .u64 (((B + D / 2 ^ 32) % 2 ^ 32 + C : Nat) : Int) (32 : Int) = ((((B + D / 2 ^ 32) % 2 ^ 32 + C) / 2 ^ 32 : Nat) : Int) := shr_nat (by omega) 32
  rw [sU, ad, wrapU_small (n := A + (B + D / 2 ^ 32) / 2 ^ 32 + ((B + D / 2 ^ 32) % 2 ^ 32 + C) / 2 ^ 32) (by omega)]
  have hh := halves (A := A) (B := B) (C := C) (D := D) 4294967296 rfl
  have e32 : (2 : Nat) ^ 32 = 4294967296 := rfl
  have e64 : (2 : Nat) ^ 64 = 4294967296 * 4294967296 := rfl
  rw [e32, hh, exy, e64]

abbrev SMul (O : Ora R) : Prop := ∀ (x y : Nat) (down : Bool), x < 2 ^ 64 → y < 2 ^ 64 → ∀ (G : GH) (k : IV → GH → Option R), O fn_round_Mul [.float .f64 x, .float .f64 y, .bool down] G k = k (.tuple [.float .f64 (mulV x y down), .int .i64 (if (fin x && fin y) = true then 0 else 10)]) G
theorem mul_body {F : Nat} (hT : STwo O) (hSp : SSplit O) (hM : SMul64 O) (hTo : STo O) {x y : Nat} {down : Bool} (hx : x < 2 ^ 64) (hy : y < 2 ^ 64) (G : GH) (k : IV → GH → Option R) :
    bodyC Try.prog O [8, 9, 777777] F Try.f60 [.float .f64 x, .float .f64 y, .bool down] G k = k (.tuple [.float .f64 (mulV x y down), .int .i64 (if (fin x && fin y) = true then 0 else 10)]) G := by
  rw [e_round_Mul, hT x y hx hy, ivB]
  by_cases hf : (fin x && fin y) = true
  · unfold mulV
    rw [hf, Bool.not_true, cond_false, if_pos rfl, if_pos rfl]
    rw [Bool.and_eq_true] at hf
    obtain ⟨Nx, ex, fx, hsx⟩ := hSp x hx hf.1
    obtain ⟨Ny, ey, fy, hsy⟩ := hSp y hy hf.2
    have hNx := fx.hN
    have hNy := fy.hN
    have hx1 := fx.e1
    have hx2 := fx.e2
    have hy1 := fy.e1
    have hy2 := fy.e2
    rw [hsx, W_open, hsy, W_open]
    have lx : ((Nx % 2 ^ 64 : Nat) : Int) = (Nx : Int) := by rw [Nat.mod_eq_of_lt (by omega)]
    have ly : ((Ny % 2 ^ 64 : Nat) : Int) = (Ny : Int) := by rw [Nat.mod_eq_of_lt (by omega)]
    rw [lx, ly, hM Nx Ny hNx hNy]
    have t2 : ∀ (a b : IV), ivTup 2 (.tuple [a, b]) = some [a, b] := fun _ _ => rfl
    rw [t2, Option.bind_some]
    simp only [List.getD_cons_zero, List.getD_cons_succ, ivU]
    have we : IntKind.wrap .i64 (ex + ey) = ex + ey := wrapI (by omega) (by omega)
    rw [we]
    obtain ⟨p, s, h4, h5⟩ := rep_mul (Nx := Nx) (Ny := Ny) hx1 hx2 hy1 hy2
    have hprod : Nx * Ny < 2 ^ 128 := by
      have : Nx * Ny ≤ 2 ^ 53 * 2 ^ 53 := Nat.mul_le_mul (by omega) (by omega)
      have e : (2 : Nat) ^ 53 * 2 ^ 53 < 2 ^ 128 := by decide
      omega
    have hto := hTo (sg dbl x != sg dbl y) (Nx * Ny) p s (ex + ey) false down _ one74 hprod (by omega) (by omega) one74_pos h4 h5 (by intro h; cases h) G
    have sb : (!(sg dbl x == sg dbl y)) = (sg dbl x != sg dbl y) := rfl
    unfold W at hto
    rw [sb, hto, ivF]
    have vx : Nx * 2 ^ (ex + 1074).toNat = mag dbl (rg dbl x) := by
      have := congrArg Int.natAbs fx.hv
      rw [sgn_abs, sv_sgn, sgn_abs] at this
      exact this.symm
    have vy : Ny * 2 ^ (ey + 1074).toNat = mag dbl (rg dbl y) := by
      have := congrArg Int.natAbs fy.hv
      rw [sgn_abs, sv_sgn, sgn_abs] at this
      exact this.symm
    rw [vx, vy]
    rfl
  · have hf' : (fin x && fin y) = false := by simpa using hf
    unfold mulV
    rw [hf', Bool.not_false, cond_true, if_neg (by simp), if_neg (by simp)]
theorem wMul {F n : Nat} (hF : 1 ≤ F) (hn : 9 ≤ n) : SMul (runC (R := R) Try.prog lo0 F n) := by
  obtain ⟨n, rfl⟩ : ∃ j, n = j + 9 := ⟨n - 9, by omega⟩
  intro x y down hx hy G k
  have e : fn_round_Mul = 60 := rfl
  rw [e, r_round_Mul]
  exact mul_body (wTwo hF (by omega)) (wSplit hF (by omega)) (wMul64 (by omega)) (wTo hF (by omega)) hx hy G k
end
end Go.LI.Film
