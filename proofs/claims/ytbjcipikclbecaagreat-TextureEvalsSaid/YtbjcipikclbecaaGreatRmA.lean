/- The reference of round: Times, Mul. -/
import Derived.Test.YtbjcipikclbecaaGreatRdPo
import Derived.Test.YtbjcipikclbecaaGreatRdG3
import Derived.Test.YtbjcipikclbecaaGreatTxA
set_option linter.unusedVariables false
set_option linter.unusedSimpArgs false
set_option maxRecDepth 100000
namespace Go.LI.Film
open Go.Proofs.YtbjcipikclbecaaGreat Go Go.Proofs Go.LI Go.LI.Fl
section
variable {R : Type} {O : Ora R}
abbrev zHt (O : Ora R) : Prop := ∀ (x y : Nat), x < 2 ^ 53 → y < 2 ^ 53 → ∀ (G : GH) (k : IV → GH → Option R), O ziy [uL (x : Int), uL (y : Int)] G k = k (.tuple [uL ((x * y / 2 ^ 64 : Nat) : Int), uL ((x * y % 2 ^ 64 : Nat) : Int)]) G
theorem zIh {F n : Nat} (hn : 1 ≤ n) : zHt (runC (R := R) Tryz.prog lo0 F n) := by
  obtain ⟨n, rfl⟩ : ∃ j, n = j + 1 := ⟨n - 1, by omega⟩
  intro x y hx hy G k
  rw [show ziy = 70 from rfl, zwA, zv5]
  have s0 : zeg .u64 (x : Int) (32 : Int) = ((x / 2 ^ 32 : Nat) : Int) := zao (by omega) 32
  have s1 : zeg .u64 (y : Int) (32 : Int) = ((y / 2 ^ 32 : Nat) : Int) := zao (by omega) 32
  have a0 : ziI .u64 (x : Int) (4294967295 : Int) = ((x % 2 ^ 32 : Nat) : Int) := zia (by omega) 32 (by decide)
  have a1 : ziI .u64 (y : Int) (4294967295 : Int) = ((y % 2 ^ 32 : Nat) : Int) := zia (by omega) 32 (by decide)
  have lx : x / 2 ^ 32 < 2 ^ 21 := by omega
  have ly : y / 2 ^ 32 < 2 ^ 21 := by omega
  have mx : x % 2 ^ 32 < 2 ^ 32 := Nat.mod_lt _ (by decide)
  have my : y % 2 ^ 32 < 2 ^ 32 := Nat.mod_lt _ (by decide)
  have dx : x = x / 2 ^ 32 * 2 ^ 32 + x % 2 ^ 32 := by omega
  have dy : y = y / 2 ^ 32 * 2 ^ 32 + y % 2 ^ 32 := by omega
  rw [s0, s1, a0, a1]
  have exy : x * y = (x / 2 ^ 32) * (y / 2 ^ 32) * 4294967296 * 4294967296 + ((x / 2 ^ 32) * (y % 2 ^ 32) + (x % 2 ^ 32) * (y / 2 ^ 32)) * 4294967296 + (x % 2 ^ 32) * (y % 2 ^ 32) := by
    conv => lhs; rw [dx, dy]
    rw [show (2 : Nat) ^ 32 = 4294967296 from rfl]
    generalize x / 4294967296 = p
    generalize x % 4294967296 = q
    generalize y / 4294967296 = r
    generalize y % 4294967296 = t
    simp only [Nat.add_mul, Nat.mul_add]
    have h1 : p * 4294967296 * (r * 4294967296) = p * r * 4294967296 * 4294967296 := by ac_rfl
    have h2 : q * (r * 4294967296) = q * r * 4294967296 := by ac_rfl
    have h3 : p * 4294967296 * t = p * t * 4294967296 := by ac_rfl
    omega
  have b1 : (x / 2 ^ 32) * (y / 2 ^ 32) ≤ 2 ^ 21 * 2 ^ 21 := Nat.mul_le_mul (by omega) (by omega)
  have b2 : (x / 2 ^ 32) * (y % 2 ^ 32) ≤ 2 ^ 21 * 2 ^ 32 := Nat.mul_le_mul (by omega) (by omega)
  have b3 : (x % 2 ^ 32) * (y / 2 ^ 32) ≤ 2 ^ 32 * 2 ^ 21 := Nat.mul_le_mul (by omega) (by omega)
  have b4 : (x % 2 ^ 32) * (y % 2 ^ 32) ≤ (2 ^ 32 - 1) * (2 ^ 32 - 1) := Nat.mul_le_mul (by omega) (by omega)
  generalize eA : (x / 2 ^ 32) * (y / 2 ^ 32) = A at exy b1
  generalize eB : (x / 2 ^ 32) * (y % 2 ^ 32) = B at exy b2
  generalize eC : (x % 2 ^ 32) * (y / 2 ^ 32) = C at exy b3
  generalize eD : (x % 2 ^ 32) * (y % 2 ^ 32) = D at exy b4
  have cA : ((x / 2 ^ 32 : Nat) : Int) * ((y / 2 ^ 32 : Nat) : Int) = (A : Int) := by rw [← eA]; exact (Int.natCast_mul _ _).symm
  have cB : ((x / 2 ^ 32 : Nat) : Int) * ((y % 2 ^ 32 : Nat) : Int) = (B : Int) := by rw [← eB]; exact (Int.natCast_mul _ _).symm
  have cC : ((x % 2 ^ 32 : Nat) : Int) * ((y / 2 ^ 32 : Nat) : Int) = (C : Int) := by rw [← eC]; exact (Int.natCast_mul _ _).symm
  have cD : ((x % 2 ^ 32 : Nat) : Int) * ((y % 2 ^ 32 : Nat) : Int) = (D : Int) := by rw [← eD]; exact (Int.natCast_mul _ _).symm
  have cX : (x : Int) * (y : Int) = ((x * y : Nat) : Int) := (Int.natCast_mul _ _).symm
  have ad : ∀ a b : Nat, (a : Int) + (b : Int) = ((a + b : Nat) : Int) := fun a b => (Int.natCast_add a b).symm
  rw [cA, cB, cC, cD, cX, zu (n := A) (by omega), zu (n := B) (by omega), zu (n := C) (by omega), zu (n := D) (by omega), zyG]
  have sD : zeg .u64 (D : Int) (32 : Int) = ((D / 2 ^ 32 : Nat) : Int) := zao (by omega) 32
  rw [sD, ad, zu (n := B + D / 2 ^ 32) (by omega)]
  have sT : zeg .u64 ((B + D / 2 ^ 32 : Nat) : Int) (32 : Int) = (((B + D / 2 ^ 32) / 2 ^ 32 : Nat) : Int) := zao (by omega) 32
  have aT : ziI .u64 ((B + D / 2 ^ 32 : Nat) : Int) (4294967295 : Int) = (((B + D / 2 ^ 32) % 2 ^ 32 : Nat) : Int) := zia (by omega) 32 (by decide)
  rw [sT, aT, ad, ad, zu (n := C + (B + D / 2 ^ 32) % 2 ^ 32) (by omega), zu (n := A + (B + D / 2 ^ 32) / 2 ^ 32) (by omega)]
  rw [Nat.add_comm C]
  have sU : zeg .u64 (((B + D / 2 ^ 32) % 2 ^ 32 + C : Nat) : Int) (32 : Int) = ((((B + D / 2 ^ 32) % 2 ^ 32 + C) / 2 ^ 32 : Nat) : Int) := zao (by omega) 32
  rw [sU, ad, zu (n := A + (B + D / 2 ^ 32) / 2 ^ 32 + ((B + D / 2 ^ 32) % 2 ^ 32 + C) / 2 ^ 32) (by omega)]
  have hh := zEZ (A := A) (B := B) (C := C) (D := D) 4294967296 rfl
  have e32 : (2 : Nat) ^ 32 = 4294967296 := rfl
  have e64 : (2 : Nat) ^ 64 = 4294967296 * 4294967296 := rfl
  rw [e32, hh, exy, e64]
abbrev zGY (O : Ora R) : Prop := ∀ (x y : Nat) (down : Bool), x < 2 ^ 64 → y < 2 ^ 64 → ∀ (G : GH) (k : IV → GH → Option R), O zhY [fL x, fL y, .bool down] G k = k (.tuple [fL (zqm x y down), iL (if (fin x && fin y) = true then 0 else 10)]) G
theorem zDg {F : Nat} (hF : 1 ≤ F) (hN : zwp O) (hSp : zDq O) (hM : zHt O) (hTo : zGL O) {x y : Nat} {down : Bool} (hx : x < 2 ^ 64) (hy : y < 2 ^ 64) (G : GH) (k : IV → GH → Option R) :
    zf Tryz.prog O zBd F Tryz.f51 [fL x, fL y, .bool down] G k = k (.tuple [fL (zqm x y down), iL (if (fin x && fin y) = true then 0 else 10)]) G := by
  obtain ⟨F, rfl⟩ : ∃ F', F = F' + 1 := ⟨F - 1, by omega⟩
  have ent : zf Tryz.prog O zBd (F + 1) Tryz.f51 [fL x, fL y, .bool down] G k = zfx O k x y down (!(fin x && fin y)) G := by
    rw [zzu]
    unfold zns zg4
    rw [zaV]
    unfold zgM zjD
    rw [hN x hx, ivB]
    cases fin x with
    | false => rfl
    | true => rw [Bool.not_true, cond_false, hN y hy, ivB, Bool.true_and]
  rw [ent]
  by_cases hf : (fin x && fin y) = true
  · unfold zqm
    rw [hf, Bool.not_true, if_pos rfl, if_pos rfl]
    unfold zfx
    rw [cond_false]
    rw [Bool.and_eq_true] at hf
    obtain ⟨Nx, ex, fx, hsx⟩ := hSp x hx hf.1
    obtain ⟨Ny, ey, fy, hsy⟩ := hSp y hy hf.2
    have hNx := fx.hN
    have hNy := fy.hN
    have hx1 := fx.e1
    have hx2 := fx.e2
    have hy1 := fy.e1
    have hy2 := fy.e2
    have t2 : ∀ (a b : IV), zY 2 (.tuple [a, b]) = some [a, b] := fun _ _ => rfl
    rw [hsx, t2, Option.bind_some]
    simp only [List.getD_cons_zero, List.getD_cons_succ]
    rw [znr, ivB, hsy, t2, Option.bind_some]
    simp only [List.getD_cons_zero, List.getD_cons_succ]
    rw [znr, ivB]
    have lx : ((Nx % 2 ^ 64 : Nat) : Int) = (Nx : Int) := by rw [Nat.mod_eq_of_lt (by omega)]
    have ly : ((Ny % 2 ^ 64 : Nat) : Int) = (Ny : Int) := by rw [Nat.mod_eq_of_lt (by omega)]
    rw [lx, ly, hM Nx Ny hNx hNy, t2, Option.bind_some]
    simp only [List.getD_cons_zero, List.getD_cons_succ, ivU]
    have we : IntKind.wrap .i64 (ex + ey) = ex + ey := zF (by omega) (by omega)
    rw [we]
    obtain ⟨p, s, h4, h5⟩ := zB3 (Nx := Nx) (Ny := Ny) hx1 hx2 hy1 hy2
    have hprod : Nx * Ny < 2 ^ 128 := by
      have : Nx * Ny ≤ 2 ^ 53 * 2 ^ 53 := Nat.mul_le_mul (by omega) (by omega)
      have e : (2 : Nat) ^ 53 * 2 ^ 53 < 2 ^ 128 := by decide
      omega
    have hto := hTo (sg dbl x != sg dbl y) (Nx * Ny) p s (ex + ey) false down _ zt4 hprod (by omega) (by omega) zyb h4 h5 (by intro h; cases h) G
    have sb : (!(sg dbl x == sg dbl y)) = (sg dbl x != sg dbl y) := rfl
    unfold V at hto
    rw [sb, hto, ivF]
    have vx : Nx * 2 ^ (ex + 1074).toNat = mag dbl (rg dbl x) := by
      have := congrArg Int.natAbs fx.hv
      rw [zcx, zgm, zcx] at this
      exact this.symm
    have vy : Ny * 2 ^ (ey + 1074).toNat = mag dbl (rg dbl y) := by
      have := congrArg Int.natAbs fy.hv
      rw [zcx, zgm, zcx] at this
      exact this.symm
    rw [vx, vy]
    rfl
  · have hf' : (fin x && fin y) = false := by simpa using hf
    unfold zqm
    rw [hf', Bool.not_false, if_neg (by simp), if_neg (by simp)]
    rfl
theorem zIg {F n : Nat} (hF : 1100 ≤ F) (hn : 5 ≤ n) : zGY (runC (R := R) Tryz.prog lo0 F n) := by
  obtain ⟨n, rfl⟩ : ∃ j, n = j + 1 := ⟨n - 1, by omega⟩
  intro x y down hx hy G k
  rw [show zhY = 51 from rfl, zzk]
  exact zDg (by omega) (zzD (by omega)) (zEK (by omega) (by omega)) (zIh (by omega)) (zI5 hF (by omega)) hx hy G k
end
end Go.LI.Film
