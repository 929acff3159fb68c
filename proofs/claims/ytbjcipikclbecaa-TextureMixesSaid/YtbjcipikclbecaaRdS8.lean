/- Package round: words apart, numbers, Add. -/
import Derived.Test.YtbjcipikclbecaaRdS7
namespace Go.LI.Film
open Go.Proofs.Ytbjcipikclbecaa Go Go.Proofs Go.LI Go.LI.Fl
set_option linter.unusedVariables false
set_option linter.unusedSimpArgs false
set_option maxRecDepth 100000
section
variable {R : Type}
abbrev SSplit (O : Ora R) : Prop := ∀ (x : Nat), x < 2 ^ 64 → fin x = true → ∃ N e, FOk (sg dbl x) N e (sv x) ∧ ∀ (G : GH) (k : IV → GH → Option R), O fn_round_split [.float .f64 x] G k = k (W (sg dbl x) N e false) G
abbrev SNumber (O : Ora R) : Prop := ∀ (x : Nat), x < 2 ^ 64 → ∀ (G : GH) (k : IV → GH → Option R), O fn_round_Number [.float .f64 x] G k = k (.bool (fin x)) G
abbrev STwo (O : Ora R) : Prop := ∀ (x y : Nat), x < 2 ^ 64 → y < 2 ^ 64 → ∀ (G : GH) (k : IV → GH → Option R), O fn_round_two [.float .f64 x, .float .f64 y] G k = k (.bool (fin x && fin y)) G
abbrev SAdd (O : Ora R) : Prop := ∀ (x y : Nat) (down : Bool), x < 2 ^ 64 → y < 2 ^ 64 → ∀ (G : GH) (k : IV → GH → Option R), O fn_round_Add [.float .f64 x, .float .f64 y, .bool down] G k = k (.tuple [.float .f64 (if (fin x && fin y) = true then addR x y down else 0), .int .i64 (if (fin x && fin y) = true then 0 else 10)]) G

theorem wNumber {F n : Nat} (hF : 1 ≤ F) (hn : 4 ≤ n) : SNumber (runC (R := R) Try.prog lo0 F n) := by
  obtain ⟨n, rfl⟩ : ∃ j, n = j + 4 := ⟨n - 4, by omega⟩
  have h1 := wIsNaN (R := R) (F := F) (n := n + 3) (by omega)
  have h2 := wIsInf (R := R) (F := F) (n := n + 3) hF (by omega)
  intro x hx G k
  rw [r_round_Number, e_round_Number, h1 x hx, ivB]
  unfold fin
  by_cases h : rg dbl x ≤ 9218868437227405312
  · rw [decide_eq_false (by simpa using h), Bool.not_false, cond_true, h2 x hx, ivB]
    by_cases h3 : rg dbl x = 9218868437227405312
    · rw [decide_eq_true h3, decide_eq_false (by omega)]; rfl
    · rw [decide_eq_false h3, decide_eq_true (by omega)]; rfl
  · rw [decide_eq_true h, Bool.not_true, cond_false, decide_eq_false (by omega)]

theorem wTwo {F n : Nat} (hF : 1 ≤ F) (hn : 5 ≤ n) : STwo (runC (R := R) Try.prog lo0 F n) := by
  obtain ⟨n, rfl⟩ : ∃ j, n = j + 5 := ⟨n - 5, by omega⟩
  have h1 := wNumber (R := R) (F := F) (n := n + 4) hF (by omega)
  intro x y hx hy G k
  rw [r_round_two, e_round_two, h1 x hx, ivB]
  cases fin x with
  | true => rw [cond_true, h1 y hy, ivB, Bool.true_and]
  | false => rw [cond_false, Bool.false_and]

theorem parts {x : Nat} (hx : x < 2 ^ 64) : ∃ E m : Nat, m < 2 ^ 52 ∧ E < 2048 ∧ rg dbl x = E * 2 ^ 52 + m ∧ x % 2 ^ 52 = m ∧ x / 2 ^ 52 % 2 ^ 11 = E ∧ sg dbl x = decide (x / 2 ^ 63 ≠ 0) := by
  refine ⟨x / 2 ^ 52 % 2 ^ 11, x % 2 ^ 52, by omega, by omega, ?_, rfl, rfl, ?_⟩
  · unfold rg; rw [dbl_sw]; omega
  · unfold sg; rw [dbl_sw]
    by_cases h : x / 2 ^ 63 = 0
    · have : x / 9223372036854775808 = 0 := h
      simp [this]
    · have h1 : x / 9223372036854775808 = 1 := by omega
      have h2 : x / 2 ^ 63 = 1 := by omega
      simp [h1]

theorem wSplit {F n : Nat} (hF : 1 ≤ F) (hn : 2 ≤ n) : SSplit (runC (R := R) Try.prog lo0 F n) := by
  obtain ⟨n, rfl⟩ : ∃ j, n = j + 2 := ⟨n - 2, by omega⟩
  have h1 := wBits (R := R) (F := F) (n := n + 1) (by omega)
  intro x hx hf
  obtain ⟨E, m, hm, hE, hr, q1, q2, q3⟩ := parts hx
  have hf' : rg dbl x < 9218868437227405312 := of_decide_eq_true hf
  have hE2 : E < 2047 := by omega
  have a1 : andI .u64 (x : Int) 4503599627370495 = (m : Int) := by
    have := and_low hx 52 (by omega)
    rw [q1] at this
    exact this
  have a2 : andI .u64 (shrI .u64 (x : Int) 52) 2047 = (E : Int) := by
    have := shr_nat hx 52
    rw [show (52 : Int) = ((52 : Nat) : Int) from rfl, this]
    have h := and_low (a := x / 2 ^ 52) (Nat.lt_of_le_of_lt (Nat.div_le_self _ _) hx) 11 (by omega)
    rw [q2] at h
    exact h
  have a3 : (shrI .u64 (x : Int) 63 != 0) = sg dbl x := by
    rw [show (63 : Int) = ((63 : Nat) : Int) from rfl, shr_nat hx, ibn, q3]
  have hsv : ∀ (q M : Nat), rg dbl x = q * 2 ^ 52 + M → M ≤ 2 ^ 53 → (q = 0 ∨ 2 ^ 52 ≤ M) → sv x = sgn (sg dbl x) (M * 2 ^ q) := by
    intro q M h h' h''
    rw [sv_sgn, h, mag_form h' h'']
  have start : ∀ (G : GH) (k : IV → GH → Option R), runC Try.prog lo0 F (n + 2) fn_round_split [.float .f64 x] G k = bif ((E : Int) == (0 : Int)) then k (.agg [.bool (sg dbl x), .int .u64 0, .int .u64 (m : Int), .int .i64 (-1074), .bool false]) G else k (.agg [.bool (sg dbl x), .int .u64 0, .int .u64 (orI .u64 (m : Int) 4503599627370496), .int .i64 (IntKind.wrap .i64 ((E : Int) - 1075)), .bool false]) G := by
    intro G k
    rw [r_round_split, e_round_split, h1 x, ivU, a1, a2, a3, wrapI (v := (E : Int)) (by omega) (by omega)]
  by_cases h0 : E = 0
  · refine ⟨m, -1074, ⟨by omega, by omega, by omega, ?_⟩, fun G k => ?_⟩
    · rw [hsv 0 m (by rw [hr, h0]) (by omega) (.inl rfl), show ((-1074 : Int) + 1074).toNat = 0 from rfl]
    · rw [start, ib, decide_eq_true h0, cond_true]
      unfold W
      rw [show m / 2 ^ 64 = 0 by omega, show m % 2 ^ 64 = m by omega]
      rfl
  · refine ⟨2 ^ 52 + m, (E : Int) - 1075, ⟨by omega, by omega, by omega, ?_⟩, fun G k => ?_⟩
    · have hq : ((E : Int) - 1075 + 1074).toNat = E - 1 := by omega
      have hq' : E = E - 1 + 1 := by omega
      rw [hsv (E - 1) (2 ^ 52 + m) (by rw [hr]; conv => lhs; rw [hq', Nat.add_mul, Nat.one_mul, Nat.add_assoc]) (by omega) (.inr (Nat.le_add_right _ _)), hq]
    · rw [start, ib, decide_eq_false h0, cond_false, wrapI (v := (E : Int) - 1075) (by omega) (by omega)]
      have hor : orI .u64 (m : Int) 4503599627370496 = ((2 ^ 52 + m : Nat) : Int) := by
        have := or_nat (a := m) (b := 2 ^ 52) (by omega) (by omega)
        rw [Nat.or_comm, show (2 : Nat) ^ 52 = 1 * 2 ^ 52 from rfl, or_add hm, Nat.one_mul] at this
        exact this
      rw [hor]
      unfold W
      rw [show (2 ^ 52 + m) / 2 ^ 64 = 0 by omega, show (2 ^ 52 + m) % 2 ^ 64 = 2 ^ 52 + m by omega]
      rfl

theorem floorR_zero : floorR 0 = 0 := rfl
theorem rndR_zero (g : Bool) : rndR 0 1 g = 0 := by
  unfold rndR
  rw [Nat.div_one, floorR_zero, if_neg]
  rintro ⟨_, h⟩
  exact h (by rw [Nat.mul_one]; rfl)
theorem sealW_zero (n g : Bool) : sealW n 0 g = 0 := rfl

theorem add_body {O : Ora R} {F : Nat} (hT : STwo O) (hSp : SSplit O) (hS : SSum O) (hTo : STo O) {x y : Nat} {down : Bool} (hx : x < 2 ^ 64) (hy : y < 2 ^ 64) (G : GH) (k : IV → GH → Option R) :
    bodyC Try.prog O [777777] F Try.f74 [.float .f64 x, .float .f64 y, .bool down] G k = k (.tuple [.float .f64 (if (fin x && fin y) = true then addR x y down else 0), .int .i64 (if (fin x && fin y) = true then 0 else 10)]) G := by
  rw [e_round_Add, hT x y hx hy, ivB]
  by_cases hf : (fin x && fin y) = true
  · rw [hf, Bool.not_true, cond_false, if_pos rfl, if_pos rfl]
    rw [Bool.and_eq_true] at hf
    obtain ⟨Nx, ex, fx, hsx⟩ := hSp x hx hf.1
    obtain ⟨Ny, ey, fy, hsy⟩ := hSp y hy hf.2
    rw [hsx, W_open, hsy, W_open]
    obtain ⟨n, N, e, m, hw, hsum⟩ := hS _ _ _ _ _ _ _ _ fx fy
    have hsum' := hsum
    unfold W at hsum'
    rw [hsum']
    have hop := fun f => W_open (β := R) n N e m f
    unfold W at hop
    rw [hop]
    obtain ⟨h1, h2, h3, ⟨p, s, h4, h5⟩, h6, h7⟩ := hw
    have hto := hTo n N p s e m down _ 1 h1 h2 h3 (by omega) h4 h5 h6 G
    unfold W at hto
    rw [hto, ivF]
    congr 4
    unfold addR
    by_cases h0 : sv x + sv y = 0
    · rw [h0, show (0 : Int).natAbs = 0 from rfl, rndR_zero, rndR_zero, sealW_zero, sealW_zero]
    · rw [h7 h0]
  · have hf' : (fin x && fin y) = false := by simpa using hf
    rw [hf', Bool.not_false, cond_true, if_neg (by simp), if_neg (by simp)]

theorem wAdd {F n : Nat} (hF : 1 ≤ F) (hn : 9 ≤ n) : SAdd (runC (R := R) Try.prog lo0 F n) := by
  obtain ⟨n, rfl⟩ : ∃ j, n = j + 9 := ⟨n - 9, by omega⟩
  intro x y down hx hy G k
  rw [r_round_Add]
  exact add_body (wTwo hF (by omega)) (wSplit hF (by omega)) (wSum hF (by omega)) (wTo hF (by omega)) hx hy G k
end
end Go.LI.Film
