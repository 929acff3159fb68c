/- The reference of round: Add, whole. -/
import Derived.Test.YtalpjkeiaeobdaaGreatRdR4
namespace Go.LI.Film
open Go.Proofs.YtalpjkeiaeobdaaGreat Go Go.Proofs Go.LI Go.LI.Fl
set_option linter.unusedVariables false
set_option linter.unusedSimpArgs false
set_option maxRecDepth 100000
section
variable {R : Type}

theorem rsum_ord {O : Ora R} {F : Nat} (hF : 1 ≤ F) (hL : SRLength O) (hUp : SRUp O) (hD : SRDown O) (hPl : SRPlus O) (hBe : SRBelow O) (hMi : SRMinus O) (hTo : SRTo O) {na nb : Bool} {Na Nb : Nat} {ea eb va vb : Int} (ha : FOk na Na ea va) (hb : FOk nb Nb eb vb) (ha0 : Na ≠ 0) (h0 : Nb ≠ 0) (hle : eb + (blen Nb : Nat) ≤ ea + (blen Na : Nat)) (down : Bool) (G : GH) (K : IV → GH → Option R) :
    a_ref01_Add_1N O K (L_ref01_Add_2 O F K) down na nb ((Na / 2 ^ 64 : Nat) : Int) ((Na % 2 ^ 64 : Nat) : Int) ea false ((Nb / 2 ^ 64 : Nat) : Int) ((Nb % 2 ^ 64 : Nat) : Int) eb false G = K (.tuple [.float .f64 (rndS (va + vb) down), .int .i64 0]) G := by
  have hb1 : blen Na ≤ 53 := blen_lt.2 ha.hN
  have hb2 : blen Nb ≤ 53 := blen_lt.2 hb.hN
  have hba := (blen_pos ha0)
  have hbb := (blen_pos h0)
  obtain ⟨h1, h2, h3, h4⟩ := ha
  obtain ⟨k1, k2, k3, k4⟩ := hb
  obtain ⟨j, hj⟩ : ∃ j : Nat, j = 126 - blen Na := ⟨_, rfl⟩
  obtain ⟨pa, hpa⟩ : ∃ pa : Nat, pa = (ea + 1074).toNat := ⟨_, rfl⟩
  obtain ⟨pb, hpb⟩ : ∃ pb : Nat, pb = (eb + 1074).toNat := ⟨_, rfl⟩
  rw [← hpa] at h4
  rw [← hpb] at k4
  have hNj : blen (Na * 2 ^ j) = 126 := by rw [blen_mul_pow ha0]; omega
  have hN1 : 2 ^ 125 ≤ Na * 2 ^ j := blen_ge.1 (by omega)
  have hN2 : Na * 2 ^ j < 2 ^ 126 := blen_lt.1 (by omega)
  have hV : Na * 2 ^ j * 2 ^ pa = Na * 2 ^ pa * 2 ^ j := Nat.mul_right_comm _ _ _
  have hlen : ∀ (G : GH) (k : IV → GH → Option R), O fn_ref01_Length [.agg [.int .u64 ((Na / 2 ^ 64 : Nat) : Int), .int .u64 ((Na % 2 ^ 64 : Nat) : Int), .int .i64 ea, .bool false]] G k = k (.int .i64 (blen Na : Nat)) G := fun G k => hL Na ea false (by omega) G k
  have hleft : ∀ (G : GH) (k : IV → GH → Option R), O fn_ref01_Up [.agg [.int .u64 ((Na / 2 ^ 64 : Nat) : Int), .int .u64 ((Na % 2 ^ 64 : Nat) : Int), .int .i64 ea, .bool false], .int .i64 (j : Int)] G k = k (V (Na * 2 ^ j) (ea - j) false) G := fun G k => hUp Na j ea false ha0 (by omega) (by omega) (by omega) G k
  simp only [a_ref01_Add_1N]
  rw [hlen, ivI, wrapI (v := 126 - ((blen Na : Nat) : Int)) (by omega) (by omega), show 126 - ((blen Na : Nat) : Int) = (j : Int) by omega, hleft, V_open]
  simp only [L_ref01_Add_2]
  rw [stepF hF]
  simp only [l_ref01_Add_2, u_ref01_Add_2]
  rw [h4, k4]
  by_cases hc : eb ≥ ea - j
  · obtain ⟨i, hi⟩ : ∃ i : Nat, (i : Int) = eb - (ea - j) := ⟨(eb - (ea - j)).toNat, by omega⟩
    have hMb : blen (Nb * 2 ^ i) ≤ 126 := by rw [blen_mul_pow h0]; omega
    have hM : Nb * 2 ^ i < 2 ^ 126 := blen_lt.1 hMb
    have hrep : RepN (Nb * 2 ^ i) pa j false (Nb * 2 ^ pb) 1 := rep_exact (pow_comm (by omega))
    have hlb : ∀ (G : GH) (k : IV → GH → Option R), O fn_ref01_Up [.agg [.int .u64 ((Nb / 2 ^ 64 : Nat) : Int), .int .u64 ((Nb % 2 ^ 64 : Nat) : Int), .int .i64 eb, .bool false], .int .i64 (i : Int)] G k = k (V (Nb * 2 ^ i) (ea - j) false) G := fun G k => by
      have := hUp Nb i eb false h0 (by omega) (by omega) (by omega) G k
      rw [show eb - (i : Int) = ea - j by omega] at this
      exact this
    rw [decide_eq_true hc, cond_true, wrapI (v := eb - (ea - j)) (by omega) (by omega), ← hi, hlb, V_open]
    exact rsum_end (n := na) (n2 := nb) (e := ea - j) hF hPl hBe hMi hTo (by omega) (by omega) (by omega) hV hrep hN1 hN2 hM (fun h => (by cases h)) down G K
  · obtain ⟨i, hi⟩ : ∃ i : Nat, (i : Int) = ea - j - eb := ⟨(ea - j - eb).toNat, by omega⟩
    have hM : Nb / 2 ^ i < 2 ^ 53 := Nat.lt_of_le_of_lt (Nat.div_le_self _ _) k1
    have hrep : RepN (Nb / 2 ^ i) pa j (decide (Nb % 2 ^ i ≠ 0)) (Nb * 2 ^ pb) 1 := lay_right (by omega)
    have hrb : ∀ (G : GH) (k : IV → GH → Option R), O fn_ref01_Down [.agg [.int .u64 ((Nb / 2 ^ 64 : Nat) : Int), .int .u64 ((Nb % 2 ^ 64 : Nat) : Int), .int .i64 eb, .bool false], .int .i64 (i : Int)] G k = k (V (Nb / 2 ^ i) (ea - j) (decide (Nb % 2 ^ i ≠ 0))) G := fun G k => by
      have := hD Nb (i : Int) eb false (by omega) (by omega) (by omega) (by omega) (by omega) G k
      rw [Int.toNat_natCast, Bool.false_or, show eb + (i : Int) = ea - j by omega] at this
      exact this
    rw [decide_eq_false hc, cond_false, wrapI (v := ea - j - eb) (by omega) (by omega), ← hi, hrb, V_open]
    exact rsum_end (n := na) (n2 := nb) (e := ea - j) hF hPl hBe hMi hTo (by omega) (by omega) (by omega) hV hrep hN1 hN2 (by omega) (fun _ => hM) down G K

theorem pairVB {β : Type} (N : Nat) (e : Int) (m s : Bool) (f : Int → Int → Int → Bool → Bool → Option β) :
    ((ivTup 2 (.tuple [V N e m, .bool s])).bind fun c6 => (ivAgg 4 (c6.getD 0 undefI)).bind fun c7 => (ivInt .u64 (c7.getD 0 undefI)).bind fun x8 => (ivInt .u64 (c7.getD 1 undefI)).bind fun x9 => (ivInt .i64 (c7.getD 2 undefI)).bind fun x10 => (ivBool (c7.getD 3 undefI)).bind fun x11 => (ivBool (c6.getD 1 undefI)).bind fun x12 => f x8 x9 x10 x11 x12) =
      f ((N / 2 ^ 64 : Nat) : Int) ((N % 2 ^ 64 : Nat) : Int) e m s := rfl

theorem fok_ne {n : Bool} {N x : Nat} {e : Int} (h : FOk n N e (sv x)) (h0 : rg dbl x ≠ 0) : N ≠ 0 := by
  rintro rfl
  have h1 := h.hv
  rw [Nat.zero_mul, sv_sgn] at h1
  have h2 := congrArg Int.natAbs h1
  rw [sgn_abs, sgn_abs] at h2
  have := mag_pos h0
  omega

theorem radd_body {O : Ora R} {F : Nat} (hF : 1 ≤ F) (hNum : SRNumber O) (hZr : SRZeroed O) (hPa : SRPart O) (hL : SRLength O) (hUp : SRUp O) (hD : SRDown O) (hPl : SRPlus O) (hBe : SRBelow O) (hMi : SRMinus O) (hTo : SRTo O) {x y : Nat} {down : Bool} (hx : x < 2 ^ 64) (hy : y < 2 ^ 64) (G : GH) (K : IV → GH → Option R) :
    u_ref01_Add O K (L_ref01_Add_0 O F K) x y down G = K (.tuple [.float .f64 (if (fin x && fin y) = true then addR x y down else 0), .int .i64 (if (fin x && fin y) = true then 0 else 10)]) G := by
  simp only [u_ref01_Add, L_ref01_Add_0]
  rw [stepF hF]
  simp only [l_ref01_Add_0, u_ref01_Add_0]
  rw [hNum x hx, ivB]
  have bad : a_ref01_Add_0N O K (L_ref01_Add_1 O F K) x y down true G = K (.tuple [.float .f64 0, .int .i64 10]) G := by
    simp only [a_ref01_Add_0N, cond_true]
  by_cases hfx' : fin x = false
  · rw [hfx', Bool.not_false, cond_true, Bool.false_and, if_neg (by simp), if_neg (by simp), bad]
  have hfx : fin x = true := by simpa using hfx'
  rw [hfx, Bool.not_true, cond_false, hNum y hy, ivB, Bool.true_and]
  by_cases hfy' : fin y = false
  · rw [hfy', Bool.not_false, if_neg (by simp), if_neg (by simp), bad]
  have hfy : fin y = true := by simpa using hfy'
  rw [hfy, Bool.not_true, if_pos rfl, if_pos rfl, addR_S]
  have lx : rg dbl x < 9218868437227405312 := of_decide_eq_true hfx
  have ly : rg dbl y < 9218868437227405312 := of_decide_eq_true hfy
  simp only [a_ref01_Add_0N, cond_false]
  rw [feq_zero hy (Nat.le_of_lt ly)]
  by_cases hy0 : rg dbl y = 0
  · rw [decide_eq_true hy0, cond_true, hZr x hx (Nat.le_of_lt lx), ivF, sv_zero hy0, Int.add_zero, rndS_sv hx lx]
  rw [decide_eq_false hy0, cond_false, feq_zero hx (Nat.le_of_lt lx)]
  by_cases hx0 : rg dbl x = 0
  · rw [decide_eq_true hx0, cond_true, sv_zero hx0, Int.zero_add, rndS_sv hy ly, if_neg hy0]
  rw [decide_eq_false hx0, cond_false]
  obtain ⟨Nx, ex, fx, hpx⟩ := hPa x hx hfx
  obtain ⟨Ny, ey, fy, hpy⟩ := hPa y hy hfy
  have nx := fok_ne fx hx0
  have ny := fok_ne fy hy0
  rw [hpx, pairVB, hpy, pairVB]
  simp only [L_ref01_Add_1]
  rw [stepF hF]
  simp only [l_ref01_Add_1, u_ref01_Add_1]
  have hb1 : blen Nx ≤ 53 := blen_lt.2 fx.hN
  have hb2 : blen Ny ≤ 53 := blen_lt.2 fy.hN
  have x1 := fx.e1
  have x2 := fx.e2
  have y1 := fy.e1
  have y2 := fy.e2
  have hla : ∀ (G : GH) (k : IV → GH → Option R), O fn_ref01_Length [.agg [.int .u64 ((Nx / 2 ^ 64 : Nat) : Int), .int .u64 ((Nx % 2 ^ 64 : Nat) : Int), .int .i64 ex, .bool false]] G k = k (.int .i64 (blen Nx : Nat)) G := fun G k => hL Nx ex false (by have := fx.hN; omega) G k
  have hlb : ∀ (G : GH) (k : IV → GH → Option R), O fn_ref01_Length [.agg [.int .u64 ((Ny / 2 ^ 64 : Nat) : Int), .int .u64 ((Ny % 2 ^ 64 : Nat) : Int), .int .i64 ey, .bool false]] G k = k (.int .i64 (blen Ny : Nat)) G := fun G k => hL Ny ey false (by have := fy.hN; omega) G k
  rw [hla, ivI, hlb, ivI, wrapI (v := ((blen Nx : Nat) : Int) + ex) (by omega) (by omega), wrapI (v := ((blen Ny : Nat) : Int) + ey) (by omega) (by omega)]
  by_cases hc : ((blen Nx : Nat) : Int) + ex < ((blen Ny : Nat) : Int) + ey
  · rw [decide_eq_true hc, cond_true, rsum_ord hF hL hUp hD hPl hBe hMi hTo fy fx ny nx (by omega), Int.add_comm]
  · rw [decide_eq_false hc, cond_false, rsum_ord hF hL hUp hD hPl hBe hMi hTo fx fy nx ny (by omega)]

theorem wRAdd {F n : Nat} (hF : 1100 ≤ F) (hn : 5 ≤ n) : SRAdd (runC (R := R) Tryz.prog lo0 F n) := by
  obtain ⟨n, rfl⟩ : ∃ j, n = j + 5 := ⟨n - 5, by omega⟩
  intro x y down hx hy G k
  rw [r_ref01_Add, e_ref01_Add]
  exact radd_body (by omega) (wRNumber (by omega)) (wRZeroed (by omega)) (wRPart (by omega) (by omega)) (wRLength (by omega) (by omega)) (wRUp (by omega) (by omega)) (wRDown (by omega) (by omega)) (wRPlus (by omega) (by omega)) (wRBelow (by omega)) (wRMinus (by omega)) (wRTo hF (by omega)) hx hy G k
end
end Go.LI.Film
