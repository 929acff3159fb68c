/- The reference of round: Add. -/
import Derived.Test.YtalpjkeiaeobdaaGreatRdR3
namespace Go.LI.Film
open Go.Proofs.YtalpjkeiaeobdaaGreat Go Go.Proofs Go.LI Go.LI.Fl
set_option linter.unusedVariables false
set_option linter.unusedSimpArgs false
set_option maxRecDepth 100000

/-- A number in units of the least one, rounded down or up. -/
def rndS (S : Int) (down : Bool) : Nat := sealW (decide (S < 0)) (rndR S.natAbs 1 (decide (S < 0) == down)) (decide (S < 0) == down)
theorem addR_S (x y : Nat) (down : Bool) : addR x y down = rndS (sv x + sv y) down := rfl
theorem rndS_of {n : Bool} {N : Nat} {e : Int} {m : Bool} {S : Int} (h : WOk n N e m S) (down : Bool) : sealW n (rndR S.natAbs 1 (n == down)) (n == down) = rndS S down := by
  unfold rndS
  by_cases h0 : S = 0
  · rw [h0, show (0 : Int).natAbs = 0 from rfl, rndR_zero, rndR_zero, sealW_zero, sealW_zero]
  · rw [h.hs h0]

theorem rndR_mag (r : Nat) (g : Bool) : rndR (mag dbl r) 1 g = r := by
  unfold rndR
  rw [Nat.div_one, floorR_inv, if_neg]
  · rfl
  · rintro ⟨_, h⟩
    exact h (Nat.mul_one _)
theorem mag_pos {r : Nat} (h : r ≠ 0) : 0 < mag dbl r := Nat.pos_of_ne_zero fun hc => h ((mag_zero dbl).1 hc)
theorem rndS_sv {x : Nat} (hx : x < 2 ^ 64) (hf : rg dbl x < 9218868437227405312) (down : Bool) : rndS (sv x) down = if rg dbl x = 0 then 0 else x := by
  unfold rndS
  have ha : (sv x).natAbs = mag dbl (rg dbl x) := by rw [sv_sgn, sgn_abs]
  rw [ha, rndR_mag, sealW_near]
  have hn : ∀ g, nearW (rg dbl x) g = rg dbl x := fun g => by unfold nearW; rw [if_pos hf]
  rw [hn]
  by_cases h0 : rg dbl x = 0
  · rw [if_pos h0, if_pos h0]
  · rw [if_neg h0, if_neg h0]
    have hp := mag_pos h0
    have hs : decide (sv x < 0) = sg dbl x := by
      rw [sv_sgn]
      unfold sgn
      cases sg dbl x
      · simp only [Bool.false_eq_true, if_false]; exact decide_eq_false (by omega)
      · simp only [if_true]; exact decide_eq_true (by omega)
    rw [hs, word_sr dbl (by rw [dbl_sw]; omega)]
theorem sv_zero {x : Nat} (h : rg dbl x = 0) : sv x = 0 := by
  rw [sv_sgn, h, (mag_zero dbl).2 rfl]
  unfold sgn
  split <;> rfl

theorem sub_self {x : Nat} (hx : x < 2 ^ 64) : (match dbl.sub x x with | some r => feq .f64 r 0 | none => false) = fin x := by
  unfold fin
  rcases Nat.lt_trichotomy (rg dbl x) 9218868437227405312 with h | h | h
  · obtain ⟨i, m, h1, h2⟩ := read_num h
    have hs : dbl.sub x x = some 0 := by
      unfold Ieee.Format.sub
      rw [h1]
      simp only [Ieee.Datum.opposite, Ieee.Datum.sum, Option.map_some, Ieee.Format.write]
      have ht : Ieee.signed (sg dbl x) m (-1074 + (i : Int) - min (-1074 + (i : Int)) (-1074 + (i : Int))).toNat + Ieee.signed (!(sg dbl x)) m (-1074 + (i : Int) - min (-1074 + (i : Int)) (-1074 + (i : Int))).toNat = 0 := by
        unfold Ieee.signed
        cases sg dbl x <;> simp <;> omega
      rw [ht, if_pos rfl]
      have hb : (sg dbl x && !(sg dbl x)) = false := by cases sg dbl x <;> rfl
      rw [hb]
      rw [nearest_exact dbl (r := 0) (Nat.zero_le _) (by rw [(mag_zero dbl).2 rfl]; simp)]
      rfl
    rw [hs, decide_eq_true h]
    exact (feq_zero (x := 0) (by decide) (by decide)).trans (by decide)
  · have hs : dbl.sub x x = none := by
      unfold Ieee.Format.sub
      rw [read_infty hx h]
      simp only [Ieee.Datum.opposite, Ieee.Datum.sum]
      cases sg dbl x <;> rfl
    rw [hs, decide_eq_false (by omega)]
  · have hs : dbl.sub x x = none := by
      unfold Ieee.Format.sub
      have hn : ∃ a b, dbl.read x = .nan a b := by
        unfold Ieee.Format.read
        simp only
        rw [show x % dbl.signWeight = rg dbl x from rfl, dbl_B, dbl_inf, if_neg (by omega), if_neg (by omega), if_neg (by omega)]
        exact ⟨_, _, rfl⟩
      obtain ⟨a, b, hn⟩ := hn
      rw [hn]
      rfl
    rw [hs, decide_eq_false (by omega)]

section
variable {R : Type}
abbrev SRNumber (O : Ora R) : Prop := ∀ (x : Nat), x < 2 ^ 64 → ∀ (G : GH) (k : IV → GH → Option R), O fn_ref01_Number [.float .f64 x] G k = k (.bool (fin x)) G
abbrev SRPart (O : Ora R) : Prop := ∀ (x : Nat), x < 2 ^ 64 → fin x = true → ∃ N e, FOk (sg dbl x) N e (sv x) ∧ ∀ (G : GH) (k : IV → GH → Option R), O fn_ref01_Part [.float .f64 x] G k = k (.tuple [V N e false, .bool (sg dbl x)]) G
abbrev SRAdd (O : Ora R) : Prop := ∀ (x y : Nat) (down : Bool), x < 2 ^ 64 → y < 2 ^ 64 → ∀ (G : GH) (k : IV → GH → Option R), O fn_ref01_Add [.float .f64 x, .float .f64 y, .bool down] G k = k (.tuple [.float .f64 (if (fin x && fin y) = true then addR x y down else 0), .int .i64 (if (fin x && fin y) = true then 0 else 10)]) G

theorem wRNumber {F n : Nat} (hn : 1 ≤ n) : SRNumber (runC (R := R) Tryz.prog lo0 F n) := by
  obtain ⟨n, rfl⟩ : ∃ j, n = j + 1 := ⟨n - 1, by omega⟩
  intro x hx G k
  have h := sub_self hx
  rw [r_ref01_Number, e_ref01_Number, ← h]
  rfl

theorem part_body {O : Ora R} {F : Nat} (hF : 1 ≤ F) (h1 : SBits O) {x : Nat} (hx : x < 2 ^ 64) (hf : fin x = true) : ∃ N e, FOk (sg dbl x) N e (sv x) ∧ ∀ (G : GH) (k : IV → GH → Option R), u_ref01_Part O k (L_ref01_Part_0 O F k) x G = k (.tuple [V N e false, .bool (sg dbl x)]) G := by
  obtain ⟨E, m, hm, hE, hr, q1, q2, q3⟩ := parts hx
  have hf' : rg dbl x < 9218868437227405312 := of_decide_eq_true hf
  have hE2 : E < 2047 := by omega
  have a1 : andI .u64 (x : Int) 4503599627370495 = (m : Int) := by
    have := and_low hx 52 (by omega)
    rw [q1] at this
    exact this
  have a2 : andI .u64 (shrI .u64 (x : Int) 52) 2047 = (E : Int) := by
    have := shr_nat hx 52
    rw [show (52 : Int) = ((52 : Nat) : Int) from rfl, this]
    have h := and_low (a := x / 2 ^ 52) (Nat.lt_of_le_of_lt (Nat.div_le_self _ _) hx) 11 (by omega)
    rw [q2] at h
    exact h
  have a3 : (shrI .u64 (x : Int) 63 != 0) = sg dbl x := by
    rw [show (63 : Int) = ((63 : Nat) : Int) from rfl, shr_nat hx, ibn, q3]
  have hsv : ∀ (q M : Nat), rg dbl x = q * 2 ^ 52 + M → M ≤ 2 ^ 53 → (q = 0 ∨ 2 ^ 52 ≤ M) → sv x = sgn (sg dbl x) (M * 2 ^ q) := by
    intro q M h h' h''
    rw [sv_sgn, h, mag_form h' h'']
  have start : ∀ (G : GH) (k : IV → GH → Option R), u_ref01_Part O k (L_ref01_Part_0 O F k) x G = bif decide ((E : Int) > 0) then k (.tuple [.agg [.int .u64 0, .int .u64 (orI .u64 (m : Int) 4503599627370496), .int .i64 (IntKind.wrap .i64 ((E : Int) - 1075)), .bool false], .bool (sg dbl x)]) G else k (.tuple [.agg [.int .u64 0, .int .u64 (m : Int), .int .i64 (IntKind.wrap .i64 (1 - 1075)), .bool false], .bool (sg dbl x)]) G := by
    intro G k
    simp only [u_ref01_Part]
    rw [h1 x, ivU, a1, a2, wrapI (v := (E : Int)) (by omega) (by omega)]
    simp only [L_ref01_Part_0]
    rw [stepF hF]
    simp only [l_ref01_Part_0, u_ref01_Part_0, a_ref01_Part_0N]
    rw [a3]
  by_cases h0 : E = 0
  · refine ⟨m, -1074, ⟨by omega, by omega, by omega, ?_⟩, fun G k => ?_⟩
    · rw [hsv 0 m (by rw [hr, h0]) (by omega) (.inl rfl), show ((-1074 : Int) + 1074).toNat = 0 from rfl]
    · rw [start, decide_eq_false (by omega), cond_false]
      unfold V
      rw [show m / 2 ^ 64 = 0 by omega, show m % 2 ^ 64 = m by omega]
      rfl
  · refine ⟨2 ^ 52 + m, (E : Int) - 1075, ⟨by omega, by omega, by omega, ?_⟩, fun G k => ?_⟩
    · have hq : ((E : Int) - 1075 + 1074).toNat = E - 1 := by omega
      have hq' : E = E - 1 + 1 := by omega
      rw [hsv (E - 1) (2 ^ 52 + m) (by rw [hr]; conv => lhs; rw [hq', Nat.add_mul, Nat.one_mul, Nat.add_assoc]) (by omega) (.inr (Nat.le_add_right _ _)), hq]
    · rw [start, decide_eq_true (by omega), cond_true, wrapI (v := (E : Int) - 1075) (by omega) (by omega)]
      have hor : orI .u64 (m : Int) 4503599627370496 = ((2 ^ 52 + m : Nat) : Int) := by
        have := or_nat (a := m) (b := 2 ^ 52) (by omega) (by omega)
        rw [Nat.or_comm, show (2 : Nat) ^ 52 = 1 * 2 ^ 52 from rfl, or_add hm, Nat.one_mul] at this
        exact this
      rw [hor]
      unfold V
      rw [show (2 ^ 52 + m) / 2 ^ 64 = 0 by omega, show (2 ^ 52 + m) % 2 ^ 64 = 2 ^ 52 + m by omega]
      rfl

theorem wRPart {F n : Nat} (hF : 1 ≤ F) (hn : 2 ≤ n) : SRPart (runC (R := R) Tryz.prog lo0 F n) := by
  obtain ⟨n, rfl⟩ : ∃ j, n = j + 2 := ⟨n - 2, by omega⟩
  intro x hx hf
  obtain ⟨N, e, h1, h2⟩ := part_body (O := runC (R := R) Tryz.prog lo0 F (n + 1)) hF (wBits (by omega)) hx hf
  refine ⟨N, e, h1, fun G k => ?_⟩
  rw [r_ref01_Part, e_ref01_Part]
  exact h2 G k

/-- The word of a sum, rounded. -/
theorem to_word {O : Ora R} (hTo : SRTo O) {n : Bool} {N : Nat} {e : Int} {m : Bool} {S : Int} (h : WOk n N e m S) (down : Bool) (G : GH) (k : IV → GH → Option R) :
    O fn_ref01_To [.agg [.int .u64 ((N / 2 ^ 64 : Nat) : Int), .int .u64 ((N % 2 ^ 64 : Nat) : Int), .int .i64 e, .bool m], .bool n, .bool down] G k = k (.float .f64 (rndS S down)) G := by
  have hr := rndS_of h down
  obtain ⟨h1, h2, h3, ⟨p, s, h4, h5⟩, h6, h7⟩ := h
  rw [← hr]
  exact hTo n N p s e m down _ 1 h1 h2 h3 (by omega) h4 h5 h6 G k

theorem rsum_end {O : Ora R} {F : Nat} (hF : 1 ≤ F) (hPl : SRPlus O) (hBe : SRBelow O) (hMi : SRMinus O) (hTo : SRTo O) {n n2 : Bool} {N M p s V' U : Nat} {e : Int} {more : Bool} (hps : (p : Int) - s = e + 1074) (he1 : -20000 ≤ e) (he2 : e ≤ 20000) (h : N * 2 ^ p = V' * 2 ^ s) (k : RepN M p s more U 1) (hN : 2 ^ 125 ≤ N) (hN2 : N < 2 ^ 126) (hM : M < 2 ^ 126) (hmo : more = true → M < 2 ^ 53) (down : Bool) (G : GH) (K : IV → GH → Option R) :
    a_ref01_Add_2N O K (L_ref01_Add_3 O F K) down n n2 ((N / 2 ^ 64 : Nat) : Int) ((N % 2 ^ 64 : Nat) : Int) e false ((M / 2 ^ 64 : Nat) : Int) ((M % 2 ^ 64 : Nat) : Int) e more G = K (.tuple [.float .f64 (rndS (sgn n V' + sgn n2 U) down), .int .i64 0]) G := by
  simp only [a_ref01_Add_2N]
  by_cases hs : n = n2
  · subst hs
    have hw := sum_same (n := n) hps he1 he2 h k hN hN2 hM
    have hp : ∀ (K : IV → GH → Option R), O fn_ref01_plus [.agg [.int .u64 ((N / 2 ^ 64 : Nat) : Int), .int .u64 ((N % 2 ^ 64 : Nat) : Int), .int .i64 e, .bool false], .agg [.int .u64 ((M / 2 ^ 64 : Nat) : Int), .int .u64 ((M % 2 ^ 64 : Nat) : Int), .int .i64 e, .bool more]] G K = K (V (N + M) e more) G := by
      intro K
      have := hPl N M e e false more (by omega) G K
      rw [Bool.false_or] at this
      exact this
    rw [show (n == n) = true by simp, cond_true, hp, V_open, to_word hTo hw, ivF]
  · obtain rfl : n2 = !n := by cases n <;> cases n2 <;> simp_all
    obtain ⟨c1, c2⟩ := sum_diff (n := n) hps he1 he2 h k hN hN2 hM hmo
    have hm1 : ∀ (hMN : M ≤ N) (K : IV → GH → Option R), O fn_ref01_minus [.agg [.int .u64 ((N / 2 ^ 64 : Nat) : Int), .int .u64 ((N % 2 ^ 64 : Nat) : Int), .int .i64 e, .bool false], .agg [.int .u64 ((M / 2 ^ 64 : Nat) : Int), .int .u64 ((M % 2 ^ 64 : Nat) : Int), .int .i64 e, .bool more]] G K = K (V (N - M) e false) G := fun hMN K => hMi N M e e false more hMN (by omega) G K
    have hm2 : ∀ (hNM : N ≤ M) (K : IV → GH → Option R), O fn_ref01_minus [.agg [.int .u64 ((M / 2 ^ 64 : Nat) : Int), .int .u64 ((M % 2 ^ 64 : Nat) : Int), .int .i64 e, .bool more], .agg [.int .u64 ((N / 2 ^ 64 : Nat) : Int), .int .u64 ((N % 2 ^ 64 : Nat) : Int), .int .i64 e, .bool false]] G K = K (V (M - N) e false) G := fun hNM K => hMi M N e e more false hNM (by omega) G K
    have hbe : ∀ (K : IV → GH → Option R), O fn_ref01_below [.agg [.int .u64 ((N / 2 ^ 64 : Nat) : Int), .int .u64 ((N % 2 ^ 64 : Nat) : Int), .int .i64 e, .bool false], .agg [.int .u64 ((M / 2 ^ 64 : Nat) : Int), .int .u64 ((M % 2 ^ 64 : Nat) : Int), .int .i64 e, .bool more]] G K = K (.bool (decide (N < M))) G := fun K => hBe N M e e false more G K
    rw [show (n == !n) = false by cases n <;> rfl, cond_false]
    simp only [L_ref01_Add_3]
    rw [stepF hF]
    simp only [l_ref01_Add_3, u_ref01_Add_3]
    -- behind the comparing
    have fin : ∀ (b : Bool), (b = true ↔ more = false ∧ N < M) → a_ref01_Add_3N O K (L_ref01_Add_4 O F K) down n (!n) b ((N / 2 ^ 64 : Nat) : Int) ((N % 2 ^ 64 : Nat) : Int) e false ((M / 2 ^ 64 : Nat) : Int) ((M % 2 ^ 64 : Nat) : Int) e more G = K (.tuple [.float .f64 (rndS (sgn n V' + sgn (!n) U) down), .int .i64 0]) G := by
      intro b hb
      simp only [a_ref01_Add_3N]
      cases b with
      | true =>
        obtain ⟨hmf, hlt⟩ := hb.1 rfl
        obtain ⟨_, hw⟩ := c2 (by omega)
        rw [cond_true, hm2 (by omega), V_open, to_word hTo hw, ivF]
      | false =>
        have hMN : M ≤ N := by
          cases hmm : more with
          | true => have := hmo hmm; omega
          | false =>
            rcases Nat.lt_or_ge N M with h' | h'
            · have := hb.2 ⟨hmm, h'⟩; cases this
            · exact h'
        rw [cond_false, hm1 hMN, V_open]
        simp only [L_ref01_Add_4]
        rw [stepF hF]
        simp only [l_ref01_Add_4, u_ref01_Add_4]
        cases hmm : more with
        | true =>
          subst hmm
          have hM53 := hmo rfl
          have hw := c1 (by simp only [if_true]; omega)
          simp only [if_true] at hw
          have h1 : ∀ (K : IV → GH → Option R), O fn_ref01_minus [.agg [.int .u64 (((N - M) / 2 ^ 64 : Nat) : Int), .int .u64 (((N - M) % 2 ^ 64 : Nat) : Int), .int .i64 e, .bool false], .agg [.int .u64 0, .int .u64 1, .int .i64 0, .bool false]] G K = K (V (N - M - 1) e false) G := fun K => hMi (N - M) 1 e 0 false false (by omega) (by omega) G K
          rw [cond_true, h1, V_open]
          simp only [a_ref01_Add_4N]
          rw [to_word hTo hw, ivF]
        | false =>
          subst hmm
          have hw := c1 (by simpa using hMN)
          simp only [Bool.false_eq_true, if_false, Nat.sub_zero] at hw
          rw [cond_false]
          simp only [a_ref01_Add_4N]
          rw [to_word hTo hw, ivF]
    cases hmm : more with
    | true => subst hmm; rw [Bool.not_true, cond_false]; exact fin false (by simp)
    | false =>
      subst hmm
      rw [Bool.not_false, cond_true, hbe, ivB]
      exact fin _ (by simp)
end
end Go.LI.Film
