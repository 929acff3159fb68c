/- Package round: the number at or next to a number of 128 bits. -/
import Derived.Test.YtbjcipikclbecaaRdS4
import Derived.Test.YtbjcipikclbecaaRdT
namespace Go.LI.Film
open Go.Proofs.Ytbjcipikclbecaa Go Go.Proofs Go.LI Go.LI.Fl
set_option linter.unusedVariables false
set_option linter.unusedSimpArgs false
set_option maxRecDepth 100000
section
variable {R : Type}
abbrev SPlain (O : Ora R) : Prop := ∀ (x : Nat), num x → ∀ (G : GH) (k : IV → GH → Option R), O fn_round_plain [.float .f64 x] G k = k (.float .f64 (if rg dbl x = 0 then 0 else x)) G
abbrev STo (O : Ora R) : Prop := ∀ (neg : Bool) (N p s : Nat) (e : Int) (more down : Bool) (A B : Nat), N < 2 ^ 128 → -20000 ≤ e → e ≤ 20000 → 0 < B → (p : Int) - s = e + 1074 → RepN N p s more A B → (more = true → 54 ≤ blen N) → ∀ (G : GH) (k : IV → GH → Option R),
  O fn_round_exact_to [W neg N e more, .bool down] G k = k (.float .f64 (sealW neg (rndR A B (neg == down)) (neg == down))) G

theorem wPlain {F n : Nat} (hn : 1 ≤ n) : SPlain (runC (R := R) Try.prog lo0 F n) := by
  obtain ⟨n, rfl⟩ : ∃ j, n = j + 1 := ⟨n - 1, by omega⟩
  intro x hx G k
  rw [r_round_plain, e_round_plain]
  rw [show FloatKind.f64.format = dbl from rfl, add_zero' hx.1 hx.2, Option.bind_some]

theorem W_open {β : Type} (neg : Bool) (N : Nat) (e : Int) (more : Bool) (f : Bool → Int → Int → Int → Bool → Option β) :
    ((ivAgg 5 (W neg N e more)).bind fun c3 => (ivBool (c3.getD 0 undefI)).bind fun x4 => (ivInt .u64 (c3.getD 1 undefI)).bind fun x5 => (ivInt .u64 (c3.getD 2 undefI)).bind fun x6 => (ivInt .i64 (c3.getD 3 undefI)).bind fun x7 => (ivBool (c3.getD 4 undefI)).bind fun x8 => f x4 x5 x6 x7 x8) =
      f neg ((N / 2 ^ 64 : Nat) : Int) ((N % 2 ^ 64 : Nat) : Int) e more := rfl

theorem negW {r : Nat} (h : r < 2 ^ 63) : Op.negFloat .f64 r = dbl.word true r := by
  have := negFloat_word (k := .f64) (s := false) (r := r) (by rw [show FloatKind.f64.format = dbl from rfl, dbl_sw]; exact h)
  exact this

/-- The end: what is infinite, the sign. -/
theorem to_end {O : Ora R} {F : Nat} (hF : 1 ≤ F) (hI : SIsInf O) (hP : SPlain O) (neg grow : Bool) (r : Nat) (b1 b2 b3 : Int) (b4 : Bool) (G : GH) (k : IV → GH → Option R) :
    L_round_exact_to_3 O F k grow (min r 9218868437227405312) neg b1 b2 b3 b4 G = k (.float .f64 (sealW neg r grow)) G := by
  simp only [L_round_exact_to_3]
  rw [stepF hF]
  simp only [l_round_exact_to_3, u_round_exact_to_3]
  have hr := rg_small (r := min r 9218868437227405312) (by omega)
  rw [hI _ (by omega), ivB, hr.1]
  have fin : ∀ (f : Nat), f ≤ 9218868437227405312 → (f = if r < 9218868437227405312 then r else if grow then 9218868437227405312 else 9218868437227405311) →
      a_round_exact_to_3N O k (L_round_exact_to_4 O F k) f neg b1 b2 b3 b4 G = k (.float .f64 (sealW neg r grow)) G := by
    intro f hf hfe
    simp only [a_round_exact_to_3N, L_round_exact_to_4]
    rw [stepF hF]
    simp only [l_round_exact_to_4, u_round_exact_to_4, a_round_exact_to_4N]
    have hseal : sealW neg r grow = if f = 0 then 0 else dbl.word neg f := by unfold sealW; rw [← hfe]
    have hfr := rg_small (r := f) (by omega)
    cases neg with
    | false =>
      rw [cond_false, hP _ ⟨by omega, by omega⟩, ivF, hseal, hfr.1]
      rfl
    | true =>
      have hw : rg dbl (dbl.word true f) = f := rg_word dbl (by rw [dbl_sw]; omega)
      have hlt : dbl.word true f < 2 ^ 64 := by
        unfold Ieee.Format.word
        rw [dbl_sw]
        simp only [if_true]
        omega
      rw [cond_true, negW (by omega), hP _ ⟨hlt, by rw [hw]; omega⟩, ivF, hseal, hw]
  by_cases hi : r < 9218868437227405312
  · rw [decide_eq_false (by omega), cond_false]
    exact fin _ (by omega) (by rw [if_pos hi]; omega)
  · rw [decide_eq_true (by omega), cond_true]
    cases grow with
    | true => rw [Bool.not_true, cond_false]; exact fin _ (by omega) (by rw [if_neg hi]; simp; omega)
    | false => rw [Bool.not_false, cond_true]; exact fin _ (by omega) (by rw [if_neg hi]; simp)

theorem to_body {O : Ora R} {F : Nat} (hF : 1 ≤ F) (hLen : SLength O) (hR : SRight O) (hLd : SLdexp O) (hI : SIsInf O) (hP : SPlain O) {neg more down : Bool} {N p s A B : Nat} {e : Int} (hN : N < 2 ^ 128) (he1 : -20000 ≤ e) (he2 : e ≤ 20000) (hB : 0 < B) (hps : (p : Int) - s = e + 1074) (hrep : RepN N p s more A B) (hmore : more = true → 54 ≤ blen N) (G : GH) (k : IV → GH → Option R) :
    u_round_exact_to O k (L_round_exact_to_0 O F k) neg ((N / 2 ^ 64 : Nat) : Int) ((N % 2 ^ 64 : Nat) : Int) e more down G = k (.float .f64 (sealW neg (rndR A B (neg == down)) (neg == down))) G := by
  simp only [u_round_exact_to]
  have hL := hLen neg N e more hN (gfreeze G)
  unfold W at hL
  rw [hL, ivI]
  have hb : blen N ≤ 128 := blen_lt.2 hN
  rw [wrapI (v := -1074 - e) (by omega) (by omega), wrapI (v := ((blen N : Nat) : Int) - 53) (by omega) (by omega)]
  generalize hg : (neg == down) = grow
  -- behind the shift
  have fin : ∀ (n : Nat) (M : Nat) (mo : Bool), M = N / 2 ^ n → mo = (more || decide (N % 2 ^ n ≠ 0)) → M < 2 ^ 53 → 0 ≤ e + n + 1074 → ((e + n + 1074 = 0 ∨ 2 ^ 52 ≤ M) ∨ mo = false) → n ≤ 40000 →
      a_round_exact_to_0N O k (L_round_exact_to_1 O F k) grow neg ((M / 2 ^ 64 : Nat) : Int) ((M % 2 ^ 64 : Nat) : Int) (e + n) mo G = k (.float .f64 (sealW neg (rndR A B grow) grow)) G := by
    intro n M mo hM hmo hM53 hq hc hn
    obtain ⟨t, ht⟩ : ∃ t : Nat, (t : Int) = e + n + 1074 := ⟨(e + n + 1074).toNat, by omega⟩
    have hsh := hrep.shift hB n
    rw [← hM, ← hmo] at hsh
    have hcan : RepN M t 0 mo A B := by
      refine RepN.cancel (s := s) ?_
      rw [show t + s = p + n by omega]
      exact hsh
    have hround := rndR_of hB hcan hM53 (hc.imp (fun h => h.imp (fun h => by omega) id) id) grow
    simp only [a_round_exact_to_0N, L_round_exact_to_1]
    rw [stepF hF]
    simp only [l_round_exact_to_1, u_round_exact_to_1, L_round_exact_to_2]
    rw [stepF hF]
    simp only [l_round_exact_to_2, u_round_exact_to_2]
    have hlo : M % 2 ^ 64 = M := Nat.mod_eq_of_lt (by omega)
    rw [hlo]
    have go : ∀ (b : Bool), (b = true ↔ mo = true ∧ grow = true) →
        a_round_exact_to_2N O (a_round_exact_to_1N O k (L_round_exact_to_3 O F k)) grow (M : Int) b neg ((M / 2 ^ 64 : Nat) : Int) (M : Int) (e + n) mo G = k (.float .f64 (sealW neg (rndR A B grow) grow)) G := by
      intro b hbb
      have fin2 : ∀ (m : Nat), m ≤ 2 ^ 53 → m = M + (if mo = true ∧ grow = true then 1 else 0) → a_round_exact_to_1N O k (L_round_exact_to_3 O F k) grow (m : Int) neg ((M / 2 ^ 64 : Nat) : Int) (M : Int) (e + n) mo G = k (.float .f64 (sealW neg (rndR A B grow) grow)) G := by
        intro m hm1 hm2
        simp only [a_round_exact_to_1N]
        rw [show e + (n : Int) = (t : Int) - 1074 by omega, hLd m t hm1 (by omega), ivF, hround, ← hm2]
        exact to_end hF hI hP neg grow _ _ _ _ _ G k
      simp only [a_round_exact_to_2N]
      cases b with
      | true =>
        rw [cond_true, show (M : Int) + 1 = ((M + 1 : Nat) : Int) by omega, wrapU_small (by omega)]
        exact fin2 (M + 1) (by omega) (by rw [if_pos (hbb.1 rfl)])
      | false =>
        rw [cond_false]
        exact fin2 M (by omega) (by rw [if_neg (fun h => by have := hbb.2 h; cases this)]; rfl)
    cases mo with
    | true => rw [cond_true]; exact go grow (by simp)
    | false => rw [cond_false]; exact go false (by simp)
  simp only [L_round_exact_to_0]
  rw [stepF hF]
  simp only [l_round_exact_to_0, u_round_exact_to_0]
  obtain ⟨v, hv⟩ : ∃ v : Int, v = (if (-1074 : Int) - e > ((blen N : Nat) : Int) - 53 then -1074 - e else ((blen N : Nat) : Int) - 53) := ⟨_, rfl⟩
  rw [← hv]
  by_cases h0 : v > 0
  · obtain ⟨n, hn⟩ : ∃ n : Nat, v = n := ⟨v.toNat, by omega⟩
    rw [hn] at h0 ⊢
    rw [hn] at hv
    have hRR := hR neg N (n : Int) e more hN (by omega) (by omega) (by omega) (by split at hv <;> omega) G
    rw [Int.toNat_natCast] at hRR
    rw [decide_eq_true h0, cond_true]
    have hRR' := hRR
    unfold W at hRR'
    rw [hRR']
    have hop := fun f => W_open (β := R) neg (N / 2 ^ n) (e + n) (more || decide (N % 2 ^ n ≠ 0)) f
    unfold W at hop
    rw [hop]
    have hbl := blen_div_pow N n
    refine fin n (N / 2 ^ n) _ rfl rfl (blen_lt.1 ?_) ?_ ?_ ?_
    · split at hv <;> omega
    · split at hv <;> omega
    · split at hv
      · exact .inl (.inl (by omega))
      · exact .inl (.inr (blen_ge.1 (by omega)))
    · split at hv <;> omega
  · rw [decide_eq_false h0, cond_false]
    have hm0 : more = false := by
      cases more with
      | false => rfl
      | true => have := hmore rfl; exfalso; split at hv <;> omega
    have := fin 0 N more (by simp) (by simp [Nat.mod_one]) (blen_lt.1 (by split at hv <;> omega)) (by split at hv <;> omega) (.inr hm0) (by omega)
    rw [show e + ((0 : Nat) : Int) = e by omega] at this
    exact this

theorem wTo {F n : Nat} (hF : 1 ≤ F) (hn : 8 ≤ n) : STo (runC (R := R) Try.prog lo0 F n) := by
  obtain ⟨n, rfl⟩ : ∃ j, n = j + 8 := ⟨n - 8, by omega⟩
  intro neg N p s e more down A B hN he1 he2 hB hps hrep hmore G k
  unfold W
  rw [r_round_exact_to, e_round_exact_to]
  exact to_body hF (wLength hF (by omega)) (wRight hF (by omega)) (wLdexp hF (by omega)) (wIsInf hF (by omega)) (wPlain (by omega)) hN he1 he2 hB hps hrep hmore G k
end
end Go.LI.Film
