/- FilmTiles: the walk, whole. -/
import Derived.Test.YtmhoddmenfondaaRdTd
namespace Go.LI.Film
open Go.Proofs.Ytmhoddmenfondaa Go Go.Proofs Go.LI Go.LI.Fl Go.LI.Film.Ti
set_option linter.unusedVariables false
set_option linter.unusedSimpArgs false
set_option maxRecDepth 100000

theorem u64_mod (p : Int) : 0 ≤ IntKind.wrap .u64 p := by
  have e1 : IntKind.u64.bits = 64 := rfl
  unfold IntKind.wrap
  simp only [IntKind.signed, Bool.false_and, decide_eq_true_eq, ge_iff_le, e1]
  simp only [Bool.false_eq_true, if_false]
  omega
theorem side_of (p : Int) {m : Nat} (hm : 0 < m) (hm1 : m ≤ 1000) : ∃ w : Nat, 1 ≤ w ∧ w ≤ m ∧ IntKind.wrap .i64 ((1 : Int) + (IntKind.wrap .i64 (Int.tmod (IntKind.wrap .u64 p) (m : Int)))) = (w : Int) := by
  have h0 := u64_mod p
  generalize IntKind.wrap .u64 p = q at h0
  have e : Int.tmod q (m : Int) = q % (m : Int) := Int.tmod_eq_emod_of_nonneg h0
  have h1 : 0 ≤ q % (m : Int) := Int.emod_nonneg _ (by omega)
  have h2 : q % (m : Int) < m := Int.emod_lt_of_pos _ (by omega)
  rw [e]
  generalize q % (m : Int) = z at h1 h2
  refine ⟨(1 + z).toNat, by omega, by omega, ?_⟩
  rw [wrapI (v := z) (by omega) (by omega), wrapI (by omega) (by omega)]
  omega

section
variable {R : Type}
abbrev SAw (O : Ora R) : Prop := ∀ (G : GH) (k : IV → GH → Option R), O fn_law19_Awake [] G k = k (.bool true) G
abbrev SJobs (O : Ora R) : Prop := ∀ {w h s : Int}, s < 9223372036854775808 → ∀ (G : GH) (k : IV → GH → Option R),
    if badJ w h s = true then O fn_film_Jobs [.int .i64 w, .int .i64 h, .int .i64 s] G k = k (.tuple [.slice none 0, .int .i64 2]) G
    else ∃ a n G', O fn_film_Jobs [.int .i64 w, .int .i64 h, .int .i64 s] G k = k (.tuple [.slice a n, .int .i64 0]) G' ∧ JobsTo G.length G' w h s a n ∧ Keeps G.length G G'
theorem drop3 {β : Type} (a : Option GA) (b : Option GA) (n : Nat) (c : Bool) (f : Option GA → (Option GA × Nat) → Bool → Option β) :
    ((ivTup 3 (.tuple [.ptr a, .slice b n, .bool c])).bind fun c3 => (ivPtr (c3.getD 0 undefI)).bind fun x4 => (ivSlice (c3.getD 1 undefI)).bind fun x5 => (ivBool (c3.getD 2 undefI)).bind fun x6 => f x4 x5 x6) = f a (b, n) c := rfl
theorem pair_sl {β : Type} (a : Option GA) (n : Nat) (e : Int) (f : Option GA × Nat → Int → Option β) :
    ((ivTup 2 (.tuple [.slice a n, .int .i64 e])).bind fun c => (ivSlice (c.getD 0 undefI)).bind fun x => (ivInt .i64 (c.getD 1 undefI)).bind fun y => f x y) = f (a, n) e := rfl

theorem tiles_body {O : Ora R} {F : Nat} (hF : 1100 ≤ F) (hAw : SAw O) (hVd : SValidD O F) (hDr : SDropped O) (hJ : SJobs O) (hNew : SFNew O) (hAdd : SFAdd O) (hMe : SMerge O) (hPx : SFPixel O) (hSm : SRSamePx O) {G : GH} {sa : Option GA} {n : Nat} {ds : List Drp} (hD : Drps G G.length sa n ds) (hr : ∀ d ∈ ds, InI d.x ∧ InI d.y) (hn : n < F ∧ n < 2 ^ 60) (p0 p1 p2 : Int) (k : IV → GH → Option R) :
    ∃ G', u_law19_FilmTiles O k (L_law19_FilmTiles_0 O F k) p0 p1 p2 sa n G = k (.bool true) G' := by
  obtain ⟨w, w1, w2, ew⟩ := side_of p0 (m := 6) (by decide) (by decide)
  obtain ⟨h, h1, h2, eh⟩ := side_of p1 (m := 6) (by decide) (by decide)
  obtain ⟨s, s1, s2, es⟩ := side_of p2 (m := 4) (by decide) (by decide)
  simp only [u_law19_FilmTiles]
  rw [show ((6 : Nat) : Int) = 6 from rfl] at ew eh
  rw [show ((4 : Nat) : Int) = 4 from rfl] at es
  rw [hAw, ivB, Bool.not_true, cond_false, hVd G _ sa n ds hD hn.1 hn.2, ivB, ew, eh, es]
  cases validD ds with
  | false => exact ⟨G, by rw [Bool.not_false, cond_true]⟩
  | true =>
    rw [Bool.not_true, cond_false]
    have hwh : w * h ≤ 6 * 6 := Nat.mul_le_mul w2 h2
    obtain ⟨G1, a1, a2, a3, a4, a5⟩ := hDr w h w1 (by omega) h1 (by omega) (by omega) G sa n ds hD fun v7 G8 =>
      (ivTup 3 v7).bind fun c9 => (ivPtr (c9.getD 0 undefI)).bind fun x10 => (ivSlice (c9.getD 1 undefI)).bind fun x11 => (ivBool (c9.getD 2 undefI)).bind fun x12 =>
      O fn_film_Jobs [.int .i64 (w : Int), .int .i64 (h : Int), .int .i64 (s : Int)] G8 fun v13 G14 =>
      (ivTup 2 v13).bind fun c15 => (ivSlice (c15.getD 0 undefI)).bind fun x16 => (ivInt .i64 (c15.getD 1 undefI)).bind fun x17 =>
      O fn_film_New [.int .i64 (w : Int), .int .i64 (h : Int)] G14 fun v18 G19 =>
      (ivTup 2 v18).bind fun c20 => (ivPtr (c20.getD 0 undefI)).bind fun x21 => (ivInt .i64 (c20.getD 1 undefI)).bind fun x22 =>
      L_law19_FilmTiles_0 O F k (w : Int) (h : Int) sa n x10 x12 x16.1 x16.2 x17 x21 x22 G19
    obtain ⟨ps, hps⟩ : ∃ ps, ps = dropsPx w h (List.replicate (w * h) Px.zero) (ds.take 200) := ⟨_, rfl⟩
    rw [← hps] at a3
    have hmw := many_ge (w := w) (s := s) (by omega) (by omega)
    have hmh := many_ge (w := h) (s := s) (by omega) (by omega)
    have hmm : many (w : Int) s * many (h : Int) s ≤ 6 * 6 := Int.mul_le_mul (by omega) (by omega) (by omega) (by omega)
    have hbj : badJ (w : Int) h s = false := by
      simp only [badJ, Bool.or_eq_false_iff, decide_eq_false_iff_not]
      refine ⟨⟨⟨⟨⟨?_, ?_⟩, ?_⟩, ?_⟩, ?_⟩, ?_⟩ <;> omega
    have q1 := fun k => hJ (w := (w : Int)) (h := h) (s := s) (by omega) G1 k
    simp only [hbj, Bool.false_eq_true, if_false] at q1
    obtain ⟨ja, jn, G2, b1, ⟨nx, ny, m1, m2, hjn, hfit, hle, hsl⟩, hk⟩ := q1 fun v13 G14 =>
      (ivTup 2 v13).bind fun c15 => (ivSlice (c15.getD 0 undefI)).bind fun x16 => (ivInt .i64 (c15.getD 1 undefI)).bind fun x17 =>
      O fn_film_New [.int .i64 (w : Int), .int .i64 (h : Int)] G14 fun v18 G19 =>
      (ivTup 2 v18).bind fun c20 => (ivPtr (c20.getD 0 undefI)).bind fun x21 => (ivInt .i64 (c20.getD 1 undefI)).bind fun x22 =>
      L_law19_FilmTiles_0 O F k (w : Int) (h : Int) sa n (some ⟨G.length + 2, 0⟩) true x16.1 x16.2 x17 x21 x22 G19
    have hnx0 := hfit.nx0
    rw [show (0 : Int) = ((0 : Nat) : Int) from rfl, allC_flat (w : Int) h s (by omega) ny 0, Nat.zero_mul, ← hjn] at hsl
    have hnx : (w - 1) / s + 1 = nx := by
      unfold many at m1
      rw [Int.tdiv_eq_ediv_of_nonneg (by omega)] at m1
      have : ((w : Int) - 1) / (s : Int) = (((w - 1) / s : Nat) : Int) := by rw [Int.natCast_ediv, Int.natCast_sub w1]; rfl
      rw [this] at m1
      exact_mod_cast m1
    have hny : (h - 1) / s + 1 = ny := by
      unfold many at m2
      rw [Int.tdiv_eq_ediv_of_nonneg (by omega)] at m2
      have : ((h : Int) - 1) / (s : Int) = (((h - 1) / s : Nat) : Int) := by rw [Int.natCast_ediv, Int.natCast_sub h1]; rfl
      rw [this] at m2
      exact_mod_cast m2
    have hjn36 : jn ≤ 36 := by
      rw [m1, m2, ← Int.natCast_mul] at hmm
      rw [hjn, Nat.mul_comm]
      exact_mod_cast hmm
    obtain ⟨G3, c1, c2, c3, c4⟩ := hNew w h w1 (by omega) h1 (by omega) (by omega) G2
    have hk1 := hk.1
    have hk2 := hk.2
    have hI3 : Flm G3 (G.length + 2) (G.length + 1) G.length w h ps := a3.keep fun i hi => by rw [c2 i (by omega), hk2 i (by omega)]
    have hD3 : Drps G3 G.length sa n ds := hD.keep fun i hi => by rw [c2 i (by omega), hk2 i (by omega), a2 i hi]
    have hS : ∀ G', Still G3.length G2.length G3 G' → Sl G1.length G' 30 4 ja jn (flatC w h s nx 0 jn) := by
      intro G' hG'
      refine ⟨hsl.1, hsl.2.imp id ?_⟩
      rintro ⟨b, t1, t2, t3⟩
      have hbl := (List.getElem?_eq_some_iff.1 t3).1
      exact ⟨b, t1, t2, by rw [hG'.2 b (by omega) (by omega), c2 b hbl]; exact t3⟩
    obtain ⟨G4, os, d1, d2, d3, d4⟩ := tiles1 (O := O) (F := F) hF hNew hAdd hMe (a_law19_FilmTiles_1ret O k) (a_law19_FilmTiles_10 O k (L_law19_FilmTiles_4 O F k)) (sf := some ⟨G.length + 2, 0⟩) (c := G2.length) (b := G2.length + 1) (B := G3.length) (G0 := G3) (base := G.length) w1 w2 h1 h2 s1 (by omega) hnx hny (by rw [hjn, Nat.mul_comm]) ⟨by omega, by omega⟩ hD3 hr (by omega) (by omega) (by omega) (by omega) (by omega) hS hps jn 0 F _ G3 (by omega) (by omega) (Still.refl (Nat.le_refl _)) c3 (fun x y _ _ ht => absurd ht (by omega))
    have hI4 : Flm G4 (G.length + 2) (G.length + 1) G.length w h ps := hI3.keep fun i hi => d1.2 i (by omega) (by omega)
    have hT := tiles4 (O := O) hPx hSm (a_law19_FilmTiles_4ret O k) (a_law19_FilmTiles_44 O k) w1 w2 h2 hI4 d2 d3 (w * h) 0 F (by omega) (by omega)
    refine ⟨G4, ?_⟩
    refine a5.trans ?_
    rw [drop3]
    refine b1.trans ?_
    rw [pair_sl, c4, pairPI]
    simp only [L_law19_FilmTiles_0]
    rw [stepF (by omega)]
    simp only [l_law19_FilmTiles_0, u_law19_FilmTiles_0]
    rw [Bool.not_true, cond_false, show ((0 : Int) != 0) = false from rfl, cond_false, cond_false]
    simp only [a_law19_FilmTiles_0N, L_law19_FilmTiles_1]
    refine d4.trans ?_
    simp only [a_law19_FilmTiles_10, L_law19_FilmTiles_4]
    exact hT

theorem wJobs {F n : Nat} (hF : 4000000 ≤ F) (hn : 1 ≤ n) : SJobs (runC (R := R) Try.prog lo0 F n) := by
  obtain ⟨n, rfl⟩ : ∃ j, n = j + 1 := ⟨n - 1, by omega⟩
  intro w h s hs G k
  rw [r11]
  exact b11 hF hs G k
theorem s6 {F N : Nat} (hF : 4000000 ≤ F) (hN : 20 ≤ N) (hAw : SAw (runC (R := R) Try.prog lo0 F N)) {G : GH} {sa : Option GA} {n : Nat} {ds : List Drp} (hD : Drps G G.length sa n ds) (hr : ∀ d ∈ ds, InI d.x ∧ InI d.y) (hn : n < F ∧ n < 2 ^ 60) (p0 p1 p2 : Int) (k : IV → GH → Option R) :
    ∃ G', runC (R := R) Try.prog lo0 F (N + 1) 6 [.int .i64 p0, .int .i64 p1, .int .i64 p2, .slice sa n] G k = k (.bool true) G' := by
  obtain ⟨G', h⟩ := tiles_body (O := runC (R := R) Try.prog lo0 F N) (F := F) (by omega) hAw (wValidD (by omega)) (wDropped (by omega) (by omega)) (wJobs hF (by omega)) (wFNew (by omega) (by omega)) (wFAdd (by omega) (by omega)) (wMerge (by omega) (by omega)) (wFPixel (by omega)) (wRSamePx (by omega)) hD hr hn p0 p1 p2 k
  refine ⟨G', ?_⟩
  rw [r_law19_FilmTiles, e_law19_FilmTiles]
  exact h
end
end Go.LI.Film
