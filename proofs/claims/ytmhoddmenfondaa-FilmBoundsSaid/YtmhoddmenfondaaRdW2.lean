/- Films in the interpreter's heap: New, Add, Pixel. -/
import Derived.Test.YtmhoddmenfondaaRdW1
namespace Go.LI.Film
open Go.Proofs.Ytmhoddmenfondaa Go Go.Proofs Go.LI Go.LI.Fl
set_option linter.unusedVariables false
set_option linter.unusedSimpArgs false
set_option maxRecDepth 100000

/-- A film at f: its image at b, its pixels at c. -/
structure Flm (G : GH) (f b c w h : Nat) (ps : List Px) : Prop where
  img : Img G b c w h ps
  hf : ∃ e, G[f]? = some ⟨[.ptr (some ⟨b, 0⟩)], e, 1⟩
  ne : f ≠ c
  wide : ∀ p ∈ ps, W6 p.a
theorem Flm.ld {G : GH} {f b c w h : Nat} {ps : List Px} (hI : Flm G f b c w h ps) : ldPtr G (GA.add ⟨f, 0⟩ 0) = some (some ⟨b, 0⟩) := by
  obtain ⟨e, hf⟩ := hI.hf
  simp [ldPtr, gld, GA.add, hf]
/-- A film stays where others are changed. -/
theorem Flm.keep {G G' : GH} {f b c w h : Nat} {ps : List Px} (hI : Flm G f b c w h ps) (hk : ∀ i, i = f ∨ i = b ∨ i = c → G'[i]? = G[i]?) : Flm G' f b c w h ps := by
  obtain ⟨⟨⟨e1, h1⟩, ⟨e2, h2⟩, h3, h4, h5, h6⟩, ⟨e3, h7⟩, h8, h9⟩ := hI
  exact ⟨⟨⟨e1, by rw [hk b (.inr (.inl rfl))]; exact h1⟩, ⟨e2, by rw [hk c (.inr (.inr rfl))]; exact h2⟩, h3, h4, h5, h6⟩, ⟨e3, by rw [hk f (.inl rfl)]; exact h7⟩, h8, h9⟩

/-- A pixel with a sample more. -/
def addPx (p : Px) (s : Nat → Nat) (clear : Bool) : Px := ⟨sumA p.a s, IntKind.wrap .i64 (p.c + 1), if clear = true then p.d else IntKind.wrap .i64 (p.d + 1)⟩
theorem zero_w : W6 Px.zero.a := fun _ => by show 0 < 2 ^ 64; decide
theorem getD_w {ps : List Px} (h : ∀ p ∈ ps, W6 p.a) (i : Nat) : W6 (ps.getD i Px.zero).a := by
  rw [List.getD_eq_getElem?_getD]
  cases hi : ps[i]? with
  | none => exact zero_w
  | some p => exact h p (List.mem_of_getElem? hi)
theorem set_w {ps : List Px} (h : ∀ p ∈ ps, W6 p.a) (i : Nat) {q : Px} (hq : W6 q.a) : ∀ p ∈ ps.set i q, W6 p.a := by
  intro p hp
  rcases List.mem_or_eq_of_mem_set hp with h' | h'
  · exact h p h'
  · rw [h']; exact hq
theorem At_open {β : Type} (p : Px) (e : Int) (f : Nat → Nat → Nat → Nat → Nat → Nat → Int → Int → Int → Option β) :
    ((ivTup 2 (.tuple [.agg (pcs p), .int .i64 e])).bind fun c4 => (ivAgg 8 (c4.getD 0 undefI)).bind fun c5 => (ivFloat .f64 (c5.getD 0 undefI)).bind fun x6 => (ivFloat .f64 (c5.getD 1 undefI)).bind fun x7 => (ivFloat .f64 (c5.getD 2 undefI)).bind fun x8 => (ivFloat .f64 (c5.getD 3 undefI)).bind fun x9 => (ivFloat .f64 (c5.getD 4 undefI)).bind fun x10 => (ivFloat .f64 (c5.getD 5 undefI)).bind fun x11 => (ivInt .i64 (c5.getD 6 undefI)).bind fun x12 => (ivInt .i64 (c5.getD 7 undefI)).bind fun x13 => (ivInt .i64 (c4.getD 1 undefI)).bind fun x14 => f x6 x7 x8 x9 x10 x11 x12 x13 x14) =
      f (p.a 0) (p.a 1) (p.a 2) (p.a 3) (p.a 4) (p.a 5) p.c p.d e := rfl
theorem flat_zero (n : Nat) : (List.replicate n (pcs Px.zero)).flatten = flatP (List.replicate n Px.zero) := by
  induction n with
  | zero => rfl
  | succ n ih => rw [List.replicate_succ, List.replicate_succ, List.flatten_cons, flatP, ih]

section
variable {R : Type}
abbrev SFPixel (O : Ora R) : Prop := ∀ (G : GH) (f b c w h : Nat) (ps : List Px), Flm G f b c w h ps → ∀ (x y : Int) (k : IV → GH → Option R), O fn_zW [.ptr (some ⟨f, 0⟩), .int .i64 x, .int .i64 y] G k =
  k (.tuple [.agg (pcs (if inB w h x y = true then ps.getD (y.toNat * w + x.toNat) Px.zero else Px.zero)), .int .i64 (if inB w h x y = true then 0 else 2)]) G
abbrev SFAdd (O : Ora R) : Prop := ∀ (G : GH) (f b c w h : Nat) (ps : List Px), Flm G f b c w h ps → ∀ (x y : Int) (s : Nat → Nat) (clear : Bool) (sa : Option GA) (sn : Nat), W6 s → ∀ (k : IV → GH → Option R),
  (inB w h x y = false → O fn_zy [.ptr (some ⟨f, 0⟩), .int .i64 x, .int .i64 y, SM s clear sa sn] G k = k (.int .i64 2) G) ∧
  (inB w h x y = true → ∃ G', Flm G' f b c w h (ps.set (y.toNat * w + x.toNat) (addPx (ps.getD (y.toNat * w + x.toNat) Px.zero) s clear)) ∧ G'.length = G.length ∧ (∀ i, i ≠ c → G'[i]? = G[i]?) ∧ O fn_zy [.ptr (some ⟨f, 0⟩), .int .i64 x, .int .i64 y, SM s clear sa sn] G k = k (.int .i64 0) G')
abbrev SImgNew (O : Ora R) : Prop := ∀ (w h : Nat), 1 ≤ w → w ≤ 1024 → 1 ≤ h → h ≤ 1024 → w * h ≤ 65536 → ∀ (G : GH) (k : IV → GH → Option R), O fn_zF [.int .i64 w, .int .i64 h] G k =
  k (.tuple [.ptr (some ⟨G.length + 1, 0⟩), .int .i64 0]) (gnew (gnew G (flatP (List.replicate (w * h) Px.zero)) 54) [.int .i64 w, .int .i64 h, .slice (some ⟨G.length, 0⟩) (w * h)] 114)
abbrev SFNew (O : Ora R) : Prop := ∀ (w h : Nat), 1 ≤ w → w ≤ 1024 → 1 ≤ h → h ≤ 1024 → w * h ≤ 65536 → ∀ (G : GH), ∃ G', G'.length = G.length + 3 ∧ (∀ i, i < G.length → G'[i]? = G[i]?) ∧ Flm G' (G.length + 2) (G.length + 1) G.length w h (List.replicate (w * h) Px.zero) ∧ ∀ (k : IV → GH → Option R), O fn_zN [.int .i64 w, .int .i64 h] G k = k (.tuple [.ptr (some ⟨G.length + 2, 0⟩), .int .i64 0]) G'

theorem pixel_body {O : Ora R} {F : Nat} (hA : SAt O) {G : GH} {f b c w h : Nat} {ps : List Px} (hI : Flm G f b c w h ps) (x y : Int) (k : IV → GH → Option R) : bodyC Try.prog O [6, 777777] F Try.f23 [.ptr (some ⟨f, 0⟩), .int .i64 x, .int .i64 y] G k =
    k (.tuple [.agg (pcs (if inB w h x y = true then ps.getD (y.toNat * w + x.toNat) Px.zero else Px.zero)), .int .i64 (if inB w h x y = true then 0 else 2)]) G := by
  rw [e_zW, hI.ld, Option.bind_some, hA G b c w h ps hI.img, At_open]
  rfl
theorem wFPixel {F n : Nat} (hn : 3 ≤ n) : SFPixel (runC (R := R) Try.prog lo0 F n) := by
  obtain ⟨n, rfl⟩ : ∃ j, n = j + 3 := ⟨n - 3, by omega⟩
  intro G f b c w h ps hI x y k
  rw [r_zW]
  exact pixel_body (wAt (by omega)) hI x y k

theorem fadd_body {O : Ora R} {F : Nat} (hF : 1 ≤ F) (hA : SAt O) (hS : SSet O) (hV : SVecAdd O) {G : GH} {f b c w h : Nat} {ps : List Px} (hI : Flm G f b c w h ps) (x y : Int) {s : Nat → Nat} (clear : Bool) (sa : Option GA) (sn : Nat) (hs : W6 s) (k : IV → GH → Option R) :
    (inB w h x y = false → u_zy O k (L_zy_0 O F k) ⟨f, 0⟩ x y (s 0) (s 1) (s 2) (s 3) (s 4) (s 5) clear sa sn G = k (.int .i64 2) G) ∧
    (inB w h x y = true → ∃ G', Flm G' f b c w h (ps.set (y.toNat * w + x.toNat) (addPx (ps.getD (y.toNat * w + x.toNat) Px.zero) s clear)) ∧ G'.length = G.length ∧ (∀ i, i ≠ c → G'[i]? = G[i]?) ∧ u_zy O k (L_zy_0 O F k) ⟨f, 0⟩ x y (s 0) (s 1) (s 2) (s 3) (s 4) (s 5) clear sa sn G = k (.int .i64 0) G') := by
  refine ⟨fun hin => ?_, fun hin => ?_⟩
  · simp only [u_zy]
    rw [hI.ld, Option.bind_some, hA G b c w h ps hI.img, At_open, hin, if_neg (by simp), show ((2 : Int) != 0) = true from rfl, cond_true]
  · obtain ⟨i, hi⟩ : ∃ i, i = y.toNat * w + x.toNat := ⟨_, rfl⟩
    rw [← hi]
    obtain ⟨p, hp⟩ : ∃ p, p = ps.getD i Px.zero := ⟨_, rfl⟩
    rw [← hp]
    have hpw : W6 p.a := by rw [hp]; exact getD_w hI.wide i
    have hq : W6 (addPx p s clear).a := sumA_w _ _
    obtain ⟨G', g1, g2, g3, g4⟩ := (hS G b c w h ps hI.img x y (addPx p s clear) fun v2 G3 => (ivInt .i64 v2).bind fun x4 => k (.int .i64 x4) G3).2 hin
    rw [← hi] at g1
    refine ⟨G', ⟨g1, ?_, hI.ne, set_w hI.wide i hq⟩, g2, g3, ?_⟩
    · obtain ⟨e, hf⟩ := hI.hf
      exact ⟨e, by rw [g3 f hI.ne]; exact hf⟩
    · have hv := hV p.a s hpw hs G
      have ho := fun f => F6_open (β := R) (sumA p.a s) f
      unfold F6 at hv ho
      have hld := hI.ld
      simp only [u_zy]
      rw [hld, Option.bind_some, hA G b c w h ps hI.img, At_open, hin, if_pos rfl, if_pos rfl, show ((0 : Int) != 0) = false from rfl, cond_false, ← hi, ← hp, hv, ho]
      simp only [L_zy_0]
      rw [stepF hF]
      simp only [l_zy_0, u_zy_0, a_zy_0N]
      rw [hld, Option.bind_some, Option.bind_some]
      unfold pcs addPx at g4
      cases clear with
      | true =>
        rw [Bool.not_true, cond_false]
        simp only [if_true] at g4
        exact g4
      | false =>
        rw [Bool.not_false, cond_true]
        simp only [Bool.false_eq_true, if_false] at g4
        exact g4
theorem wFAdd {F n : Nat} (hF : 4 ≤ F) (hn : 13 ≤ n) : SFAdd (runC (R := R) Try.prog lo0 F n) := by
  obtain ⟨n, rfl⟩ : ∃ j, n = j + 13 := ⟨n - 13, by omega⟩
  intro G f b c w h ps hI x y s clear sa sn hs k
  have hb := fadd_body (O := runC (R := R) Try.prog lo0 F (n + 12)) (F := F) (by omega) (wAt (by omega)) (wSet (by omega)) (wVecAdd hF (by omega)) hI x y clear sa sn hs k
  have hr : runC (R := R) Try.prog lo0 F (n + 13) fn_zy [.ptr (some ⟨f, 0⟩), .int .i64 x, .int .i64 y, SM s clear sa sn] G k = u_zy (runC (R := R) Try.prog lo0 F (n + 12)) k (L_zy_0 (runC (R := R) Try.prog lo0 F (n + 12)) F k) ⟨f, 0⟩ x y (s 0) (s 1) (s 2) (s 3) (s 4) (s 5) clear sa sn G := by
    unfold SM
    rw [r_zy, e_zy]
  rw [hr]
  exact hb

theorem imgNew_body {O : Ora R} {F : Nat} (hF : 1 ≤ F) {w h : Nat} (h1 : 1 ≤ w) (h2 : w ≤ 1024) (h3 : 1 ≤ h) (h4 : h ≤ 1024) (h5 : w * h ≤ 65536) (G : GH) (k : IV → GH → Option R) : u_zF O k (L_zF_0 O F k) w h G =
    k (.tuple [.ptr (some ⟨G.length + 1, 0⟩), .int .i64 0]) (gnew (gnew G (flatP (List.replicate (w * h) Px.zero)) 54) [.int .i64 w, .int .i64 h, .slice (some ⟨G.length, 0⟩) (w * h)] 114) := by
  simp only [u_zF, L_zF_0]
  rw [stepF hF]
  simp only [l_zF_0, u_zF_0]
  have hwr : IntKind.wrap .i64 ((w : Int) * (h : Int)) = ((w * h : Nat) : Int) := by
    rw [← Int.natCast_mul, wrapI (by omega) (by omega)]
  rw [decide_eq_false (show ¬ (w : Int) < 1 by omega), cond_false, decide_eq_false (show ¬ (h : Int) < 1 by omega), cond_false, decide_eq_false (show ¬ (w : Int) > 1024 by omega), cond_false, decide_eq_false (show ¬ (h : Int) > 1024 by omega), cond_false, hwr, decide_eq_false (show ¬ ((w * h : Nat) : Int) > 65536 by omega)]
  simp only [a_zF_0N, cond_false]
  have hroom : ((roomI : Nat) : Int) = 1099511627776 := by decide
  rw [hwr, decide_eq_true (by rw [hroom]; omega), Bool.true_and, Bool.true_and, cond_true, Int.toNat_natCast]
  have hz := flat_zero (w * h)
  unfold pcs at hz
  have hz' : (List.replicate (w * h) [IV.float FloatKind.f64 0, IV.float FloatKind.f64 0, IV.float FloatKind.f64 0, IV.float FloatKind.f64 0, IV.float FloatKind.f64 0, IV.float FloatKind.f64 0, IV.int IntKind.i64 0, IV.int IntKind.i64 0]).flatten = flatP (List.replicate (w * h) Px.zero) := hz
  rw [hz']
  have hg : gaddr (gnew G (flatP (List.replicate (w * h) Px.zero)) 54) = ⟨G.length + 1, 0⟩ := by
    unfold gaddr; rw [gnew_length]
  rw [hg]
  rfl
theorem wImgNew {F n : Nat} (hF : 1 ≤ F) (hn : 1 ≤ n) : SImgNew (runC (R := R) Try.prog lo0 F n) := by
  obtain ⟨n, rfl⟩ : ∃ j, n = j + 1 := ⟨n - 1, by omega⟩
  intro w h h1 h2 h3 h4 h5 G k
  rw [r_zF, e_zF]
  exact imgNew_body hF h1 h2 h3 h4 h5 G k

theorem pairII {β : Type} (x y : Int) (f : Int → Int → Option β) : ((ivTup 2 (.tuple [.int .i64 x, .int .i64 y])).bind fun c => (ivInt .i64 (c.getD 0 undefI)).bind fun a => (ivInt .i64 (c.getD 1 undefI)).bind fun b => f a b) = f x y := rfl
theorem pairPI {β : Type} (x : Option GA) (n : Int) (f : Option GA → Int → Option β) : ((ivTup 2 (.tuple [.ptr x, .int .i64 n])).bind fun c => (ivPtr (c.getD 0 undefI)).bind fun a => (ivInt .i64 (c.getD 1 undefI)).bind fun b => f a b) = f x n := rfl
theorem fnew_body {O : Ora R} {F : Nat} (hN : SImgNew O) {w h : Nat} (h1 : 1 ≤ w) (h2 : w ≤ 1024) (h3 : 1 ≤ h) (h4 : h ≤ 1024) (h5 : w * h ≤ 65536) (G : GH) : ∃ G', G'.length = G.length + 3 ∧ (∀ i, i < G.length → G'[i]? = G[i]?) ∧ Flm G' (G.length + 2) (G.length + 1) G.length w h (List.replicate (w * h) Px.zero) ∧ ∀ (k : IV → GH → Option R), bodyC Try.prog O [777777] F Try.f21 [.int .i64 w, .int .i64 h] G k = k (.tuple [.ptr (some ⟨G.length + 2, 0⟩), .int .i64 0]) G' := by
  obtain ⟨G1, hG1⟩ : ∃ G1, G1 = gnew G (flatP (List.replicate (w * h) Px.zero)) 54 := ⟨_, rfl⟩
  obtain ⟨G2, hG2⟩ : ∃ G2, G2 = gnew G1 [.int .i64 w, .int .i64 h, .slice (some ⟨G.length, 0⟩) (w * h)] 114 := ⟨_, rfl⟩
  have l1 : G1.length = G.length + 1 := by rw [hG1, gnew_length]
  have l2 : G2.length = G.length + 2 := by rw [hG2, gnew_length, l1]
  refine ⟨gnew G2 [.ptr (some ⟨G.length + 1, 0⟩)] 100, by rw [gnew_length, l2], fun i hi => ?_, ?_, fun k => ?_⟩
  · rw [gnew_old (by omega), hG2, gnew_old (by omega), hG1, gnew_old (by omega)]
  · refine ⟨⟨⟨114, ?_⟩, ⟨54, ?_⟩, by omega, by rw [List.length_replicate], h2, h4⟩, ⟨100, ?_⟩, by omega, fun p hp => ?_⟩
    · rw [gnew_old (by omega), ← l1, hG2, gnew_at]
    · rw [gnew_old (by omega), hG2, gnew_old (by omega), hG1, gnew_at]
    · rw [← l2, gnew_at]
    · rw [List.eq_of_mem_replicate hp]; exact zero_w
  · rw [e_zN, hN w h h1 h2 h3 h4 h5, pairPI, show ((0 : Int) != 0) = false from rfl, cond_false, ← hG1, ← hG2]
    unfold gaddr
    rw [l2]
theorem wFNew {F n : Nat} (hF : 1 ≤ F) (hn : 2 ≤ n) : SFNew (runC (R := R) Try.prog lo0 F n) := by
  obtain ⟨n, rfl⟩ : ∃ j, n = j + 2 := ⟨n - 2, by omega⟩
  intro w h h1 h2 h3 h4 h5 G
  obtain ⟨G', a1, a2, a3, a4⟩ := fnew_body (O := runC (R := R) Try.prog lo0 F (n + 1)) (F := F) (wImgNew hF (by omega)) h1 h2 h3 h4 h5 G
  refine ⟨G', a1, a2, a3, fun k => ?_⟩
  rw [r_zN]
  exact a4 k
end
end Go.LI.Film
