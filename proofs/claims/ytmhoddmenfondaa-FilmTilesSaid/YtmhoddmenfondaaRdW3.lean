/- Films in the interpreter's heap: Merge. -/
import Derived.Test.YtmhoddmenfondaaRdW2
namespace Go.LI.Film
open Go.Proofs.Ytmhoddmenfondaa Go Go.Proofs Go.LI Go.LI.Fl
set_option linter.unusedVariables false
set_option linter.unusedSimpArgs false
set_option maxRecDepth 100000

/-- A row of a tile, and all its rows, in the place of the pixels there. -/
def mrow (qs : List Px) (w w' x0 y0 v : Nat) : Nat → Nat → List Px → List Px
  | 0, _, ps => ps
  | n + 1, u, ps => mrow qs w w' x0 y0 v n (u + 1) (ps.set ((y0 + v) * w + (x0 + u)) (qs.getD (v * w' + u) Px.zero))
def mall (qs : List Px) (w w' x0 y0 : Nat) : Nat → Nat → List Px → List Px
  | 0, _, ps => ps
  | n + 1, v, ps => mall qs w w' x0 y0 n (v + 1) (mrow qs w w' x0 y0 v w' 0 ps)
def okJ (w h : Nat) (x0 y0 x1 y1 : Int) : Prop := 0 ≤ x0 ∧ 0 ≤ y0 ∧ x1 ≤ w ∧ y1 ≤ h ∧ x0 < x1 ∧ y0 < y1

section
variable {R : Type}
theorem merge4 {O : Ora R} (hA : SAt O) (hS : SSet O) (K2 : GA → GA → Int → Int → Int → Int → Int → GH → Option R) {f b c w h g gb gc w' h' : Nat} {qs : List Px} (n1 : g ≠ c) (n2 : gb ≠ c) (n3 : gc ≠ c) {x0 y0 v : Nat} (hv : v < h') (hx : x0 + w' ≤ w) (hy : y0 + h' ≤ h) (hw : w ≤ 1024) (hh : h ≤ 1024) (b1 b3 : Int) (hb1 : b1 = (y0 : Int)) :
    ∀ (n u j : Nat) (ps : List Px) (G : GH), u + n = w' → n < j → Flm G f b c w h ps → Flm G g gb gc w' h' qs →
      ∃ G', Flm G' f b c w h (mrow qs w w' x0 y0 v n u ps) ∧ G'.length = G.length ∧ (∀ i, i ≠ c → G'[i]? = G[i]?) ∧
        l_film_Film_Merge_4 O K2 j ⟨f, 0⟩ ⟨g, 0⟩ ((y0 + v : Nat) : Int) ((x0 + u : Nat) : Int) (x0 : Int) b1 ((x0 + w' : Nat) : Int) b3 G = K2 ⟨f, 0⟩ ⟨g, 0⟩ ((y0 + v : Nat) : Int) (x0 : Int) b1 ((x0 + w' : Nat) : Int) b3 G' := by
  intro n
  induction n with
  | zero =>
    intro u j ps G hu hj hI hQ
    obtain ⟨j, rfl⟩ : ∃ j', j = j' + 1 := ⟨j - 1, by omega⟩
    refine ⟨G, hI, rfl, fun _ _ => rfl, ?_⟩
    simp only [l_film_Film_Merge_4, u_film_Film_Merge_4]
    rw [decide_eq_false (by omega), cond_false]
  | succ n ih =>
    intro u j ps G hu hj hI hQ
    obtain ⟨j, rfl⟩ : ∃ j', j = j' + 1 := ⟨j - 1, by omega⟩
    simp only [l_film_Film_Merge_4, u_film_Film_Merge_4]
    have e1 : IntKind.wrap .i64 (((x0 + u : Nat) : Int) - (x0 : Int)) = (u : Int) := by rw [wrapI (by omega) (by omega)]; omega
    have e2 : IntKind.wrap .i64 (((y0 + v : Nat) : Int) - b1) = (v : Int) := by rw [hb1, wrapI (by omega) (by omega)]; omega
    have e3 : IntKind.wrap .i64 (((x0 + u : Nat) : Int) + 1) = ((x0 + (u + 1) : Nat) : Int) := by rw [wrapI (by omega) (by omega)]; omega
    have in1 : inB w' h' (u : Int) (v : Int) = true := decide_eq_true (by omega)
    have in2 : inB w h ((x0 + u : Nat) : Int) ((y0 + v : Nat) : Int) = true := decide_eq_true (by omega)
    rw [decide_eq_true (by omega), cond_true, hQ.ld, Option.bind_some, e1, e2, hA G gb gc w' h' qs hQ.img, At_open, hI.ld, Option.bind_some, in1, if_pos rfl, Int.toNat_natCast, Int.toNat_natCast, e3]
    obtain ⟨p, hp⟩ : ∃ p, p = qs.getD (v * w' + u) Px.zero := ⟨_, rfl⟩
    rw [← hp]
    obtain ⟨G1, g1, g2, g3, g4⟩ := (hS G b c w h ps hI.img ((x0 + u : Nat) : Int) ((y0 + v : Nat) : Int) p fun v16 G17 => (ivInt .i64 v16).bind fun x18 => l_film_Film_Merge_4 O K2 j ⟨f, 0⟩ ⟨g, 0⟩ ((y0 + v : Nat) : Int) ((x0 + (u + 1) : Nat) : Int) (x0 : Int) b1 ((x0 + w' : Nat) : Int) b3 G17).2 in2
    rw [Int.toNat_natCast, Int.toNat_natCast] at g1
    have hI1 : Flm G1 f b c w h (ps.set ((y0 + v) * w + (x0 + u)) p) := by
      obtain ⟨e, hf⟩ := hI.hf
      exact ⟨g1, ⟨e, by rw [g3 f hI.ne]; exact hf⟩, hI.ne, set_w hI.wide _ (by rw [hp]; exact getD_w hQ.wide _)⟩
    have hQ1 : Flm G1 g gb gc w' h' qs := hQ.keep fun i hi => g3 i (by rcases hi with rfl | rfl | rfl <;> assumption)
    obtain ⟨G2, k1, k2, k3, k4⟩ := ih (u + 1) j _ G1 (by omega) (by omega) hI1 hQ1
    rw [hp] at k1
    refine ⟨G2, k1, by rw [k2, g2], fun i hi => (k3 i hi).trans (g3 i hi), ?_⟩
    unfold pcs at g4
    refine Eq.trans g4 ?_
    rw [ivI]
    exact k4

theorem merge3 {O : Ora R} {F : Nat} (hF : 1100 ≤ F) (hA : SAt O) (hS : SSet O) (K0 : Int → Int → Int → Int → GH → Option R) {f b c w h g gb gc w' h' : Nat} {qs : List Px} (n1 : g ≠ c) (n2 : gb ≠ c) (n3 : gc ≠ c) {x0 y0 : Nat} (hx : x0 + w' ≤ w) (hy : y0 + h' ≤ h) (hw : w ≤ 1024) (hh : h ≤ 1024) :
    ∀ (n v j : Nat) (ps : List Px) (G : GH), v + n = h' → n < j → Flm G f b c w h ps → Flm G g gb gc w' h' qs →
      ∃ G', Flm G' f b c w h (mall qs w w' x0 y0 n v ps) ∧ G'.length = G.length ∧ (∀ i, i ≠ c → G'[i]? = G[i]?) ∧
        l_film_Film_Merge_3 O F K0 j ⟨f, 0⟩ ⟨g, 0⟩ ((y0 + v : Nat) : Int) (x0 : Int) (y0 : Int) ((x0 + w' : Nat) : Int) ((y0 + h' : Nat) : Int) G = K0 (x0 : Int) (y0 : Int) ((x0 + w' : Nat) : Int) ((y0 + h' : Nat) : Int) G' := by
  intro n
  induction n with
  | zero =>
    intro v j ps G hu hj hI hQ
    obtain ⟨j, rfl⟩ : ∃ j', j = j' + 1 := ⟨j - 1, by omega⟩
    refine ⟨G, hI, rfl, fun _ _ => rfl, ?_⟩
    simp only [l_film_Film_Merge_3, u_film_Film_Merge_3]
    rw [decide_eq_false (by omega), cond_false]
  | succ n ih =>
    intro v j ps G hu hj hI hQ
    obtain ⟨j, rfl⟩ : ∃ j', j = j' + 1 := ⟨j - 1, by omega⟩
    simp only [l_film_Film_Merge_3, u_film_Film_Merge_3, L_film_Film_Merge_4]
    rw [decide_eq_true (by omega), cond_true]
    obtain ⟨G1, g1, g2, g3, g4⟩ := merge4 hA hS (a_film_Film_Merge_42 O (l_film_Film_Merge_3 O F K0 j) K0) (f := f) (b := b) (h := h) (h' := h') n1 n2 n3 (v := v) (by omega) hx hy hw hh (y0 : Int) ((y0 + h' : Nat) : Int) rfl w' 0 F ps G (by omega) (by omega) hI hQ
    rw [Nat.add_zero] at g4
    rw [g4]
    simp only [a_film_Film_Merge_42]
    have e3 : IntKind.wrap .i64 (((y0 + v : Nat) : Int) + 1) = ((y0 + (v + 1) : Nat) : Int) := by rw [wrapI (by omega) (by omega)]; omega
    rw [e3]
    have hQ1 : Flm G1 g gb gc w' h' qs := hQ.keep fun i hi => g3 i (by rcases hi with rfl | rfl | rfl <;> assumption)
    obtain ⟨G2, k1, k2, k3, k4⟩ := ih (v + 1) j _ G1 (by omega) (by omega) g1 hQ1
    exact ⟨G2, k1, by rw [k2, g2], fun i hi => (k3 i hi).trans (g3 i hi), k4⟩

abbrev SMerge (O : Ora R) : Prop := ∀ (G : GH) (f b c w h : Nat) (ps : List Px) (g gb gc w' h' : Nat) (qs : List Px), Flm G f b c w h ps → Flm G g gb gc w' h' qs → g ≠ c → gb ≠ c → gc ≠ c → ∀ (x0 y0 x1 y1 : Int) (k : IV → GH → Option R),
  (¬ okJ w h x0 y0 x1 y1 → O fn_film_Film_Merge [.ptr (some ⟨f, 0⟩), .ptr (some ⟨g, 0⟩), .agg [.int .i64 x0, .int .i64 y0, .int .i64 x1, .int .i64 y1]] G k = k (.int .i64 2) G) ∧
  (okJ w h x0 y0 x1 y1 → ¬ ((w' : Int) = x1 - x0 ∧ (h' : Int) = y1 - y0) → O fn_film_Film_Merge [.ptr (some ⟨f, 0⟩), .ptr (some ⟨g, 0⟩), .agg [.int .i64 x0, .int .i64 y0, .int .i64 x1, .int .i64 y1]] G k = k (.int .i64 70) G) ∧
  (okJ w h x0 y0 x1 y1 → (w' : Int) = x1 - x0 → (h' : Int) = y1 - y0 → ∃ G', Flm G' f b c w h (mall qs w w' x0.toNat y0.toNat h' 0 ps) ∧ G'.length = G.length ∧ (∀ i, i ≠ c → G'[i]? = G[i]?) ∧ O fn_film_Film_Merge [.ptr (some ⟨f, 0⟩), .ptr (some ⟨g, 0⟩), .agg [.int .i64 x0, .int .i64 y0, .int .i64 x1, .int .i64 y1]] G k = k (.int .i64 0) G')

theorem pairII {β : Type} (x y : Int) (f : Int → Int → Option β) : ((ivTup 2 (.tuple [.int .i64 x, .int .i64 y])).bind fun c => (ivInt .i64 (c.getD 0 undefI)).bind fun a => (ivInt .i64 (c.getD 1 undefI)).bind fun b => f a b) = f x y := rfl

theorem merge_body {O : Ora R} {F : Nat} (hF : 1100 ≤ F) (hSz : SSize O) (hA : SAt O) (hS : SSet O) {G : GH} {f b c w h : Nat} {ps : List Px} {g gb gc w' h' : Nat} {qs : List Px} (hI : Flm G f b c w h ps) (hQ : Flm G g gb gc w' h' qs) (n1 : g ≠ c) (n2 : gb ≠ c) (n3 : gc ≠ c) (x0 y0 x1 y1 : Int) (k : IV → GH → Option R) :
    (¬ okJ w h x0 y0 x1 y1 → u_film_Film_Merge O k (L_film_Film_Merge_0 O F k) ⟨f, 0⟩ ⟨g, 0⟩ x0 y0 x1 y1 G = k (.int .i64 2) G) ∧
    (okJ w h x0 y0 x1 y1 → ¬ ((w' : Int) = x1 - x0 ∧ (h' : Int) = y1 - y0) → u_film_Film_Merge O k (L_film_Film_Merge_0 O F k) ⟨f, 0⟩ ⟨g, 0⟩ x0 y0 x1 y1 G = k (.int .i64 70) G) ∧
    (okJ w h x0 y0 x1 y1 → (w' : Int) = x1 - x0 → (h' : Int) = y1 - y0 → ∃ G', Flm G' f b c w h (mall qs w w' x0.toNat y0.toNat h' 0 ps) ∧ G'.length = G.length ∧ (∀ i, i ≠ c → G'[i]? = G[i]?) ∧ u_film_Film_Merge O k (L_film_Film_Merge_0 O F k) ⟨f, 0⟩ ⟨g, 0⟩ x0 y0 x1 y1 G = k (.int .i64 0) G') := by
  have hw := hI.img.hw
  have hh := hI.img.hh
  have start : u_film_Film_Merge O k (L_film_Film_Merge_0 O F k) ⟨f, 0⟩ ⟨g, 0⟩ x0 y0 x1 y1 G = u_film_Film_Merge_1 O (a_film_Film_Merge_1ret O k) (a_film_Film_Merge_1N O k (L_film_Film_Merge_2 O F k)) ⟨f, 0⟩ ⟨g, 0⟩ w h x0 y0 x1 y1 G := by
    simp only [u_film_Film_Merge, L_film_Film_Merge_0]
    rw [stepF (by omega)]
    simp only [l_film_Film_Merge_0, u_film_Film_Merge_0, a_film_Film_Merge_0N]
    rw [hI.ld, Option.bind_some, hSz G b c w h ps hI.img, pairII]
    simp only [L_film_Film_Merge_1]
    rw [stepF (by omega)]
    simp only [l_film_Film_Merge_1]
  have okS : okJ w h x0 y0 x1 y1 → u_film_Film_Merge O k (L_film_Film_Merge_0 O F k) ⟨f, 0⟩ ⟨g, 0⟩ x0 y0 x1 y1 G = u_film_Film_Merge_2 O (a_film_Film_Merge_2ret O k) (a_film_Film_Merge_2N O k (L_film_Film_Merge_3 O F k)) ⟨f, 0⟩ ⟨g, 0⟩ x0 y0 x1 y1 G := by
    intro hok
    obtain ⟨o1, o2, o3, o4, o5, o6⟩ := hok
    rw [start]
    simp only [u_film_Film_Merge_1]
    rw [decide_eq_false (show ¬ x0 < 0 by omega), cond_false, decide_eq_false (show ¬ y0 < 0 by omega), cond_false, decide_eq_false (show ¬ x1 > (w : Int) by omega), cond_false, decide_eq_false (show ¬ y1 > (h : Int) by omega), cond_false, decide_eq_false (show ¬ x0 ≥ x1 by omega), cond_false, decide_eq_false (show ¬ y0 ≥ y1 by omega), cond_false]
    simp only [a_film_Film_Merge_1N, L_film_Film_Merge_2]
    rw [stepF (by omega)]
    simp only [l_film_Film_Merge_2]
  refine ⟨fun hno => ?_, fun hok hne => ?_, fun hok e1 e2 => ?_⟩
  · rw [start]
    simp only [u_film_Film_Merge_1, a_film_Film_Merge_1ret]
    unfold okJ at hno
    by_cases h1 : x0 < 0
    · rw [decide_eq_true h1, cond_true]
    rw [decide_eq_false h1, cond_false]
    by_cases h2 : y0 < 0
    · rw [decide_eq_true h2, cond_true]
    rw [decide_eq_false h2, cond_false]
    by_cases h3 : x1 > (w : Int)
    · rw [decide_eq_true h3, cond_true]
    rw [decide_eq_false h3, cond_false]
    by_cases h4 : y1 > (h : Int)
    · rw [decide_eq_true h4, cond_true]
    rw [decide_eq_false h4, cond_false]
    by_cases h5 : x0 ≥ x1
    · rw [decide_eq_true h5, cond_true]
    rw [decide_eq_false h5, cond_false]
    by_cases h6 : y0 ≥ y1
    · rw [decide_eq_true h6, cond_true]
    exact absurd ⟨by omega, by omega, by omega, by omega, by omega, by omega⟩ hno
  · rw [okS hok]
    obtain ⟨o1, o2, o3, o4, o5, o6⟩ := hok
    simp only [u_film_Film_Merge_2, a_film_Film_Merge_2ret]
    rw [hQ.ld, Option.bind_some, hSz G gb gc w' h' qs hQ.img, pairII, wrapI (v := x1 - x0) (by omega) (by omega), wrapI (v := y1 - y0) (by omega) (by omega)]
    by_cases h1 : (w' : Int) = x1 - x0
    · have h2 : (h' : Int) ≠ y1 - y0 := fun h2 => hne ⟨h1, h2⟩
      rw [show ((w' : Int) != x1 - x0) = false by simp [h1], cond_false, show ((h' : Int) != y1 - y0) = true by simpa using h2, cond_true]
    · rw [show ((w' : Int) != x1 - x0) = true by simpa using h1, cond_true]
  · have hs := okS hok
    obtain ⟨o1, o2, o3, o4, o5, o6⟩ := hok
    obtain ⟨u, hu⟩ : ∃ u : Nat, x0 = u := ⟨x0.toNat, by omega⟩
    obtain ⟨v, hv⟩ : ∃ v : Nat, y0 = v := ⟨y0.toNat, by omega⟩
    have ex : x1 = ((u + w' : Nat) : Int) := by omega
    have ey : y1 = ((v + h' : Nat) : Int) := by omega
    obtain ⟨G', a1, a2, a3, a4⟩ := merge3 hF hA hS (a_film_Film_Merge_30 O k) n1 n2 n3 (x0 := u) (y0 := v) (by omega) (by omega) hw hh h' 0 F ps G (by omega) (by have := hQ.img.hh; omega) hI hQ
    refine ⟨G', by rw [hu, hv, Int.toNat_natCast, Int.toNat_natCast]; exact a1, a2, a3, ?_⟩
    rw [hs]
    simp only [u_film_Film_Merge_2]
    rw [hQ.ld, Option.bind_some, hSz G gb gc w' h' qs hQ.img, pairII, wrapI (v := x1 - x0) (by omega) (by omega), wrapI (v := y1 - y0) (by omega) (by omega), show ((w' : Int) != x1 - x0) = false by simp [e1], cond_false, show ((h' : Int) != y1 - y0) = false by simp [e2], cond_false]
    simp only [a_film_Film_Merge_2N, L_film_Film_Merge_3]
    rw [Nat.add_zero] at a4
    rw [hu, hv, ex, ey, a4]
    rfl
theorem wMerge {F n : Nat} (hF : 1100 ≤ F) (hn : 3 ≤ n) : SMerge (runC (R := R) Try.prog lo0 F n) := by
  obtain ⟨n, rfl⟩ : ∃ j, n = j + 3 := ⟨n - 3, by omega⟩
  intro G f b c w h ps g gb gc w' h' qs hI hQ n1 n2 n3 x0 y0 x1 y1 k
  have hr : runC (R := R) Try.prog lo0 F (n + 3) fn_film_Film_Merge [.ptr (some ⟨f, 0⟩), .ptr (some ⟨g, 0⟩), .agg [.int .i64 x0, .int .i64 y0, .int .i64 x1, .int .i64 y1]] G k = u_film_Film_Merge (runC (R := R) Try.prog lo0 F (n + 2)) k (L_film_Film_Merge_0 (runC (R := R) Try.prog lo0 F (n + 2)) F k) ⟨f, 0⟩ ⟨g, 0⟩ x0 y0 x1 y1 G := by
    rw [r_film_Film_Merge, e_film_Film_Merge]
  rw [hr]
  exact merge_body hF (wSize (by omega)) (wAt (by omega)) (wSet (by omega)) hI hQ n1 n2 n3 x0 y0 x1 y1 k
end
end Go.LI.Film
