/- FilmMerges: the walk, from the tile on. -/
import Derived.Test.YtmhoddmenfondaaRdM1
namespace Go.LI.Film
open Go.Proofs.Ytmhoddmenfondaa Go Go.Proofs Go.LI Go.LI.Fl
set_option linter.unusedVariables false
set_option linter.unusedSimpArgs false
set_option maxRecDepth 100000
theorem Drps.up {G : GH} {base b2 : Nat} {a : Option GA} {n : Nat} {ds : List Drp} (h : Drps G base a n ds) (hb : base ≤ b2) : Drps G b2 a n ds := by
  refine ⟨h.len, fun hn => ?_, h.wide⟩
  obtain ⟨b, o, e, m, cs, h1, h2, h3⟩ := h.at' hn
  exact ⟨b, o, e, m, cs, h1, by omega, h3⟩
section
variable {R : Type}
abbrev SMergeNil (O : Ora R) : Prop := ∀ (f : GA) (a b c d : Int) (G : GH) (k : IV → GH → Option R), O fn_film_Film_Merge [.ptr (some f), .ptr none, .agg [.int .i64 a, .int .i64 b, .int .i64 c, .int .i64 d]] G k = k (.int .i64 1) G
theorem e_merge_nil (O : Ora R) (fuel : Nat) (f : GA) (a b c d : Int) (G : GH) (k : IV → GH → Option R) : bodyC Try.prog O lo22 (fuel + 1) Try.f22 [.ptr (some f), .ptr none, .agg [.int .i64 a, .int .i64 b, .int .i64 c, .int .i64 d]] G k = k (.int .i64 1) G := by kernel_rfl
theorem r_merge (fuel n : Nat) (args : List IV) (G : GH) (k : IV → GH → Option R) : runC Try.prog lo0 fuel (n + 1) 22 args G k = bodyC Try.prog (runC Try.prog lo0 fuel n) lo22 fuel Try.f22 args G k := run_body Try.func22 rfl rfl
theorem wMergeNil {F n : Nat} (hF : 1 ≤ F) (hn : 1 ≤ n) : SMergeNil (runC (R := R) Try.prog lo0 F n) := by
  obtain ⟨n, rfl⟩ : ∃ j, n = j + 1 := ⟨n - 1, by omega⟩
  obtain ⟨F, rfl⟩ : ∃ F', F = F' + 1 := ⟨F - 1, by omega⟩
  intro f a b c d G k
  rw [r_merge, e_merge_nil]

theorem merges_end {O : Ora R} {F : Nat} (hF : 100 ≤ F) (hPx : SFPixel O) (hSm : SRSamePx O) {G : GH} {f b c q : Nat} {ps : List Px} (hI : Flm G f b c 5 4 ps) (hW : Want G q ps) (b0 b1 b2 b3 : Int) (k : IV → GH → Option R) :
    a_law19_FilmMerges_4N O k (L_law19_FilmMerges_7 O F k) (some ⟨f, 0⟩) (some ⟨q, 0⟩) 20 b0 b1 b2 b3 G = k (.bool true) G := by
  simp only [a_law19_FilmMerges_4N, L_law19_FilmMerges_7]
  have h := merges7 hPx hSm (a_law19_FilmMerges_7ret O k) (a_law19_FilmMerges_72 O k) hI hW b0 b1 b2 b3 20 0 F (by omega) (by omega)
  rw [hI.img.len] at h
  exact h

/-- From the tile's film on. -/
theorem merges_mid {O : Ora R} {F : Nat} (hF : 100 ≤ F) (hPx : SFPixel O) (hSm : SRSamePx O) (hMe : SMerge O) (hNil : SMergeNil O) {G : GH} {f b c q w' h' g gb gc p o ob oc : Nat} {ps qs rs : List Px} (hI : Flm G f b c 5 4 ps) (hW : Want G q ps) (hQ : Flm G g gb gc w' h' qs) (hP : Want G p qs) (hO : Flm G o ob oc (w' + 1) h' rs)
    (n1 : g ≠ c) (n2 : gb ≠ c) (n3 : gc ≠ c) (m1 : o ≠ c) (m2 : ob ≠ c) (m3 : oc ≠ c) (z1 : q ≠ c) (z2 : p ≠ c) (z3 : p ≠ q) (z4 : f ≠ q) (z5 : b ≠ q) (hw : 1 ≤ w') (x0 y0 x1 y1 : Int) (s10 : Bool) (hs : s10 = true ↔ okJ 5 4 x0 y0 x1 y1) (he : s10 = true → (w' : Int) = x1 - x0 ∧ (h' : Int) = y1 - y0) (k : IV → GH → Option R) :
    ∃ G', a_law19_FilmMerges_3N O k (L_law19_FilmMerges_4 O F k) (some ⟨f, 0⟩) (some ⟨q, 0⟩) 20 s10 (w' : Int) (some ⟨g, 0⟩) (some ⟨p, 0⟩) (w' * h') (some ⟨o, 0⟩) x0 y0 x1 y1 G = k (.bool true) G' := by
  simp only [a_law19_FilmMerges_3N, L_law19_FilmMerges_4]
  rw [stepF (by omega)]
  simp only [l_law19_FilmMerges_4, u_law19_FilmMerges_4]
  cases s10 with
  | false =>
    have hno : ¬ okJ 5 4 x0 y0 x1 y1 := fun h => by have := hs.2 h; cases this
    refine ⟨G, ?_⟩
    rw [Bool.not_false, cond_true, (hMe G f b c 5 4 ps g gb gc w' h' qs hI hQ n1 n2 n3 x0 y0 x1 y1 _).1 hno, ivI, show ((2 : Int) != 2) = false from rfl, cond_false]
    exact merges_end hF hPx hSm hI hW x0 y0 x1 y1 k
  | true =>
    have hok := hs.1 rfl
    obtain ⟨e1, e2⟩ := he rfl
    have hok' := hok
    obtain ⟨o1, o2, o3, o4, o5, o6⟩ := hok'
    rw [Bool.not_true, cond_false]
    simp only [L_law19_FilmMerges_5]
    rw [stepF (by omega)]
    simp only [l_law19_FilmMerges_5, u_law19_FilmMerges_5]
    rw [(hMe G f b c 5 4 ps o ob oc (w' + 1) h' rs hI hO m1 m2 m3 x0 y0 x1 y1 _).2.1 hok (fun h => by omega), ivI, show ((70 : Int) != 70) = false from rfl, cond_false, hNil, ivI, show ((1 : Int) != 1) = false from rfl, cond_false]
    obtain ⟨G1, a1, a2, a3, a4⟩ := (hMe G f b c 5 4 ps g gb gc w' h' qs hI hQ n1 n2 n3 x0 y0 x1 y1 fun v7 G8 => (ivInt .i64 v7).bind fun x9 => bif (x9 != (0 : Int)) then a_law19_FilmMerges_5ret O (a_law19_FilmMerges_4ret O k) (a_law19_FilmMerges_4N O k (L_law19_FilmMerges_7 O F k)) false x0 y0 x1 y1 G8 else a_law19_FilmMerges_5N O (a_law19_FilmMerges_4ret O k) (a_law19_FilmMerges_4N O k (L_law19_FilmMerges_7 O F k)) (L_law19_FilmMerges_6 O F (a_law19_FilmMerges_4ret O k) (a_law19_FilmMerges_4N O k (L_law19_FilmMerges_7 O F k))) (some ⟨f, 0⟩) (some ⟨q, 0⟩) 20 (w' : Int) (some ⟨p, 0⟩) (w' * h') x0 y0 x1 y1 G8).2.2 hok e1 e2
    obtain ⟨u, hu⟩ : ∃ u : Nat, x0 = u := ⟨x0.toNat, by omega⟩
    obtain ⟨v, hv⟩ : ∃ v : Nat, y0 = v := ⟨y0.toNat, by omega⟩
    have hW1 : Want G1 q ps := by obtain ⟨e, h⟩ := hW; exact ⟨e, by rw [a3 q z1]; exact h⟩
    have hP1 : Want G1 p qs := by obtain ⟨e, h⟩ := hP; exact ⟨e, by rw [a3 p z2]; exact h⟩
    have hql := hQ.img.len
    have hbnd : w' * h' ≤ 5 * 4 := Nat.mul_le_mul (by omega) (by omega)
    obtain ⟨G2, k1, k2, k3, k4⟩ := merges6 (O := O) (a_law19_FilmMerges_60 O (a_law19_FilmMerges_4ret O k) (a_law19_FilmMerges_4N O k (L_law19_FilmMerges_7 O F k))) (s7 := some ⟨f, 0⟩) z3 (x0 := u) (y0 := v) (h' := h') (by omega) (by omega) hw hql x1 y1 (w' * h') 0 F ps G1 (by omega) (by omega) hI.img.len hW1 hP1
    rw [hu, hv, Int.toNat_natCast, Int.toNat_natCast, mall_copy, Nat.zero_mul, Nat.mul_comm h' w'] at a1
    have hI2 : Flm G2 f b c 5 4 (copyL qs 5 w' u v (w' * h') 0 ps) := a1.keep fun i hi => k3 i (by rcases hi with rfl | rfl | rfl; exact z4; exact z5; exact fun h => z1 h.symm)
    refine ⟨G2, a4.trans ?_⟩
    rw [ivI, show ((0 : Int) != 0) = false from rfl, cond_false]
    simp only [a_law19_FilmMerges_5N, L_law19_FilmMerges_6]
    rw [hql] at k4
    rw [hu, hv]
    refine k4.trans ?_
    simp only [a_law19_FilmMerges_60]
    exact merges_end hF hPx hSm hI2 k1 _ _ _ _ k
end
end Go.LI.Film
