/- FilmTiles: the loops. -/
import Derived.Test.YtmhoddmenfondaaRdTa
import Derived.Test.YtmhoddmenfondaaRdTb
import Derived.Test.YtmhoddmenfondaaRdPh
namespace Go.LI.Film
open Go.Proofs.Ytmhoddmenfondaa Go Go.Proofs Go.LI Go.LI.Fl
set_option linter.unusedVariables false
set_option linter.unusedSimpArgs false
set_option maxRecDepth 100000
section
variable {R : Type}

/-- A part's drops. -/
theorem tiles2 {O : Ora R} {F : Nat} (hF : 1 ≤ F) (hAdd : SFAdd O) (K2 : Int → Int → Option GA → Nat → Option GA → Option GA → Option GA → Option GA → Nat → Int → Int → Int → Int → Int → Int → GH → Option R) {g gb gc w' h' base n x0 y0 : Nat} {sa : Option GA} {ds : List Drp} (hbc : base ≤ gc) (s0 s1 : Int) (s9 s14 ja : Option GA) (jn : Nat) (s78 s79 x1 y1 : Int) :
    ∀ (r i j : Nat) (qs : List Px) (G : GH), i + r = min n 200 → r < j → Drps G base sa n ds → Flm G g gb gc w' h' qs →
      ∃ G', Flm G' g gb gc w' h' (dropsPx w' h' qs (((ds.take 200).map (shD x0 y0)).drop i)) ∧ G'.length = G.length ∧ (∀ t, t ≠ gc → G'[t]? = G[t]?) ∧
        l_law19_FilmTiles_2 O F K2 j s0 s1 sa n s9 s14 (some ⟨g, 0⟩) (i : Int) ja jn s78 s79 (x0 : Int) (y0 : Int) x1 y1 G = K2 s0 s1 sa n s9 s14 (some ⟨g, 0⟩) ja jn s78 s79 (x0 : Int) (y0 : Int) x1 y1 G' := by
  intro r
  induction r with
  | zero =>
    intro i j qs G hi hj hD hQ
    obtain ⟨j, rfl⟩ : ∃ j', j = j' + 1 := ⟨j - 1, by omega⟩
    have hnil : ((ds.take 200).map (shD x0 y0)).drop i = [] := List.drop_eq_nil_of_le (by rw [List.length_map, List.length_take, hD.len]; omega)
    rw [hnil]
    refine ⟨G, hQ, rfl, fun _ _ => rfl, ?_⟩
    simp only [l_law19_FilmTiles_2, u_law19_FilmTiles_2, L_law19_FilmTiles_3]
    rw [stepF hF]
    simp only [l_law19_FilmTiles_3, u_law19_FilmTiles_3, a_law19_FilmTiles_32]
    by_cases h1 : (i : Int) < (n : Int)
    · rw [decide_eq_true h1, cond_true, decide_eq_false (by omega), cond_false]
    · rw [decide_eq_false h1, cond_false]
  | succ r ih =>
    intro i j qs G hi hj hD hQ
    obtain ⟨j, rfl⟩ : ∃ j', j = j' + 1 := ⟨j - 1, by omega⟩
    have hlt : i < (ds.take 200).length := by rw [List.length_take, hD.len]; omega
    have hlt' : i < ds.length := by rw [hD.len]; omega
    have hd : ds[i]? = some ds[i] := List.getElem?_eq_getElem hlt'
    obtain ⟨d, hdd⟩ : ∃ d, d = ds[i] := ⟨_, rfl⟩
    rw [← hdd] at hd
    have hcons : ((ds.take 200).map (shD x0 y0)).drop i = shD x0 y0 d :: ((ds.take 200).map (shD x0 y0)).drop (i + 1) := by
      rw [List.drop_eq_getElem_cons (by rw [List.length_map]; exact hlt), List.getElem_map, List.getElem_take, hdd]
    rw [hcons]
    have hdw : W6 d.a := hD.wide d (List.mem_of_getElem? hd)
    obtain ⟨ga, l1, l2, l3, l4, l5⟩ := hD.ld hd
    have lf : ∀ j, j < 6 → ldFloat G .f64 (GA.add (GA.add ga 2) j) = some (d.a j) := fun j hj => by
      have := l4 j hj
      simpa [GA.add, Nat.add_assoc] using this
    simp only [l_law19_FilmTiles_2, u_law19_FilmTiles_2, L_law19_FilmTiles_3]
    rw [stepF hF]
    simp only [l_law19_FilmTiles_3, u_law19_FilmTiles_3]
    rw [decide_eq_true (show (i : Int) < (n : Int) by omega), cond_true, decide_eq_true (show (i : Int) < 200 by omega), cond_true]
    simp only [a_law19_FilmTiles_3N]
    rw [l1, Option.bind_some, l2, Option.bind_some, Option.bind_some, l3, Option.bind_some, Option.bind_some, lf 0 (by decide), Option.bind_some, lf 1 (by decide), Option.bind_some, lf 2 (by decide), Option.bind_some, lf 3 (by decide), Option.bind_some, lf 4 (by decide), Option.bind_some, lf 5 (by decide), Option.bind_some, Option.bind_some, l5, Option.bind_some]
    rw [wrapI (v := (i : Int) + 1) (by omega) (by omega), show (i : Int) + 1 = ((i + 1 : Nat) : Int) by omega]
    have step : ∃ G1, Flm G1 g gb gc w' h' (dropPx w' h' qs (shD x0 y0 d)) ∧ G1.length = G.length ∧ (∀ t, t ≠ gc → G1[t]? = G[t]?) ∧
        (O fn_film_Film_Add [.ptr (some ⟨g, 0⟩), .int .i64 (IntKind.wrap .i64 (d.x - (x0 : Int))), .int .i64 (IntKind.wrap .i64 (d.y - (y0 : Int))), .agg [.float .f64 (d.a 0), .float .f64 (d.a 1), .float .f64 (d.a 2), .float .f64 (d.a 3), .float .f64 (d.a 4), .float .f64 (d.a 5), .bool (!d.dim), .slice none 0]] G fun v14 G15 =>
          (ivInt .i64 v14).bind fun x16 => l_law19_FilmTiles_2 O F K2 j s0 s1 sa n s9 s14 (some ⟨g, 0⟩) ((i + 1 : Nat) : Int) ja jn s78 s79 (x0 : Int) (y0 : Int) x1 y1 G15) =
        l_law19_FilmTiles_2 O F K2 j s0 s1 sa n s9 s14 (some ⟨g, 0⟩) ((i + 1 : Nat) : Int) ja jn s78 s79 (x0 : Int) (y0 : Int) x1 y1 G1 := by
      have hA := hAdd G g gb gc w' h' qs hQ (IntKind.wrap .i64 (d.x - (x0 : Int))) (IntKind.wrap .i64 (d.y - (y0 : Int))) d.a (!d.dim) none 0 hdw fun v14 G15 =>
          (ivInt .i64 v14).bind fun x16 => l_law19_FilmTiles_2 O F K2 j s0 s1 sa n s9 s14 (some ⟨g, 0⟩) ((i + 1 : Nat) : Int) ja jn s78 s79 (x0 : Int) (y0 : Int) x1 y1 G15
      unfold SM at hA
      have hdp : dropPx w' h' qs (shD x0 y0 d) = if inB w' h' (IntKind.wrap .i64 (d.x - (x0 : Int))) (IntKind.wrap .i64 (d.y - (y0 : Int))) = true then qs.set ((IntKind.wrap .i64 (d.y - (y0 : Int))).toNat * w' + (IntKind.wrap .i64 (d.x - (x0 : Int))).toNat) (addPx (qs.getD ((IntKind.wrap .i64 (d.y - (y0 : Int))).toNat * w' + (IntKind.wrap .i64 (d.x - (x0 : Int))).toNat) Px.zero) d.a (!d.dim)) else qs := rfl
      rw [hdp]
      cases hin : inB w' h' (IntKind.wrap .i64 (d.x - (x0 : Int))) (IntKind.wrap .i64 (d.y - (y0 : Int))) with
      | false =>
        rw [if_neg (by simp)]
        refine ⟨G, hQ, rfl, fun _ _ => rfl, ?_⟩
        refine (hA.1 hin).trans ?_
        rw [ivI]
      | true =>
        rw [if_pos rfl]
        obtain ⟨G1, q1, q2, q3, q4⟩ := hA.2 hin
        refine ⟨G1, q1, q2, q3, ?_⟩
        refine q4.trans ?_
        rw [ivI]
    obtain ⟨G1, q1, q2, q3, q4⟩ := step
    have hD1 : Drps G1 base sa n ds := hD.keep fun t ht => q3 t (by omega)
    obtain ⟨G2, k1, k2, k3, k4⟩ := ih (i + 1) j _ G1 (by omega) (by omega) hD1 q1
    exact ⟨G2, k1, by rw [k2, q2], fun t ht => (k3 t ht).trans (q3 t ht), q4.trans k4⟩

/-- The comparing. -/
theorem tiles4 {O : Ora R} (hPx : SFPixel O) (hSm : SRSamePx O) (Kret : Bool → GH → Option R) (K4 : GH → Option R) {G : GH} {f b c f' b' c' w h : Nat} {ps os : List Px} (hw1 : 1 ≤ w) (hw : w ≤ 6) (hh : h ≤ 6) (hI : Flm G f b c w h ps) (hO : Flm G f' b' c' w h os) (he : ∀ x y, x < w → y < h → os.getD (y * w + x) Px.zero = ps.getD (y * w + x) Px.zero) :
    ∀ (r i j : Nat), i + r = w * h → r < j → l_law19_FilmTiles_4 O Kret K4 j w h (some ⟨f, 0⟩) (some ⟨f', 0⟩) (i : Int) G = K4 G := by
  have hwh : w * h ≤ 6 * 6 := Nat.mul_le_mul hw hh
  have hwr : IntKind.wrap .i64 ((w : Int) * (h : Int)) = ((w * h : Nat) : Int) := by
    rw [← Int.natCast_mul, wrapI (by omega) (by omega)]
  have hz : ((w : Int) == 0) = false := by rw [beq_eq_false_iff_ne]; omega
  intro r
  induction r with
  | zero =>
    intro i j hi hj
    obtain ⟨j, rfl⟩ : ∃ j', j = j' + 1 := ⟨j - 1, by omega⟩
    simp only [l_law19_FilmTiles_4, u_law19_FilmTiles_4]
    rw [hwr, decide_eq_false (by omega), cond_false]
  | succ r ih =>
    intro i j hi hj
    obtain ⟨j, rfl⟩ : ∃ j', j = j' + 1 := ⟨j - 1, by omega⟩
    have hx : i % w < w := Nat.mod_lt _ (by omega)
    have hy : i / w < h := by rw [Nat.div_lt_iff_lt_mul (by omega), Nat.mul_comm]; omega
    have hi' : i / w * w + i % w = i := by rw [Nat.mul_comm]; exact Nat.div_add_mod i w
    have e1 : Int.tmod (i : Int) (w : Int) = ((i % w : Nat) : Int) := by rw [Int.tmod_eq_emod_of_nonneg (by omega)]; rfl
    have hyi : ((i / w : Nat) : Int) < 6 := by exact_mod_cast Nat.lt_of_lt_of_le hy hh
    have hy0 : 0 ≤ ((i / w : Nat) : Int) := Int.natCast_nonneg _
    have e2 : IntKind.wrap .i64 (Int.tdiv (i : Int) (w : Int)) = ((i / w : Nat) : Int) := by
      rw [Int.tdiv_eq_ediv_of_nonneg (by omega), ← Int.natCast_ediv]
      generalize ((i / w : Nat) : Int) = z at hyi hy0
      exact wrapI (by omega) (by omega)
    have hin : inB w h ((i % w : Nat) : Int) ((i / w : Nat) : Int) = true := decide_eq_true ⟨Int.natCast_nonneg _, by exact_mod_cast hx, Int.natCast_nonneg _, by exact_mod_cast hy⟩
    have hev := he (i % w) (i / w) hx hy
    rw [hi'] at hev
    simp only [l_law19_FilmTiles_4, u_law19_FilmTiles_4]
    rw [hwr, decide_eq_true (by omega), cond_true, hz, cond_false, cond_false, e1, e2, hPx G f b c w h ps hI, At_open, hin, if_pos rfl, Int.toNat_natCast, Int.toNat_natCast, hi', cond_false, cond_false, hPx G f' b' c' w h os hO, At_open, hin, if_pos rfl, Int.toNat_natCast, Int.toNat_natCast, hi', hev]
    have hs := hSm (ps.getD i Px.zero).a (ps.getD i Px.zero).c (ps.getD i Px.zero).d G
    unfold PX at hs
    rw [hs, ivB, Bool.not_true, cond_false, wrapI (by omega) (by omega), show (i : Int) + 1 = ((i + 1 : Nat) : Int) by omega]
    exact ih (i + 1) j (by omega) (by omega)
end
end Go.LI.Film
