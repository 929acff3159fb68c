/- FilmAdds: the walk, whole. -/
import Derived.Test.YtmhoddmenfondaaRdZj
import Derived.Test.YtmhoddmenfondaaRdZk
import Derived.Test.YtmhoddmenfondaaRdPt
namespace Go.LI.Film
open Go.Proofs.Ytmhoddmenfondaa Go Go.Proofs Go.LI Go.LI.Fl
set_option linter.unusedVariables false
set_option linter.unusedSimpArgs false
set_option maxRecDepth 100000
section
variable {R : Type}
theorem adds_loop {O : Ora R} (hPx : SFPixel O) (hSm : SRSamePx O) (hM : SMean O) (hRM : SRMean O) (hS3 : SRSame O) (Kret : Bool → GH → Option R) (K0 : Int → Int → Option GA → Option GA → Nat → GH → Option R) {G : GH} {f b c q w h : Nat} {ps : List Px} (hw1 : 1 ≤ w) (hw : w ≤ 6) (hh : h ≤ 6) (hI : Flm G f b c w h ps) (hW : Want G q ps) (hps : ∀ p ∈ ps, PxN p) :
    ∀ (r i j : Nat), i + r = ps.length → r < j → l_zx_0 O Kret K0 j w h (some ⟨f, 0⟩) (some ⟨q, 0⟩) ps.length (ps.length : Int) (i : Int) G = K0 w h (some ⟨f, 0⟩) (some ⟨q, 0⟩) ps.length G := by
  have hlen := hI.img.len
  have hwh : w * h ≤ 6 * 6 := Nat.mul_le_mul hw hh
  have hz : ((w : Int) == 0) = false := by rw [beq_eq_false_iff_ne]; omega
  intro r
  induction r with
  | zero =>
    intro i j hi hj
    obtain ⟨j, rfl⟩ : ∃ j', j = j' + 1 := ⟨j - 1, by omega⟩
    simp only [l_zx_0, u_zx_0]
    rw [decide_eq_false (by omega), cond_false]
  | succ r ih =>
    intro i j hi hj
    obtain ⟨j, rfl⟩ : ∃ j', j = j' + 1 := ⟨j - 1, by omega⟩
    have hlt : i < ps.length := by omega
    have hx : i % w < w := Nat.mod_lt _ (by omega)
    have hy : i / w < h := by rw [Nat.div_lt_iff_lt_mul (by omega), Nat.mul_comm]; omega
    have hi' : i / w * w + i % w = i := by rw [Nat.mul_comm]; exact Nat.div_add_mod i w
    have e1 : Int.tmod (i : Int) (w : Int) = ((i % w : Nat) : Int) := by rw [Int.tmod_eq_emod_of_nonneg (by omega)]; rfl
    have hyi : ((i / w : Nat) : Int) < 6 := by exact_mod_cast Nat.lt_of_lt_of_le hy hh
    have hy0 : 0 ≤ ((i / w : Nat) : Int) := Int.natCast_nonneg _
    have e2 : IntKind.wrap .i64 (Int.tdiv (i : Int) (w : Int)) = ((i / w : Nat) : Int) := by
      rw [Int.tdiv_eq_ediv_of_nonneg (by omega), ← Int.natCast_ediv]
      generalize ((i / w : Nat) : Int) = z at hyi hy0
      exact wrapI (by omega) (by omega)
    have hin : inB w h ((i % w : Nat) : Int) ((i / w : Nat) : Int) = true := decide_eq_true ⟨Int.natCast_nonneg _, by exact_mod_cast hx, Int.natCast_nonneg _, by exact_mod_cast hy⟩
    obtain ⟨l1, l2, l3⟩ := hW.ld hlt
    obtain ⟨p, hp⟩ : ∃ p, p = ps.getD i Px.zero := ⟨_, rfl⟩
    have hpi : ps[i]? = some p := by rw [hp, List.getD_eq_getElem?_getD, List.getElem?_eq_getElem hlt]; rfl
    have hpn : PxN p := hps p (List.mem_of_getElem? hpi)
    rw [← hp] at l2 l3
    have m := fun G k => hM p hpn G k
    have rm := fun G k => hRM p hpn G k
    have mo := fun f => F6_open (β := R) (meanA p) f
    have hs := fun G k => hSm p.a p.c p.d G k
    have h3 := fun G k => hS3 (meanA p) G k
    unfold pcs at m rm
    unfold F6 at m rm mo h3
    unfold PX at hs
    simp only [l_zx_0, u_zx_0]
    rw [decide_eq_true (by omega), cond_true, hz, cond_false, cond_false, e1, e2, hPx G f b c w h ps hI, At_open, hin, if_pos rfl, if_pos rfl, Int.toNat_natCast, Int.toNat_natCast, hi', ← hp, show ((0 : Int) != 0) = false from rfl, cond_false]
    rw [l1, Option.bind_some, l2 0 _ (by decide) rfl, Option.bind_some, l2 1 _ (by decide) rfl, Option.bind_some, l2 2 _ (by decide) rfl, Option.bind_some, l2 3 _ (by decide) rfl, Option.bind_some, l2 4 _ (by decide) rfl, Option.bind_some, l2 5 _ (by decide) rfl, Option.bind_some, l3 6 _ (by decide) rfl, Option.bind_some, l3 7 _ (by decide) rfl, Option.bind_some, hs, ivB, Bool.not_true, cond_false, m, mo]
    rw [Option.bind_some, l2 0 _ (by decide) rfl, Option.bind_some, l2 1 _ (by decide) rfl, Option.bind_some, l2 2 _ (by decide) rfl, Option.bind_some, l2 3 _ (by decide) rfl, Option.bind_some, l2 4 _ (by decide) rfl, Option.bind_some, l2 5 _ (by decide) rfl, Option.bind_some, l3 6 _ (by decide) rfl, Option.bind_some, l3 7 _ (by decide) rfl, Option.bind_some, rm, mo, h3, ivB, Bool.not_true, cond_false, wrapI (by omega) (by omega), show (i : Int) + 1 = ((i + 1 : Nat) : Int) by omega]
    exact ih (i + 1) j (by omega) (by omega)

theorem adds_body {O : Ora R} {F : Nat} (hF : 1100 ≤ F) (hAw : SAw O) (hVd : SValidD O F) (hDr : SDropped O) (hPx : SFPixel O) (hSm : SRSamePx O) (hM : SMean O) (hRM : SRMean O) (hS3 : SRSame O) (hPi : SPicture O) (hRP : SRPicture O) (hS8 : SSame8 O) (hSR : SSameRep O) {G : GH} {sa : Option GA} {n : Nat} {ds : List Drp} (hD : Drps G G.length sa n ds) (hn : n < F ∧ n < 2 ^ 60) (p0 p1 : Int) (k : IV → GH → Option R) :
    ∃ G', u_zx O k (L_zx_0 O F k) p0 p1 sa n G = k (.bool true) G' := by
  obtain ⟨w, w1, w2, ew⟩ := side_of p0 (m := 6) (by decide) (by decide)
  obtain ⟨h, h1, h2, eh⟩ := side_of p1 (m := 6) (by decide) (by decide)
  simp only [u_zx]
  rw [show ((6 : Nat) : Int) = 6 from rfl] at ew eh
  rw [hAw, ivB, Bool.not_true, cond_false, hVd G _ sa n ds hD hn.1 hn.2, ivB, ew, eh]
  cases validD ds with
  | false => exact ⟨G, by rw [Bool.not_false, cond_true]⟩
  | true =>
    rw [Bool.not_true, cond_false]
    have hwh : w * h ≤ 6 * 6 := Nat.mul_le_mul w2 h2
    obtain ⟨G1, a1, a2, a3, a4, a5⟩ := hDr w h w1 (by omega) h1 (by omega) (by omega) G sa n ds hD fun v7 G8 =>
      (ivTup 3 v7).bind fun c9 => (ivPtr (c9.getD 0 undefI)).bind fun x10 => (ivSlice (c9.getD 1 undefI)).bind fun x11 => (ivBool (c9.getD 2 undefI)).bind fun x12 =>
      bif (!x12) then k (.bool false) G8 else L_zx_0 O F k (w : Int) (h : Int) x10 x11.1 x11.2 (x11.2 : Int) (0 : Int) G8
    have hok := drops_ok w h (w * h) ds
    generalize dropsPx w h (List.replicate (w * h) Px.zero) (ds.take 200) = ps at a3 a4 hok
    have hlen := a3.img.len
    have hl := adds_loop (O := O) hPx hSm hM hRM hS3 (a_zx_0ret O k) (a_zx_00 O k) w1 w2 h2 a3 a4 hok ps.length 0 F (by omega) (by omega)
    obtain ⟨a, G2, b1, b2, b3⟩ := hPi G1 _ _ _ w h ps a3 hok (by omega) fun v1 G2 =>
      (ivTup 2 v1).bind fun c3 => (ivAgg 3 (c3.getD 0 undefI)).bind fun c4 => (ivInt .i64 (c4.getD 0 undefI)).bind fun x5 => (ivInt .i64 (c4.getD 1 undefI)).bind fun x6 => (ivSlice (c4.getD 2 undefI)).bind fun x7 => (ivAgg 3 (c3.getD 1 undefI)).bind fun c8 => (ivInt .i64 (c8.getD 0 undefI)).bind fun x9 => (ivInt .i64 (c8.getD 1 undefI)).bind fun x10 => (ivFloat .f64 (c8.getD 2 undefI)).bind fun x11 =>
      O fn_zC [.int .i64 (w : Int), .int .i64 (h : Int), .slice (some ⟨G.length + 3, 0⟩) ps.length] G2 fun v12 G13 =>
      (ivTup 2 v12).bind fun c14 => (ivAgg 3 (c14.getD 0 undefI)).bind fun c15 => (ivInt .i64 (c15.getD 0 undefI)).bind fun x16 => (ivInt .i64 (c15.getD 1 undefI)).bind fun x17 => (ivSlice (c15.getD 2 undefI)).bind fun x18 => (ivAgg 3 (c14.getD 1 undefI)).bind fun c19 => (ivInt .i64 (c19.getD 0 undefI)).bind fun x20 => (ivInt .i64 (c19.getD 1 undefI)).bind fun x21 => (ivFloat .f64 (c19.getD 2 undefI)).bind fun x22 =>
      O fn_zm [.agg [.int .i64 x5, .int .i64 x6, .slice x7.1 x7.2], .agg [.int .i64 x16, .int .i64 x17, .slice x18.1 x18.2]] G13 fun v23 G24 =>
      (ivBool v23).bind fun x25 => bif x25 then O fn_zh1 [.agg [.int .i64 x9, .int .i64 x10, .float .f64 x11], .agg [.int .i64 x20, .int .i64 x21, .float .f64 x22]] G24 fun v26 G27 => (ivBool v26).bind fun x28 => k (.bool x28) G27 else k (.bool false) G24
    rw [← hlen] at b2 b3
    have hW2 : Want G2 (G.length + 3) ps := by
      obtain ⟨e, hw⟩ := a4
      exact ⟨e, by rw [b1.2 _ (by omega)]; exact hw⟩
    obtain ⟨a', G3, c1, c2, c3⟩ := hRP G2 (G.length + 3) ps (w : Int) (h : Int) hW2 (by have := b1.1; omega) hok (by omega) fun v12 G13 =>
      (ivTup 2 v12).bind fun c14 => (ivAgg 3 (c14.getD 0 undefI)).bind fun c15 => (ivInt .i64 (c15.getD 0 undefI)).bind fun x16 => (ivInt .i64 (c15.getD 1 undefI)).bind fun x17 => (ivSlice (c15.getD 2 undefI)).bind fun x18 => (ivAgg 3 (c14.getD 1 undefI)).bind fun c19 => (ivInt .i64 (c19.getD 0 undefI)).bind fun x20 => (ivInt .i64 (c19.getD 1 undefI)).bind fun x21 => (ivFloat .f64 (c19.getD 2 undefI)).bind fun x22 =>
      O fn_zm [.agg [.int .i64 (w : Int), .int .i64 (h : Int), .slice a ps.length], .agg [.int .i64 x16, .int .i64 x17, .slice x18.1 x18.2]] G13 fun v23 G24 =>
      (ivBool v23).bind fun x25 => bif x25 then O fn_zh1 [.agg [.int .i64 (picS ps 0), .int .i64 (picD ps 0), .float .f64 (picB ps 0)], .agg [.int .i64 x20, .int .i64 x21, .float .f64 x22]] G24 fun v26 G27 => (ivBool v26).bind fun x28 => k (.bool x28) G27 else k (.bool false) G24
    have b2' : Sl G1.length G3 76 3 a ps.length (picC ps) := b2.keep (b2 := G2.length) c1 (Nat.le_refl _)
    refine ⟨G3, ?_⟩
    refine a5.trans ?_
    rw [drop3, Bool.not_true, cond_false]
    simp only [L_zx_0]
    rw [← hlen]
    refine hl.trans ?_
    simp only [a_zx_00]
    refine b3.trans ?_
    rw [PIC_open]
    refine c3.trans ?_
    rw [PIC_open, hS8 G3 _ _ a a' ps.length (picC ps) (w : Int) (h : Int) b2' c2 (picC_at ps) (by omega), ivB, cond_true, hSR, ivB]
theorem s8 {F N : Nat} (hF : 70004 ≤ F) (hN : 20 ≤ N) (hAw : SAw (runC (R := R) Try.prog lo0 F N)) {G : GH} {sa : Option GA} {n : Nat} {ds : List Drp} (hD : Drps G G.length sa n ds) (hn : n < F ∧ n < 2 ^ 60) (p0 p1 : Int) (k : IV → GH → Option R) :
    ∃ G', runC (R := R) Try.prog lo0 F (N + 1) 8 [.int .i64 p0, .int .i64 p1, .slice sa n] G k = k (.bool true) G' := by
  obtain ⟨G', h⟩ := adds_body (O := runC (R := R) Try.prog lo0 F N) (F := F) (by omega) hAw (wValidD (by omega)) (wDropped (by omega) (by omega)) (wFPixel (by omega)) (wRSamePx (by omega)) (wMean (by omega) (by omega)) (wRMean (by omega) (by omega)) (wRSame (by omega)) (wPicture hF (by omega)) (wRPicture hF (by omega)) (wSame8 (by omega) (by omega)) (wSameRep (by omega)) hD hn p0 p1 k
  refine ⟨G', ?_⟩
  rw [r_zx, e_zx]
  exact h
end
end Go.LI.Film
