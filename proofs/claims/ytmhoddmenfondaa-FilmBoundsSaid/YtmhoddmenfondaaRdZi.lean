/- FilmBounds: the walk, whole. -/
import Derived.Test.YtmhoddmenfondaaRdZh
import Derived.Test.YtmhoddmenfondaaRdZk
import Derived.Test.YtmhoddmenfondaaRdPu
namespace Go.LI.Film
open Go.Proofs.Ytmhoddmenfondaa Go Go.Proofs Go.LI Go.LI.Fl
set_option linter.unusedVariables false
set_option linter.unusedSimpArgs false
set_option maxRecDepth 100000
section
variable {R : Type}
theorem bounds_loop {O : Ora R} (hPx : SFPixel O) (hM : SMean O) (hW : SRWide O) (hIn : SInf O) (Kret : Bool → Int → Int → Option GA → Nat → Int → Int → Nat → GH → Option R) (K0 : Int → Int → Int → Int → Option GA → Nat → Int → Int → Nat → GH → Option R) {G : GH} {f b c w h base : Nat} {ps : List Px} {a : Option GA} (hw1 : 1 ≤ w) (hw : w ≤ 6) (hh : h ≤ 6) (hI : Flm G f b c w h ps) (hS : Sl base G 76 3 a ps.length (picC ps)) (hps : ∀ p ∈ ps, PxN p) (x0 x1 y0 y1 : Int) {B : Nat} (hB : B = picB ps 0) :
    ∀ (r i j : Nat) (s d : Int), i + r = ps.length → r < j → l_zv_0 O Kret K0 j w h (some ⟨f, 0⟩) s d (i : Int) x0 x1 a ps.length y0 y1 B G = K0 (picS (ps.drop i) s) (picD (ps.drop i) d) x0 x1 a ps.length y0 y1 B G := by
  have hlen := hI.img.len
  have hwh : w * h ≤ 6 * 6 := Nat.mul_le_mul hw hh
  have hz : ((w : Int) == 0) = false := by rw [beq_eq_false_iff_ne]; omega
  have hwr : IntKind.wrap .i64 ((w : Int) * (h : Int)) = ((w * h : Nat) : Int) := by
    rw [← Int.natCast_mul, wrapI (by omega) (by omega)]
  have cB : clean B := by rw [hB]; exact clean_picB ps clean_zero
  intro r
  induction r with
  | zero =>
    intro i j s d hi hj
    obtain ⟨j, rfl⟩ : ∃ j', j = j' + 1 := ⟨j - 1, by omega⟩
    have hi' : i = ps.length := by omega
    subst hi'
    rw [List.drop_length]
    simp only [l_zv_0, u_zv_0]
    rw [hwr, ← hlen, decide_eq_false (by omega), cond_false]
    rfl
  | succ r ih =>
    intro i j s d hi hj
    obtain ⟨j, rfl⟩ : ∃ j', j = j' + 1 := ⟨j - 1, by omega⟩
    have hlt : i < ps.length := by omega
    have hx : i % w < w := Nat.mod_lt _ (by omega)
    have hy : i / w < h := by rw [Nat.div_lt_iff_lt_mul (by omega), Nat.mul_comm]; omega
    have hi' : i / w * w + i % w = i := by rw [Nat.mul_comm]; exact Nat.div_add_mod i w
    have e1 : Int.tmod (i : Int) (w : Int) = ((i % w : Nat) : Int) := by rw [Int.tmod_eq_emod_of_nonneg (by omega)]; rfl
    have hyi : ((i / w : Nat) : Int) < 6 := by exact_mod_cast Nat.lt_of_lt_of_le hy hh
    have hy0 : 0 ≤ ((i / w : Nat) : Int) := Int.natCast_nonneg _
    have e2 : IntKind.wrap .i64 (Int.tdiv (i : Int) (w : Int)) = ((i / w : Nat) : Int) := by
      rw [Int.tdiv_eq_ediv_of_nonneg (by omega), ← Int.natCast_ediv]
      generalize ((i / w : Nat) : Int) = z at hyi hy0
      exact wrapI (by omega) (by omega)
    have hin : inB w h ((i % w : Nat) : Int) ((i / w : Nat) : Int) = true := decide_eq_true ⟨Int.natCast_nonneg _, by exact_mod_cast hx, Int.natCast_nonneg _, by exact_mod_cast hy⟩
    obtain ⟨p, hp⟩ : ∃ p, p = ps.getD i Px.zero := ⟨_, rfl⟩
    have hpi : ps[i]? = some p := by rw [hp, List.getD_eq_getElem?_getD, List.getElem?_eq_getElem hlt]; rfl
    have hdrop : ps.drop i = p :: ps.drop (i + 1) := by
      rw [List.drop_eq_getElem_cons hlt]
      congr 1
      rw [List.getElem?_eq_getElem hlt] at hpi
      injection hpi
    have hpm : p ∈ ps := List.mem_of_getElem? hpi
    have hpn : PxN p := hps p hpm
    obtain ⟨o1, o2, o3⟩ := (picB_ge ps 0).2 p hpm
    rw [← hB] at o1 o2 o3
    have m := fun G k => hM p hpn G k
    have mo := fun f => F6_open (β := R) (meanA p) f
    unfold pcs at m
    unfold F6 at m mo
    have get := picC_get ps i p hpi
    obtain ⟨ga, g1, g2⟩ := sl_ld hS hlt (k := 0) (by decide) ((get 0 (by decide)).trans rfl)
    obtain ⟨gb, g3, g4⟩ := sl_ld hS hlt (k := 1) (by decide) ((get 1 (by decide)).trans rfl)
    obtain ⟨gc, g5, g6⟩ := sl_ld hS hlt (k := 2) (by decide) ((get 2 (by decide)).trans rfl)
    have q1 : gb = ga := by rw [g1] at g3; injection g3 with h; exact h.symm
    have q2 : gc = ga := by rw [g1] at g5; injection g5 with h; exact h.symm
    subst q1
    subst q2
    rw [Int.toNat_natCast, Nat.mul_one] at g2 g4 g6
    have st := fun i j (hb : sv (offV (meanA p i) (meanA p j) (colK p i j)) ≤ sv B) X K G => bound_step (O := O) hW hIn (clean_mean p i) (clean_mean p j) (num_col p i j) (fin_col p i j) cB hb X K G
    have hih := ih (i + 1) j (IntKind.wrap .i64 (s + p.c)) (IntKind.wrap .i64 (d + p.d)) (by omega) (by omega)
    simp only [l_zv_0, u_zv_0]
    rw [hwr, ← hlen, decide_eq_true (by omega), cond_true, hz, cond_false, cond_false, e1, e2, hPx G f b c w h ps hI, At_open, hin, if_pos rfl, Int.toNat_natCast, Int.toNat_natCast, hi', ← hp, m, mo, g1, Option.bind_some, g2, Option.bind_some]
    refine (st 0 1 o1 _ _ G).trans ?_
    rw [Option.bind_some, g4, Option.bind_some]
    refine (st 2 3 o2 _ _ G).trans ?_
    rw [Option.bind_some, g6, Option.bind_some]
    refine (st 4 5 o3 _ _ G).trans ?_
    rw [wrapI (v := (i : Int) + 1) (by omega) (by omega), show (i : Int) + 1 = ((i + 1 : Nat) : Int) by omega, hdrop]
    exact hih

theorem bounds_body {O : Ora R} {F : Nat} (hF : 1100 ≤ F) (hAw : SAw O) (hVd : SValidD O F) (hDr : SDropped O) (hPx : SFPixel O) (hM : SMean O) (hW : SRWide O) (hIn : SInf O) (hPi : SPicture O) {G : GH} {sa : Option GA} {n : Nat} {ds : List Drp} (hD : Drps G G.length sa n ds) (hn : n < F ∧ n < 2 ^ 60) (p0 p1 : Int) (k : IV → GH → Option R) :
    ∃ G', u_zv O k (L_zv_0 O F k) p0 p1 sa n G = k (.bool true) G' := by
  obtain ⟨w, w1, w2, ew⟩ := side_of p0 (m := 6) (by decide) (by decide)
  obtain ⟨h, h1, h2, eh⟩ := side_of p1 (m := 6) (by decide) (by decide)
  simp only [u_zv]
  rw [show ((6 : Nat) : Int) = 6 from rfl] at ew eh
  rw [hAw, ivB, Bool.not_true, cond_false, hVd G _ sa n ds hD hn.1 hn.2, ivB, ew, eh]
  cases validD ds with
  | false => exact ⟨G, by rw [Bool.not_false, cond_true]⟩
  | true =>
    rw [Bool.not_true, cond_false]
    have hwh : w * h ≤ 6 * 6 := Nat.mul_le_mul w2 h2
    obtain ⟨G1, a1, a2, a3, a4, a5⟩ := hDr w h w1 (by omega) h1 (by omega) (by omega) G sa n ds hD fun v7 G8 =>
      (ivTup 3 v7).bind fun c9 => (ivPtr (c9.getD 0 undefI)).bind fun x10 => (ivSlice (c9.getD 1 undefI)).bind fun x11 => (ivBool (c9.getD 2 undefI)).bind fun x12 =>
      bif (!x12) then k (.bool false) G8 else
      O fn_zz [.ptr x10] G8 fun v13 G14 =>
      (ivTup 2 v13).bind fun c15 => (ivAgg 3 (c15.getD 0 undefI)).bind fun c16 => (ivInt .i64 (c16.getD 0 undefI)).bind fun x17 => (ivInt .i64 (c16.getD 1 undefI)).bind fun x18 => (ivSlice (c16.getD 2 undefI)).bind fun x19 => (ivAgg 3 (c15.getD 1 undefI)).bind fun c20 => (ivInt .i64 (c20.getD 0 undefI)).bind fun x21 => (ivInt .i64 (c20.getD 1 undefI)).bind fun x22 => (ivFloat .f64 (c20.getD 2 undefI)).bind fun x23 =>
      L_zv_0 O F k (w : Int) (h : Int) x10 (0 : Int) (0 : Int) (0 : Int) x17 x18 x19.1 x19.2 x21 x22 x23 G14
    have hok := drops_ok w h (w * h) ds
    generalize dropsPx w h (List.replicate (w * h) Px.zero) (ds.take 200) = ps at a3 a4 hok
    have hlen := a3.img.len
    obtain ⟨a, G2, b1, b2, b3⟩ := hPi G1 _ _ _ w h ps a3 hok (by omega) fun v13 G14 =>
      (ivTup 2 v13).bind fun c15 => (ivAgg 3 (c15.getD 0 undefI)).bind fun c16 => (ivInt .i64 (c16.getD 0 undefI)).bind fun x17 => (ivInt .i64 (c16.getD 1 undefI)).bind fun x18 => (ivSlice (c16.getD 2 undefI)).bind fun x19 => (ivAgg 3 (c15.getD 1 undefI)).bind fun c20 => (ivInt .i64 (c20.getD 0 undefI)).bind fun x21 => (ivInt .i64 (c20.getD 1 undefI)).bind fun x22 => (ivFloat .f64 (c20.getD 2 undefI)).bind fun x23 =>
      L_zv_0 O F k (w : Int) (h : Int) (some ⟨G.length + 2, 0⟩) (0 : Int) (0 : Int) (0 : Int) x17 x18 x19.1 x19.2 x21 x22 x23 G14
    rw [← hlen] at b2 b3
    have hI2 : Flm G2 (G.length + 2) (G.length + 1) G.length w h ps := a3.keep fun i hi => b1.2 i (by omega)
    have hl := bounds_loop (O := O) hPx hM hW hIn (a_zv_0ret O k) (a_zv_00 O k) w1 w2 h2 hI2 b2 hok (w : Int) (h : Int) (picS ps 0) (picD ps 0) (B := picB ps 0) rfl ps.length 0 F 0 0 (by omega) (by omega)
    refine ⟨G2, ?_⟩
    refine a5.trans ?_
    rw [drop3, Bool.not_true, cond_false]
    refine b3.trans ?_
    rw [PIC_open]
    simp only [L_zv_0]
    refine hl.trans ?_
    have cB : clean (picB ps 0) := clean_picB ps clean_zero
    have hge := (picB_ge ps 0).1
    rw [zero_sv] at hge
    simp only [a_zv_00]
    rw [List.drop_zero, show (picS ps 0 == picS ps 0) = true by simp, cond_true, show (picD ps 0 == picD ps 0) = true by simp, cond_true, fge_sv cB.1 clean_zero.1, zero_sv, decide_eq_true hge]
theorem s7 {F N : Nat} (hF : 70004 ≤ F) (hN : 20 ≤ N) (hAw : SAw (runC (R := R) Try.prog lo0 F N)) {G : GH} {sa : Option GA} {n : Nat} {ds : List Drp} (hD : Drps G G.length sa n ds) (hn : n < F ∧ n < 2 ^ 60) (p0 p1 : Int) (k : IV → GH → Option R) :
    ∃ G', runC (R := R) Try.prog lo0 F (N + 1) 7 [.int .i64 p0, .int .i64 p1, .slice sa n] G k = k (.bool true) G' := by
  obtain ⟨F, rfl⟩ : ∃ F', F = F' + 4 := ⟨F - 4, by omega⟩
  obtain ⟨G', h⟩ := bounds_body (O := runC (R := R) Try.prog lo0 (F + 4) N) (F := F + 4) (by omega) hAw (wValidD (by omega)) (wDropped (by omega) (by omega)) (wFPixel (by omega)) (wMean (by omega) (by omega)) (wRWide (by omega)) (wInf (F := F + 3) (by omega)) (wPicture hF (by omega)) hD hn p0 p1 k
  refine ⟨G', ?_⟩
  rw [r_zv, e_zv]
  exact h
end
end Go.LI.Film
