/- Pictures: the reference, comparing. -/
import Derived.Test.YtmhoddmenfondaaRdZf
import Derived.Test.YtmhoddmenfondaaRdPv
namespace Go.LI.Film
open Go.Proofs.Ytmhoddmenfondaa Go Go.Proofs Go.LI Go.LI.Fl
set_option linter.unusedVariables false
set_option linter.unusedSimpArgs false
set_option maxRecDepth 100000
section
variable {R : Type}
abbrev SRPicture (O : Ora R) : Prop := ∀ (G : GH) (q : Nat) (ps : List Px) (w h : Int), Want G q ps → q < G.length → (∀ p ∈ ps, PxN p) → ps.length ≤ 65536 → ∀ (k : IV → GH → Option R), ∃ a G', Keeps G.length G G' ∧ Sl G.length G' 76 3 a ps.length (picC ps) ∧
  O fn_zC [.int .i64 w, .int .i64 h, .slice (some ⟨q, 0⟩) ps.length] G k = k (PICV w h a ps.length (picS ps 0) (picD ps 0) (picB ps 0)) G'
theorem rpic_loop {O : Ora R} (hM : SRMean O) (hMi : SRMid O) (hN : SRNarrow O) (hO : SROff O) (hGr : SRGreatest O) (K0 : Int → Int → Option GA → Nat → Int → Int → Nat → Int → Int → Option GA → Nat → Int → Int → Nat → GH → Option R) {base q : Nat} {ps : List Px} (hqb : q < base) (hps : ∀ p ∈ ps, PxN p) (hl : ps.length ≤ 65536) (c0 c1 : Int) (c2 : Option GA) (c3 : Nat) (d0 d1 : Int) (d2 : Nat) (w h : Int) :
    ∀ (r i j : Nat) (G : GH) (a : Option GA) (cs : List IV) (S D : Int) (B : Nat), i + r = ps.length → r < j → base ≤ G.length → Want G q ps → Sl base G 76 3 a i cs → clean B →
      ∃ a' G', l_zC_0 O K0 j (some ⟨q, 0⟩) ps.length (i : Int) c0 c1 c2 c3 d0 d1 d2 w h a i S D B G = K0 c0 c1 c2 c3 d0 d1 d2 w h a' ps.length (picS (ps.drop i) S) (picD (ps.drop i) D) (picB (ps.drop i) B) G' ∧ Sl base G' 76 3 a' ps.length (cs ++ picC (ps.drop i)) ∧ Keeps base G G' := by
  intro r
  induction r with
  | zero =>
    intro i j G a cs S D B hi hj hb hW hS hB
    obtain ⟨j, rfl⟩ : ∃ j', j = j' + 1 := ⟨j - 1, by omega⟩
    have hi' : i = ps.length := by omega
    subst hi'
    rw [List.drop_length]
    refine ⟨a, G, ?_, by rw [show picC [] = [] from rfl, List.append_nil]; exact hS, Keeps.refl _ _⟩
    simp only [l_zC_0, u_zC_0]
    rw [decide_eq_false (by omega), cond_false]
    rfl
  | succ r ih =>
    intro i j G a cs S D B hi hj hb hW hS hB
    obtain ⟨j, rfl⟩ : ∃ j', j = j' + 1 := ⟨j - 1, by omega⟩
    have hlt : i < ps.length := by omega
    obtain ⟨l1, l2, l3⟩ := hW.ld hlt
    obtain ⟨p, hp⟩ : ∃ p, p = ps.getD i Px.zero := ⟨_, rfl⟩
    have hpi : ps[i]? = some p := by rw [hp, List.getD_eq_getElem?_getD, List.getElem?_eq_getElem hlt]; rfl
    have hdrop : ps.drop i = p :: ps.drop (i + 1) := by
      rw [List.drop_eq_getElem_cons hlt]
      congr 1
      rw [List.getElem?_eq_getElem hlt] at hpi
      injection hpi
    have hpn : PxN p := hps p (List.mem_of_getElem? hpi)
    rw [← hp] at l2 l3
    have m := fun G k => hM p hpn G k
    have mo := fun f => F6_open (β := R) (meanA p) f
    have mid := fun i j G k => hMi (meanA p i) (meanA p j) (clean_mean p i) (clean_mean p j) G k
    have nar := fun i j G k => hN (midM (meanA p i) (meanA p j)) (clean_mid p i j).1 G k
    have off := fun i j G k => hO (meanA p i) (meanA p j) (colK p i j) (clean_mean p i) (clean_mean p j) (num_col p i j) G k
    have b1 := clean_bnd1 p hB 0 1
    have b2 := clean_bnd1 p b1 2 3
    have mx := fun {b : Nat} (hb : clean b) i j G k => hGr b (midF (meanA p i) (meanA p j)) hb (clean_midF (meanA p i) (meanA p j)) G k
    have mx2 := fun {b : Nat} (hb : clean b) i j G k => hGr _ _ (clean_max hb (clean_midF (meanA p i) (meanA p j))) (clean_offV (meanA p i) (meanA p j) (colK p i j)) G k
    obtain ⟨a1, G1, e1, e2, e3⟩ := sl_append (bytes := 24) (x := colC p) hS hb rfl (by have hroom : roomI = 1099511627776 := by decide
                                                                                       rw [hroom]; omega)
    have hg : grd (gnew G (colC p) 76) (gaddr G) (1 * 3) = some (colC p) := grd_gnew G _ 76 _ rfl
    have hW1 : Want G1 q ps := by
      obtain ⟨e, hw⟩ := hW
      exact ⟨e, by rw [e3.2 q hqb]; exact hw⟩
    obtain ⟨_, _, l3'⟩ := hW1.ld hlt
    rw [← hp] at l3'
    obtain ⟨a2, G2, f1, f2, f3⟩ := ih (i + 1) j G1 (some a1) (cs ++ colC p) (IntKind.wrap .i64 (S + p.c)) (IntKind.wrap .i64 (D + p.d)) (bndP p B) (by omega) (by omega) (Nat.le_trans hb e3.1) hW1 e2 (clean_bndP p hB)
    refine ⟨a2, G2, ?_, by rw [hdrop, picC, ← List.append_assoc]; exact f2, e3.trans f3⟩
    simp only [l_zC_0, u_zC_0]
    unfold pcs at m
    unfold F6 at m mo
    rw [decide_eq_true (by omega), cond_true, l1, Option.bind_some, l2 0 _ (by decide) rfl, Option.bind_some, l2 1 _ (by decide) rfl, Option.bind_some, l2 2 _ (by decide) rfl, Option.bind_some, l2 3 _ (by decide) rfl, Option.bind_some, l2 4 _ (by decide) rfl, Option.bind_some, l2 5 _ (by decide) rfl, Option.bind_some, l3 6 _ (by decide) rfl, Option.bind_some, l3 7 _ (by decide) rfl, Option.bind_some, m, mo]
    unfold colK at off mx2
    unfold bndP bnd1 colK at f1
    unfold bnd1 colK at b1 b2
    rw [mid 0 1, pairFF, nar 0 1, ivF, mx hB 0 1, ivF, off 0 1, ivF, mx2 hB 0 1, ivF]
    rw [mid 2 3, pairFF, nar 2 3, ivF, mx b1 2 3, ivF, off 2 3, ivF, mx2 b1 2 3, ivF]
    rw [mid 4 5, pairFF, nar 4 5, ivF, mx b2 4 5, ivF, off 4 5, ivF, mx2 b2 4 5, ivF]
    unfold colC colK at hg e1
    rw [hg, Option.bind_some, e1, Option.bind_some, Option.bind_some, l3' 6 _ (by decide) rfl, Option.bind_some, Option.bind_some, l3' 7 _ (by decide) rfl, Option.bind_some, wrapI (v := (i : Int) + 1) (by omega) (by omega), show (i : Int) + 1 = ((i + 1 : Nat) : Int) by omega, hdrop]
    exact f1
theorem wRPicture {F n : Nat} (hF : 70004 ≤ F) (hn : 13 ≤ n) : SRPicture (runC (R := R) Try.prog lo0 F n) := by
  obtain ⟨n, rfl⟩ : ∃ j, n = j + 13 := ⟨n - 13, by omega⟩
  obtain ⟨F, rfl⟩ : ∃ F', F = F' + 4 := ⟨F - 4, by omega⟩
  intro G q ps w h hW hq hps hl k
  obtain ⟨a, G2, e1, e2, e3⟩ := rpic_loop (O := runC (R := R) Try.prog lo0 (F + 4) (n + 12)) (wRMean (by omega) (by omega)) (wRMid (by omega) (by omega)) (wRNarrow (by omega) (by omega)) (wROff (by omega) (by omega)) (wRGreatest (by omega)) (a_zC_00 (runC (R := R) Try.prog lo0 (F + 4) (n + 12)) k) (base := G.length) (q := q) (ps := ps) hq hps hl 0 0 none 0 0 0 0 w h ps.length 0 (F + 4) G none [] 0 0 0 (by omega) (by omega) (Nat.le_refl _) hW (sl_nil _ _ _ _) clean_zero
  rw [List.drop_zero] at e1 e2
  refine ⟨a, G2, e3, by rw [List.nil_append] at e2; exact e2, ?_⟩
  rw [r_zC, e_zC]
  simp only [u_zC, L_zC_0]
  refine e1.trans ?_
  rfl

abbrev SSame8 (O : Ora R) : Prop := ∀ (G : GH) (b1 b2 : Nat) (a a' : Option GA) (n : Nat) (cs : List IV) (w h : Int), Sl b1 G 76 3 a n cs → Sl b2 G 76 3 a' n cs → (∀ t, t < n * 3 → ∃ v, cs[t]? = some (.float .f64 v)) → n ≤ 65536 → ∀ (k : IV → GH → Option R),
  O fn_zm [.agg [.int .i64 w, .int .i64 h, .slice a n], .agg [.int .i64 w, .int .i64 h, .slice a' n]] G k = k (.bool true) G
abbrev SSameRep (O : Ora R) : Prop := ∀ (S D : Int) (B : Nat) (G : GH) (k : IV → GH → Option R), O fn_zh1 [.agg [.int .i64 S, .int .i64 D, .float .f64 B], .agg [.int .i64 S, .int .i64 D, .float .f64 B]] G k = k (.bool true) G
theorem same_row {O : Ora R} (hB : SBits O) (Kret : Bool → Int → Int → Option GA → Nat → Int → Int → Option GA → Nat → GH → Option R) (K2 : Int → Int → Int → Option GA → Nat → Int → Int → Option GA → Nat → GH → Option R) {G : GH} {b1 b2 n : Nat} {a a' : Option GA} {cs : List IV} (h1 : Sl b1 G 76 3 a n cs) (h2 : Sl b2 G 76 3 a' n cs) (hc : ∀ t, t < n * 3 → ∃ v, cs[t]? = some (.float .f64 v)) {i : Nat} (hi : i < n) (w h w' h' : Int) :
    ∀ (r t j : Nat), t + r = 3 → r < j → l_zm_2 O Kret K2 j (i : Int) (t : Int) w h a n w' h' a' n G = K2 (i : Int) w h a n w' h' a' n G := by
  intro r
  induction r with
  | zero =>
    intro t j ht hj
    obtain ⟨j, rfl⟩ : ∃ j', j = j' + 1 := ⟨j - 1, by omega⟩
    simp only [l_zm_2, u_zm_2]
    rw [decide_eq_false (by omega), cond_false]
  | succ r ih =>
    intro t j ht hj
    obtain ⟨j, rfl⟩ : ∃ j', j = j' + 1 := ⟨j - 1, by omega⟩
    obtain ⟨v, hv⟩ := hc (i * 3 + t) (by omega)
    obtain ⟨g1, q1, q2⟩ := sl_ld h1 hi (k := t) (by omega) hv
    obtain ⟨g2, q3, q4⟩ := sl_ld h2 hi (k := t) (by omega) hv
    simp only [l_zm_2, u_zm_2]
    rw [decide_eq_true (by omega), cond_true, q1, Option.bind_some, if_pos (by omega), q2, Option.bind_some, hB, ivU, q3, Option.bind_some, if_pos (by omega), q4, Option.bind_some, hB, ivU, show ((v : Int) != (v : Int)) = false by simp, cond_false, wrapI (by omega) (by omega), show (t : Int) + 1 = ((t + 1 : Nat) : Int) by omega]
    exact ih (t + 1) j (by omega) (by omega)
theorem same_rows {O : Ora R} {F : Nat} (hF : 5 ≤ F) (hB : SBits O) (Kret : Bool → Int → Int → Option GA → Nat → Int → Int → Option GA → Nat → GH → Option R) (K0 : Int → Int → Option GA → Nat → Int → Int → Option GA → Nat → GH → Option R) {G : GH} {b1 b2 n : Nat} {a a' : Option GA} {cs : List IV} (h1 : Sl b1 G 76 3 a n cs) (h2 : Sl b2 G 76 3 a' n cs) (hc : ∀ t, t < n * 3 → ∃ v, cs[t]? = some (.float .f64 v)) (hn : n ≤ 65536) (w h w' h' : Int) :
    ∀ (r i j : Nat), i + r = n → r < j → l_zm_1 O F Kret K0 j (i : Int) w h a n w' h' a' n G = K0 w h a n w' h' a' n G := by
  intro r
  induction r with
  | zero =>
    intro t j ht hj
    obtain ⟨j, rfl⟩ : ∃ j', j = j' + 1 := ⟨j - 1, by omega⟩
    simp only [l_zm_1, u_zm_1]
    rw [decide_eq_false (by omega), cond_false]
  | succ r ih =>
    intro i j ht hj
    obtain ⟨j, rfl⟩ : ∃ j', j = j' + 1 := ⟨j - 1, by omega⟩
    have hrow := same_row (O := O) hB (a_zm_2ret O Kret (l_zm_1 O F Kret K0 j) K0) (a_zm_22 O Kret (l_zm_1 O F Kret K0 j) K0) h1 h2 hc (i := i) (by omega) w h w' h' 3 0 F (by omega) (by omega)
    simp only [l_zm_1, u_zm_1, L_zm_2]
    rw [decide_eq_true (by omega), cond_true]
    refine hrow.trans ?_
    simp only [a_zm_22]
    rw [wrapI (by omega) (by omega), show (i : Int) + 1 = ((i + 1 : Nat) : Int) by omega]
    exact ih (i + 1) j (by omega) (by omega)
theorem wSame8 {F n : Nat} (hF : 70000 ≤ F) (hn : 2 ≤ n) : SSame8 (runC (R := R) Try.prog lo0 F n) := by
  obtain ⟨n, rfl⟩ : ∃ j, n = j + 2 := ⟨n - 2, by omega⟩
  intro G b1 b2 a a' m cs w h h1 h2 hc hm k
  have hr := same_rows (O := runC (R := R) Try.prog lo0 F (n + 1)) (F := F) (by omega) (wBits (by omega)) (a_zm_1ret (runC (R := R) Try.prog lo0 F (n + 1)) k) (a_zm_10 (runC (R := R) Try.prog lo0 F (n + 1)) k) h1 h2 hc hm w h w h m 0 F (by omega) (by omega)
  rw [r_zm, e_zm]
  simp only [u_zm, L_zm_0]
  rw [stepF (by omega)]
  simp only [l_zm_0, u_zm_0]
  rw [show (w != w) = false by simp, cond_false, show (h != h) = false by simp, cond_false, show ((m : Int) != (m : Int)) = false by simp, cond_false]
  simp only [a_zm_0N, L_zm_1]
  exact hr
theorem wSameRep {F n : Nat} (hn : 2 ≤ n) : SSameRep (runC (R := R) Try.prog lo0 F n) := by
  obtain ⟨n, rfl⟩ : ∃ j, n = j + 2 := ⟨n - 2, by omega⟩
  intro S D B G k
  rw [r_zh1, e_zh1, show (S == S) = true by simp, cond_true, show (D == D) = true by simp, cond_true, wBits (by omega), ivU, wBits (by omega), ivU, show ((B : Int) == (B : Int)) = true by simp]
end
end Go.LI.Film
