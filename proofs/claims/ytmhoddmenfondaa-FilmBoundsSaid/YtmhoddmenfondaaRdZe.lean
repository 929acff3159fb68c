/- Pictures: program. -/
import Derived.Test.YtmhoddmenfondaaRdZd
import Derived.Test.YtmhoddmenfondaaRdD3
namespace Go.LI.Film
open Go.Proofs.Ytmhoddmenfondaa Go Go.Proofs Go.LI Go.LI.Fl
set_option linter.unusedVariables false
set_option linter.unusedSimpArgs false
set_option maxRecDepth 100000

/-- A pixel's colour and its bound. -/
def colK (p : Px) (i j : Nat) : Nat := narrowW (midM (meanA p i) (meanA p j))
def colC (p : Px) : List IV := [.float .f64 (colK p 0 1), .float .f64 (colK p 2 3), .float .f64 (colK p 4 5)]
def bnd1 (p : Px) (b i j : Nat) : Nat := maxW (maxW b (midF (meanA p i) (meanA p j))) (offV (meanA p i) (meanA p j) (colK p i j))
def bndP (p : Px) (b : Nat) : Nat := bnd1 p (bnd1 p (bnd1 p b 0 1) 2 3) 4 5
def picC : List Px → List IV
  | [] => []
  | p :: ps => colC p ++ picC ps
def picB : List Px → Nat → Nat
  | [], b => b
  | p :: ps, b => picB ps (bndP p b)
def picS : List Px → Int → Int
  | [], a => a
  | p :: ps, a => picS ps (IntKind.wrap .i64 (a + p.c))
def picD : List Px → Int → Int
  | [], a => a
  | p :: ps, a => picD ps (IntKind.wrap .i64 (a + p.d))
theorem clean_mid (p : Px) (i j : Nat) : clean (midM (meanA p i) (meanA p j)) := clean_midM (clean_mean p i) (clean_mean p j)
theorem num_col (p : Px) (i j : Nat) : num (colK p i j) := (narrow_num (clean_mid p i j).1).1
theorem clean_bnd1 (p : Px) {b : Nat} (hb : clean b) (i j : Nat) : clean (bnd1 p b i j) := clean_max (clean_max hb (clean_midF _ _)) (clean_offV _ _ _)
theorem clean_bndP (p : Px) {b : Nat} (hb : clean b) : clean (bndP p b) := clean_bnd1 p (clean_bnd1 p (clean_bnd1 p hb 0 1) 2 3) 4 5
theorem clean_picB : ∀ (ps : List Px) {b : Nat}, clean b → clean (picB ps b)
  | [], _, h => h
  | p :: ps, _, h => clean_picB ps (clean_bndP p h)
theorem picC_at : ∀ (ps : List Px) (t : Nat), t < ps.length * 3 → ∃ v, (picC ps)[t]? = some (.float .f64 v)
  | [], t, h => by simp at h
  | p :: ps, t, h => by
    rw [List.length_cons] at h
    show ∃ v, (colC p ++ picC ps)[t]? = _
    rcases Nat.lt_or_ge t 3 with h3 | h3
    · rw [List.getElem?_append_left (by exact h3)]
      have : t = 0 ∨ t = 1 ∨ t = 2 := by omega
      rcases this with rfl | rfl | rfl <;> exact ⟨_, rfl⟩
    · rw [List.getElem?_append_right (by exact h3)]
      exact picC_at ps (t - 3) (by omega)

section
variable {R : Type}
abbrev SPix (O : Ora R) : Prop := ∀ (G : GH) (b c w h : Nat) (ps : List Px), Img G b c w h ps → w * h ≤ 65536 → ∃ G', (∀ i, i < G.length → G'[i]? = G[i]?) ∧ G'.length = G.length + 2 ∧ Want G' (G.length + 1) ps ∧ ∀ (k : IV → GH → Option R), O fn_zG1 [.ptr (some ⟨b, 0⟩)] G k = k (.slice (some ⟨G.length + 1, 0⟩) (w * h)) G'
abbrev SClone (O : Ora R) : Prop := ∀ (G : GH) (c : Nat) (ps : List Px), Want G c ps → ps.length ≤ 65536 → ∃ G', (∀ i, i < G.length → G'[i]? = G[i]?) ∧ G'.length = G.length + 2 ∧ Want G' (G.length + 1) ps ∧ ∀ (k : IV → GH → Option R), O fn_zM1 [.slice (some ⟨c, 0⟩) ps.length] G k = k (.slice (some ⟨G.length + 1, 0⟩) ps.length) G'
theorem ivSl {β : Type} (a : Option GA) (n : Nat) (f : Option GA × Nat → Option β) : (ivSlice (.slice a n)).bind f = f (a, n) := rfl
theorem clone_body {O : Ora R} {F : Nat} {G : GH} {c : Nat} {ps : List Px} (hW : Want G c ps) (hl : ps.length ≤ 65536) :
    ∃ G', (∀ i, i < G.length → G'[i]? = G[i]?) ∧ G'.length = G.length + 2 ∧ Want G' (G.length + 1) ps ∧ ∀ (k : IV → GH → Option R), bodyC Try.prog O [777777] F Try.f67 [.slice (some ⟨c, 0⟩) ps.length] G k = k (.slice (some ⟨G.length + 1, 0⟩) ps.length) G' := by
  obtain ⟨e, hw⟩ := hW
  have hc : c < G.length := (List.getElem?_eq_some_iff.1 hw).1
  have h1 : (gnew G [] 54)[c]? = some ⟨flatP ps, e, 1⟩ := by rw [gnew_old hc]; exact hw
  have h2 : (gnew G [] 54)[G.length]? = some ⟨[], 54, 1⟩ := gnew_at G [] 54
  have hgr : grdO (gnew G [] 54) (some ⟨c, 0⟩) ps.length 8 = some (flatP ps) := by
    unfold grdO
    simp only [grd, h1]
    rw [if_pos ⟨by decide, by rw [flatP_length]; omega⟩, List.drop_zero, List.take_of_length_le (by rw [flatP_length]; omega)]
  have hkill : gkill (gnew G [] 54) G.length = (gnew G [] 54).set G.length ⟨[], 54, 2⟩ := by simp [gkill, h2]
  have hown : gown (gnew G [] 54) G.length 54 = true := by simp [gown, h2]
  have hgr0 : grd (gnew G [] 54) ⟨G.length, 0⟩ (0 * 8) = some [] := by simp [grd, h2]
  have happ : gappend (gnew G [] 54) 54 8 64 (some (gaddr G)) 0 (flatP ps) ps.length = some (some ⟨G.length + 1, 0⟩, gnew ((gnew G [] 54).set G.length ⟨[], 54, 2⟩) (flatP ps) 54) := by
    unfold gappend
    have hroom : roomI = 1099511627776 := by decide
    rw [if_pos (by rw [hroom]; omega)]
    simp only [gaddr, hgr0, hown, hkill, gnew_length, List.length_set, List.nil_append]
  refine ⟨gnew ((gnew G [] 54).set G.length ⟨[], 54, 2⟩) (flatP ps) 54, fun i hi => ?_, by rw [gnew_length, List.length_set, gnew_length], ⟨54, ?_⟩, fun k => ?_⟩
  · rw [gnew_old (by rw [List.length_set, gnew_length]; omega), List.getElem?_set_ne (by omega), gnew_old hi]
  · have := gnew_at ((gnew G [] 54).set G.length ⟨[], 54, 2⟩) (flatP ps) 54
    rw [List.length_set, gnew_length] at this
    exact this
  · rw [e_zM1, show (some (⟨c, 0⟩ : GA)).isNone = false from rfl, cond_false, hgr, Option.bind_some, happ, Option.bind_some, Nat.zero_add]
theorem wClone {F n : Nat} (hn : 1 ≤ n) : SClone (runC (R := R) Try.prog lo0 F n) := by
  obtain ⟨n, rfl⟩ : ∃ j, n = j + 1 := ⟨n - 1, by omega⟩
  intro G c ps hW hl
  obtain ⟨G', a1, a2, a3, a4⟩ := clone_body (O := runC (R := R) Try.prog lo0 F n) (F := F) hW hl
  exact ⟨G', a1, a2, a3, fun k => by rw [r_zM1]; exact a4 k⟩
theorem wPix {F n : Nat} (hn : 2 ≤ n) : SPix (runC (R := R) Try.prog lo0 F n) := by
  obtain ⟨n, rfl⟩ : ∃ j, n = j + 2 := ⟨n - 2, by omega⟩
  intro G b c w h ps hI hl
  obtain ⟨G', a1, a2, a3, a4⟩ := wClone (R := R) (F := F) (n := n + 1) (by omega) G c ps hI.hc (by rw [hI.len]; exact hl)
  refine ⟨G', a1, a2, a3, fun k => ?_⟩
  rw [hI.len] at a4
  rw [r_zG1, e_zG1, hI.s_ld, Option.bind_some, a4, ivSl]

theorem pic_loop {O : Ora R} (hM : SMean O) (hMi : SMid O) (hN : SNarrow O) (hO : SOff O) (K0 : Int → Int → Option GA → Nat → Int → Int → Nat → Int → Int → Nat → Int → Int → Option GA → Nat → GH → Option R) {base q : Nat} {ps : List Px} (hqb : q < base) (hps : ∀ p ∈ ps, PxN p) (hl : ps.length ≤ 65536) (c0 c1 : Int) (c2 : Option GA) (c3 : Nat) (d0 d1 : Int) (d2 : Nat) (w h : Int) :
    ∀ (r i j : Nat) (G : GH) (a : Option GA) (cs : List IV) (S D : Int) (B : Nat), i + r = ps.length → r < j → base ≤ G.length → Want G q ps → Sl base G 76 3 a i cs → clean B →
      ∃ a' G', l_zz_0 O K0 j (some ⟨q, 0⟩) ps.length (ps.length : Int) (i : Int) c0 c1 c2 c3 d0 d1 d2 S D B w h a i G = K0 c0 c1 c2 c3 d0 d1 d2 (picS (ps.drop i) S) (picD (ps.drop i) D) (picB (ps.drop i) B) w h a' ps.length G' ∧ Sl base G' 76 3 a' ps.length (cs ++ picC (ps.drop i)) ∧ Keeps base G G' := by
  intro r
  induction r with
  | zero =>
    intro i j G a cs S D B hi hj hb hW hS hB
    obtain ⟨j, rfl⟩ : ∃ j', j = j' + 1 := ⟨j - 1, by omega⟩
    have hi' : i = ps.length := by omega
    subst hi'
    rw [List.drop_length]
    refine ⟨a, G, ?_, by rw [show picC [] = [] from rfl, List.append_nil]; exact hS, Keeps.refl _ _⟩
    simp only [l_zz_0, u_zz_0]
    rw [decide_eq_false (by omega), cond_false]
    rfl
  | succ r ih =>
    intro i j G a cs S D B hi hj hb hW hS hB
    obtain ⟨j, rfl⟩ : ∃ j', j = j' + 1 := ⟨j - 1, by omega⟩
    have hlt : i < ps.length := by omega
    obtain ⟨l1, l2, l3⟩ := hW.ld hlt
    obtain ⟨p, hp⟩ : ∃ p, p = ps.getD i Px.zero := ⟨_, rfl⟩
    have hpi : ps[i]? = some p := by rw [hp, List.getD_eq_getElem?_getD, List.getElem?_eq_getElem hlt]; rfl
    have hdrop : ps.drop i = p :: ps.drop (i + 1) := by
      rw [List.drop_eq_getElem_cons hlt]
      congr 1
      rw [List.getElem?_eq_getElem hlt] at hpi
      injection hpi
    have hpn : PxN p := hps p (List.mem_of_getElem? hpi)
    rw [← hp] at l2 l3
    have m := fun G k => hM p hpn G k
    have mo := fun f => F6_open (β := R) (meanA p) f
    have mid := fun i j G k => hMi (meanA p i) (meanA p j) (clean_mean p i) (clean_mean p j) G k
    have nar := fun i j G k => hN (midM (meanA p i) (meanA p j)) (clean_mid p i j).1 G k
    have off := fun i j G k => hO (meanA p i) (meanA p j) (colK p i j) (clean_mean p i) (clean_mean p j) (num_col p i j) G k
    have b1 := clean_bnd1 p hB 0 1
    have b2 := clean_bnd1 p b1 2 3
    have mx := fun {b : Nat} (hb : clean b) i j => fmax_clean hb (clean_midF (meanA p i) (meanA p j))
    have mx2 := fun {b : Nat} (hb : clean b) i j => fmax_clean (clean_max hb (clean_midF (meanA p i) (meanA p j))) (clean_offV (meanA p i) (meanA p j) (colK p i j))
    obtain ⟨a1, G1, e1, e2, e3⟩ := sl_append (bytes := 24) (x := colC p) hS hb rfl (by have hroom : roomI = 1099511627776 := by decide
                                                                                       rw [hroom]; omega)
    have hg : grd (gnew G (colC p) 76) (gaddr G) (1 * 3) = some (colC p) := grd_gnew G _ 76 _ rfl
    have hW1 : Want G1 q ps := by
      obtain ⟨e, hw⟩ := hW
      exact ⟨e, by rw [e3.2 q hqb]; exact hw⟩
    obtain ⟨a2, G2, f1, f2, f3⟩ := ih (i + 1) j G1 (some a1) (cs ++ colC p) (IntKind.wrap .i64 (S + p.c)) (IntKind.wrap .i64 (D + p.d)) (bndP p B) (by omega) (by omega) (Nat.le_trans hb e3.1) hW1 e2 (clean_bndP p hB)
    refine ⟨a2, G2, ?_, by rw [hdrop, picC, ← List.append_assoc]; exact f2, e3.trans f3⟩
    simp only [l_zz_0, u_zz_0]
    unfold pcs at m
    unfold F6 at m mo
    rw [decide_eq_true (by omega), cond_true, l1, Option.bind_some, l2 0 _ (by decide) rfl, Option.bind_some, l2 1 _ (by decide) rfl, Option.bind_some, l2 2 _ (by decide) rfl, Option.bind_some, l2 3 _ (by decide) rfl, Option.bind_some, l2 4 _ (by decide) rfl, Option.bind_some, l2 5 _ (by decide) rfl, Option.bind_some, l3 6 _ (by decide) rfl, Option.bind_some, l3 7 _ (by decide) rfl, Option.bind_some, m, mo]
    unfold colK at off mx2
    unfold bndP bnd1 colK at f1
    unfold bnd1 colK at b1 b2
    rw [mid 0 1, pairFF, nar 0 1, ivF, off 0 1, ivF, mx hB 0 1, Option.bind_some, mx2 hB 0 1, Option.bind_some]
    rw [mid 2 3, pairFF, nar 2 3, ivF, off 2 3, ivF, mx b1 2 3, Option.bind_some, mx2 b1 2 3, Option.bind_some]
    rw [mid 4 5, pairFF, nar 4 5, ivF, off 4 5, ivF, mx b2 4 5, Option.bind_some, mx2 b2 4 5, Option.bind_some]
    unfold colC colK at hg e1
    rw [hg, Option.bind_some, e1, Option.bind_some, wrapI (v := (i : Int) + 1) (by omega) (by omega), show (i : Int) + 1 = ((i + 1 : Nat) : Int) by omega, hdrop]
    exact f1
end
end Go.LI.Film
