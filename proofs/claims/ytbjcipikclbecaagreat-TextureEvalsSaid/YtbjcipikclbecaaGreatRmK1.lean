/- Several texts of this claim in one. -/
import Derived.Test.YtbjcipikclbecaaGreatRmA
import Derived.Test.YtbjcipikclbecaaGreatRmB
import Derived.Test.YtbjcipikclbecaaGreatRdPr
import Derived.Test.YtbjcipikclbecaaGreatRdPe
import Derived.Test.YtbjcipikclbecaaGreatTvJ
set_option linter.unusedVariables false
set_option linter.unusedSimpArgs false
set_option maxRecDepth 100000
set_option exponentiation.threshold 2500
namespace Go.LI
theorem zwl : ∀ (G N : GH), zy1 G (G ++ N) = true
  | [], N => rfl
  | k :: G, N => by simp [zy1, zg7 k.cells, zwl G N]
end Go.LI
namespace Go.LI.Film
open Go.Proofs.YtbjcipikclbecaaGreat Go Go.Proofs Go.LI Go.LI.Fl
def Ret {R : Type} (O : Ora R) (f : Nat) (args : List IV) (v : IV) : Prop := ∀ G : GH, ∃ N : GH, ∀ k : IV → GH → Option R, O f args G k = k v (G ++ N)
section
variable {R : Type}
theorem zIQ {F n : Nat} (hn : 3 ≤ n) (G : GH) (k : IV → GH → Option R) : runC Tryz.prog lo0 F n zh1 [] G k = k (S2 zuA zBH) G := by
  obtain ⟨n, rfl⟩ : ∃ j, n = j + 1 := ⟨n - 1, by omega⟩
  have hI := zEm (R := R) (F := F) (n := n) (by omega)
  rw [show zh1 = 29 from rfl, zzl, zyP, hI, ivF, hI, ivF, zq4]
  rfl
theorem mOf {F n : Nat} (hn : 4 ≤ n) {x : Nat} (hx : x < 2 ^ 64) (G : GH) (k : IV → GH → Option R) : runC Tryz.prog lo0 F n zbw [fL x] G k = k (S2 (ofL x) (ofH x)) G := by
  obtain ⟨n, rfl⟩ : ∃ j, n = j + 1 := ⟨n - 1, by omega⟩
  have hN := zpE (R := R) (F := F) (n := n) (by omega)
  have hZ := wQZ (R := R) (F := F) (n := n) (by omega)
  have hA := zIQ (R := R) (F := F) (n := n) (by omega)
  unfold ofL ofH
  rw [show zbw = 11 from rfl, zBp, zA4, hN x hx, ivB]
  cases hf : fin x with
  | false => rw [Bool.not_false, cond_true, hA, zfY]; rfl
  | true => rw [Bool.not_true, cond_false, hZ x (zeD hx hf), ivF, hZ x (zeD hx hf), ivF]; rfl
theorem zIC {F n : Nat} (hn : 5 ≤ n) {a b c : Nat} (ha : a < 2 ^ 64) (hb : b < 2 ^ 64) (hc : c < 2 ^ 64) (G : GH) (k : IV → GH → Option R) : runC Tryz.prog lo0 F n zhJ [.agg [fL a, fL b, fL c]] G k = k (S6 (ofL a) (ofH a) (ofL b) (ofH b) (ofL c) (ofH c)) G := by
  obtain ⟨n, rfl⟩ : ∃ j, n = j + 1 := ⟨n - 1, by omega⟩
  rw [show zhJ = 12 from rfl, zBz, zAI, mOf (by omega) ha, zfY, mOf (by omega) hb, zfY, mOf (by omega) hc, zfY]
theorem zIS {F n : Nat} (hn : 1 ≤ n) (a b : Nat) (G : GH) (k : IV → GH → Option R) : runC Tryz.prog lo0 F n zdy [S2 a b] G k = k (.bool (zwU a b)) G := by
  obtain ⟨n, rfl⟩ : ∃ j, n = j + 1 := ⟨n - 1, by omega⟩
  unfold zwU
  rw [show zdy = 49 from rfl, ztA, zuv]
  cases feq .f64 a 0 <;> rfl
theorem mWd {F n : Nat} (hn : 2 ≤ n) {a b : Nat} (ha : a < 2 ^ 64) (hb : b < 2 ^ 64) (G : GH) (k : IV → GH → Option R) : runC Tryz.prog lo0 F n zg2 [S2 a b] G k = k (.bool (zjo a b)) G := by
  obtain ⟨n, rfl⟩ : ∃ j, n = j + 1 := ⟨n - 1, by omega⟩
  have hN := zpE (R := R) (F := F) (n := n) (by omega)
  unfold zjo
  rw [show zg2 = 50 from rfl, zx6, zxP, hN a ha, ivB]
  cases fin a with
  | false => rfl
  | true => rw [Bool.not_true, cond_false, hN b hb, ivB]; rfl
theorem zGq {x y : Nat} (hx : num x) (hy : num y) : (bif flt .f64 y x then y else x) = zBF x y := by
  rw [zug hy hx]
  unfold zBF
  by_cases h : sv y < sv x
  · rw [decide_eq_true h, cond_true, if_pos h]
  · rw [decide_eq_false h, cond_false, if_neg h]
theorem zFL {x y : Nat} (hx : num x) (hy : num y) : (bif fgt .f64 y x then y else x) = zBe x y := by
  rw [ztL hy hx]
  unfold zBe
  by_cases h : sv x < sv y
  · rw [decide_eq_true h, cond_true, if_pos h]
  · rw [decide_eq_false h, cond_false, if_neg h]
theorem zow {O : Ora R} (hM : zGY O) {F m : Nat} {K0 : Nat → Nat → Nat → Nat → Nat → Nat → Nat → Nat → GH → Option R} {lo hi b1 b2 i x y : Nat} {l1 l2 : List IV} {e : Nat} {G : GH} {a b c d p q : Nat} (h1 : BL G b1 l1 e) (h2 : BL G b2 l2 e) (hi4 : i < 4) (hx : l1[i]? = some (fL x)) (hy : l2[i]? = some (fL y)) (wx : x < 2 ^ 64) (wy : y < 2 ^ 64) (cl : zcm lo) (ch : zcm hi) :
    zM O (F + 1) K0 (m + 1) lo hi (some ⟨b1, 0⟩) 4 (some ⟨b2, 0⟩) 4 (i : Int) a b c d p q G = zM O (F + 1) K0 m (zBF lo (zqm x y true)) (zBe hi (zqm x y false)) (some ⟨b1, 0⟩) 4 (some ⟨b2, 0⟩) 4 ((i + 1 : Nat) : Int) a b c d p q G := by
  have x1 : ∀ bb : Nat, zbj (some (⟨bb, 0⟩ : GA)) 4 (i : Int) 1 = some ⟨bb, i⟩ := fun bb => by
    simp only [zbj, GA.add, Int.toNat_natCast, Nat.zero_add, Nat.mul_one]
    rw [if_pos ⟨by omega, by omega⟩]
  have g1 := h1.flo hx
  have g2 := h2.flo hy
  have w1 : IntKind.wrap .i64 ((i : Int) + 1) = ((i + 1 : Nat) : Int) := zF (by omega) (by omega)
  have n1 := zGq cl.1 (zs x y true).1
  have n2 := zFL ch.1 (zs x y false).1
  rw [zM]
  unfold zgY
  rw [decide_eq_true (by omega), cond_true]
  unfold zjP
  rw [zaV]
  unfold zep zkp
  rw [x1, Option.bind_some, g1, Option.bind_some, x1, Option.bind_some, g2, Option.bind_some, hM x y true wx wy, zkS, Option.bind_some, g1, Option.bind_some, Option.bind_some, g2, Option.bind_some, hM x y false wx wy, zkS]
  unfold zjG
  rw [zaV]
  unfold zeF zks
  have hKN : ∀ lo' : Nat, zfv O (zfh O (zM O (F + 1) K0 m) K0) lo' hi (some ⟨b1, 0⟩) 4 (some ⟨b2, 0⟩) 4 (i : Int) (zqm x y false) a b c d p q G =
      zM O (F + 1) K0 m lo' (zBe hi (zqm x y false)) (some ⟨b1, 0⟩) 4 (some ⟨b2, 0⟩) 4 ((i + 1 : Nat) : Int) a b c d p q G := fun lo' => by
    unfold zfv zfh
    rw [w1, ← n2]
    cases fgt .f64 (zqm x y false) hi <;> rfl
  rw [hKN, hKN, ← n1]
  cases flt .f64 (zqm x y true) lo <;> rfl
theorem zD2 {F n : Nat} (hF : 1100 ≤ F) (hn : 6 ≤ n) {a b c d : Nat} (ha : num a) (hb : num b) (hc : num c) (hd : num d) : Ret (runC (R := R) Tryz.prog lo0 F n) zae [S2 a b, S2 c d] (S2 (zbC a b c d) (zbB a b c d)) := by
  obtain ⟨n, rfl⟩ : ∃ j, n = j + 1 := ⟨n - 1, by omega⟩
  obtain ⟨F, rfl⟩ : ∃ F', F = F' + 5 := ⟨F - 5, by omega⟩
  have hM := zIg (R := R) (F := F + 5) (n := n) hF (by omega)
  have hI := zEm (R := R) (F := F + 5) (n := n) (by omega)
  intro G
  have ent : ∀ k : IV → GH → Option R, runC Tryz.prog lo0 (F + 5) (n + 1) zae [S2 a b, S2 c d] G k =
      bif zwU a b || zwU c d then k (S2 0 0) G else bif zjo a b || zjo c d then k (S2 zuA zBH) G else
        zM (runC Tryz.prog lo0 (F + 5) n) (F + 5) (ziU (runC Tryz.prog lo0 (F + 5) n) k) (F + 5) zBH zuA (some (zaA G)) 4 (some (zaA (zac G [fL a, fL a, fL b, fL b] 24))) 4 (0 : Int) a b c d 0 0
          (zac (zac G [fL a, fL a, fL b, fL b] 24) [fL c, fL d, fL c, fL d] 24) := by
    intro k
    rw [show zae = 25 from rfl, zyT, zyX]
    unfold zn6 zj7
    rw [zaV]
    unfold zd4 zjX
    rw [zIS (by omega), ivB]
    cases zwU a b with
    | true => rfl
    | false =>
      rw [cond_false, zIS (by omega), ivB, Bool.false_or]
      unfold ziT
      cases zwU c d with
      | true => rfl
      | false =>
        rw [cond_false, cond_false]
        unfold zke
        rw [zaV]
        unfold zd8 zkr
        rw [mWd (by omega) ha.1 hb.1, ivB]
        have hw : zc4 (runC Tryz.prog lo0 (F + 5) n) k (zgX (runC Tryz.prog lo0 (F + 5) n) (F + 5) k) true a b c d 0 0 G = k (S2 zuA zBH) G := by
          unfold zc4
          rw [cond_true, zIQ (by omega), zfY]
        cases zjo a b with
        | true => rw [cond_true, hw, Bool.true_or, cond_true]
        | false =>
          rw [cond_false, mWd (by omega) hc.1 hd.1, ivB, Bool.false_or]
          cases zjo c d with
          | true => rw [hw, cond_true]
          | false =>
            rw [cond_false]
            unfold zc4
            rw [cond_false, hI, ivF, hI, ivF, zq4]
            rfl
  unfold zbC zbB
  cases h1 : (zwU a b || zwU c d) with
  | true => exact ⟨[], fun k => by rw [ent, h1, cond_true, List.append_nil]; rfl⟩
  | false =>
    cases h2 : (zjo a b || zjo c d) with
    | true => exact ⟨[], fun k => by rw [ent, h1, cond_false, h2, cond_true, List.append_nil]; rfl⟩
    | false =>
      rw [cond_false, cond_false, cond_false, cond_false]
      refine ⟨[⟨[fL a, fL a, fL b, fL b], 24, 1⟩, ⟨[fL c, fL d, fL c, fL d], 24, 1⟩], fun k => ?_⟩
      have hG : zac (zac G [fL a, fL a, fL b, fL b] 24) [fL c, fL d, fL c, fL d] 24 = G ++ [⟨[fL a, fL a, fL b, fL b], 24, 1⟩, ⟨[fL c, fL d, fL c, fL d], 24, 1⟩] := by
        unfold zac
        rw [List.append_assoc]
        rfl
      have B1 : BL (zac (zac G [fL a, fL a, fL b, fL b] 24) [fL c, fL d, fL c, fL d] 24) G.length [fL a, fL a, fL b, fL b] 24 :=
        (BL.new G _ 24).keep (zaM _ _ _ (Nat.le_refl _)) (by rw [zp]; omega)
      have B2 := BL.new (zac G [fL a, fL a, fL b, fL b] 24) [fL c, fL d, fL c, fL d] 24
      have c1 := zdg zf7 (zs a c true)
      have c2 := zdg c1 (zs a d true)
      have c3 := zdg c2 (zs b c true)
      have e1 := zdc zdK (zs a c false)
      have e2 := zdc e1 (zs a d false)
      have e3 := zdc e2 (zs b c false)
      rw [ent, h1, cond_false, h2, cond_false, ← hG]
      rw [zp] at B2
      have gl : zaA (zac G [fL a, fL a, fL b, fL b] 24) = ⟨G.length + 1, 0⟩ := by unfold zaA; rw [zp]
      rw [gl, show zaA G = ⟨G.length, 0⟩ from rfl]
      generalize zac (zac G [fL a, fL a, fL b, fL b] 24) [fL c, fL d, fL c, fL d] 24 = G2 at B1 B2 ⊢
      rw [show (0 : Int) = ((0 : Nat) : Int) from rfl, show F + 5 = (F + 4) + 1 from rfl]
      rw [zow hM (F := F + 4) B1 B2 (i := 0) (by omega) rfl rfl ha.1 hc.1 zf7 zdK]
      rw [show F + 4 = (F + 3) + 1 from rfl, zow hM (F := F + 4) B1 B2 (i := 1) (by omega) rfl rfl ha.1 hd.1 c1 e1]
      rw [show F + 3 = (F + 2) + 1 from rfl, zow hM (F := F + 4) B1 B2 (i := 2) (by omega) rfl rfl hb.1 hc.1 c2 e2]
      rw [show F + 2 = (F + 1) + 1 from rfl, zow hM (F := F + 4) B1 B2 (i := 3) (by omega) rfl rfl hb.1 hd.1 c3 e3]
      rw [zM]
      unfold zgY
      rw [decide_eq_false (by omega), cond_false]
      rfl
theorem zHM {F n : Nat} (hF : 1100 ≤ F) (hn : 6 ≤ n) {a b c d : Nat} (ha : num a) (hb : num b) (hc : num c) (hd : num d) (G : GH) (k : IV → GH → Option R) : runC Tryz.prog lo0 F n zdL [S2 a b, S2 c d] G k = k (S2 (zuW a c) (zhS b d)) G := by
  obtain ⟨n, rfl⟩ : ∃ j, n = j + 1 := ⟨n - 1, by omega⟩
  obtain ⟨F, rfl⟩ : ∃ F', F = F' + 1 := ⟨F - 1, by omega⟩
  have hA := zHZ (R := R) (F := F + 1) (n := n) hF (by omega)
  have hI := zEm (R := R) (F := F + 1) (n := n) (by omega)
  rw [show zdL = 45 from rfl, zyM, zy6]
  unfold zn3
  rw [hA a c true ha.1 hc.1, zkS]
  simp only [zgK, zaV, zgG, zkk]
  have fin2 : ∀ s5 : Nat, zfg (runC Tryz.prog lo0 (F + 1) n) k (zeJ (runC Tryz.prog lo0 (F + 1) n) (F + 1) k) s5 a b c d 0 0 G = k (S2 s5 (zhS b d)) G := fun s5 => by
    unfold zfg
    rw [hA b d false hb.1 hd.1, zkS]
    simp only [zeJ, zaV, zgz, zkj]
    unfold zhS
    by_cases h : (fin b && fin d) = true
    · rw [if_pos h, if_pos h, if_pos h, show ((0 : Int) != 0) = false from rfl, cond_false]; rfl
    · rw [if_neg h, if_neg h, if_neg h, show ((10 : Int) != 0) = true from rfl, cond_true, hI, ivF]; rfl
  unfold zuW
  by_cases h : (fin a && fin c) = true
  · rw [if_pos h, if_pos h, if_pos h, show ((0 : Int) != 0) = false from rfl, cond_false, fin2]
  · rw [if_neg h, if_neg h, if_neg h, show ((10 : Int) != 0) = true from rfl, cond_true, hI, ivF, zq4, fin2]
theorem zJ2 {F n : Nat} (hF : 1100 ≤ F) (hn : 7 ≤ n) {a b c d : Nat} (ha : num a) (hb : num b) (hc : num c) (hd : num d) (G : GH) (k : IV → GH → Option R) : runC Tryz.prog lo0 F n zly [S2 a b, S2 c d] G k = k (S2 (zC3 a b c d) (zCC a b c d)) G := by
  obtain ⟨n, rfl⟩ : ∃ j, n = j + 2 := ⟨n - 2, by omega⟩
  have hN : ∀ (G : GH) (k : IV → GH → Option R), runC Tryz.prog lo0 F (n + 1) zmb [S2 c d] G k = k (S2 (ngW d) (ngW c)) G := fun G k => by
    rw [show zmb = 47 from rfl, zzb, zyR, (zmk hd).1, Option.bind_some, (zmk hc).1, Option.bind_some]
  rw [show zly = 23 from rfl, zy8, zyx, hN, zfY, zHM hF (by omega) ha hb (zmk hd).2 (zmk hc).2, zfY]
  rfl
theorem mFl {F n : Nat} (hF : 1 ≤ F) (hn : 3 ≤ n) {x y : Nat} (hx : x < 2 ^ 64) (hy : y < 2 ^ 64) (G : GH) (k : IV → GH → Option R) : runC Tryz.prog lo0 F n zbO [S2 x y] G k = k (.tuple [iL (flN x y), iL (flA x y)]) G := by
  obtain ⟨n, rfl⟩ : ∃ j, n = j + 1 := ⟨n - 1, by omega⟩
  have hR := zIB (R := R) (F := F) (n := n) hF (by omega)
  rw [show zbO = 24 from rfl, zwr, zvE]
  unfold zkG
  rw [hR x hx, zkS, hR y hy, zkS]
  simp only [zeu, zaN hF, zdY]
  unfold zhn flN flA flB
  cases fx : fin x with
  | false => rfl
  | true =>
    cases fy : fin y with
    | false => rfl
    | true =>
      simp only [Bool.and_self, Bool.true_and, cond_true]
      rw [show ((0 : Int) != 0) = false from rfl, cond_false, cond_false]
      cases c3 : feq .f64 (flW x) (flW y) with
      | false => rfl
      | true =>
        rw [Bool.not_true, cond_false, Bool.true_and]
        cases c4 : flt .f64 (flW x) 14069245235905429504 with
        | true => rfl
        | false =>
          rw [cond_false, Bool.not_false, Bool.true_and]
          cases c5 : fgt .f64 (flW x) 4845873199050653696 with
          | true => rfl
          | false =>
            have hu := zCD fx
            have d4 := c4
            have d5 := c5
            rw [zug hu zyj.1, zyj.2, decide_eq_false_iff_not] at d4
            rw [ztL hu zvU.1, zvU.2, decide_eq_false_iff_not] at d5
            obtain ⟨m, hm⟩ := zxf hu (Int.not_lt.1 d4) (Int.not_lt.1 d5)
            unfold zgk
            rw [cond_false, hm, Option.bind_some]
            rfl
theorem zIG {F n : Nat} (hF : 1100 ≤ F) (hn : 7 ≤ n) {a0 a1 a2 a3 a4 a5 b0 b1 b2 b3 b4 b5 : Nat} (p0 : num a0) (p1 : num a1) (p2 : num a2) (p3 : num a3) (p4 : num a4) (p5 : num a5) (q0 : num b0) (q1 : num b1) (q2 : num b2) (q3 : num b3) (q4 : num b4) (q5 : num b5)
    (G : GH) (k : IV → GH → Option R) : runC Tryz.prog lo0 F n zfm [S6 a0 a1 a2 a3 a4 a5, S6 b0 b1 b2 b3 b4 b5] G k = k (S6 (zbC a0 a1 b0 b1) (zbB a0 a1 b0 b1) (zbC a2 a3 b2 b3) (zbB a2 a3 b2 b3) (zbC a4 a5 b4 b5) (zbB a4 a5 b4 b5)) G := by
  obtain ⟨n, rfl⟩ : ∃ j, n = j + 1 := ⟨n - 1, by omega⟩
  obtain ⟨N1, h1⟩ := zD2 (R := R) hF (n := n) (by omega) p0 p1 q0 q1 (zj G)
  obtain ⟨N2, h2⟩ := zD2 (R := R) hF (n := n) (by omega) p2 p3 q2 q3 (zj G)
  obtain ⟨N3, h3⟩ := zD2 (R := R) hF (n := n) (by omega) p4 p5 q4 q5 (zj G)
  rw [show zfm = 20 from rfl, zvA, zvY, h1, zfY, h2, zfY, h3, zfY]
theorem zIN {F n : Nat} (hF : 1100 ≤ F) (hn : 8 ≤ n) {a0 a1 a2 a3 a4 a5 s0 s1 : Nat} (p0 : num a0) (p1 : num a1) (p2 : num a2) (p3 : num a3) (p4 : num a4) (p5 : num a5) (q0 : num s0) (q1 : num s1)
    (G : GH) (k : IV → GH → Option R) : runC Tryz.prog lo0 F n zfl [S6 a0 a1 a2 a3 a4 a5, S2 s0 s1] G k = k (S6 (zbC a0 a1 s0 s1) (zbB a0 a1 s0 s1) (zbC a2 a3 s0 s1) (zbB a2 a3 s0 s1) (zbC a4 a5 s0 s1) (zbB a4 a5 s0 s1)) G := by
  obtain ⟨n, rfl⟩ : ∃ j, n = j + 2 := ⟨n - 2, by omega⟩
  have hA : ∀ (G : GH) (k : IV → GH → Option R), runC Tryz.prog lo0 F (n + 1) zjV [S2 s0 s1] G k = k (S6 s0 s1 s0 s1 s0 s1) G := fun G k => by
    rw [show zjV = 46 from rfl, zwL, zx1]
  rw [show zfl = 22 from rfl, zvX, zwt, hA, zdD, zIG hF (by omega) p0 p1 p2 p3 p4 p5 q0 q1 q0 q1 q0 q1, zdD]
theorem zJZ {F n : Nat} (hF : 1100 ≤ F) (hn : 7 ≤ n) {a0 a1 a2 a3 a4 a5 b0 b1 b2 b3 b4 b5 : Nat} (p0 : num a0) (p1 : num a1) (p2 : num a2) (p3 : num a3) (p4 : num a4) (p5 : num a5) (q0 : num b0) (q1 : num b1) (q2 : num b2) (q3 : num b3) (q4 : num b4) (q5 : num b5)
    (G : GH) (k : IV → GH → Option R) : runC Tryz.prog lo0 F n zmf [S6 a0 a1 a2 a3 a4 a5, S6 b0 b1 b2 b3 b4 b5] G k = k (S6 (zuW a0 b0) (zhS a1 b1) (zuW a2 b2) (zhS a3 b3) (zuW a4 b4) (zhS a5 b5)) G := by
  obtain ⟨n, rfl⟩ : ∃ j, n = j + 1 := ⟨n - 1, by omega⟩
  rw [show zmf = 21 from rfl, zzp, zzm, zHM hF (by omega) p0 p1 q0 q1, zfY, zHM hF (by omega) p2 p3 q2 q3, zfY, zHM hF (by omega) p4 p5 q4 q5, zfY]
end
end Go.LI.Film
namespace Go.LI.Film
open Go.Proofs.YtbjcipikclbecaaGreat Go Go.Proofs Go.LI Go.LI.Fl
theorem zF5 {G : GH} {a : Option GA} {n i : Nat} {px : List Tri} {c : Tri} (h : RP tri G a n px) (hi : px[i]? = some c) : ∃ p, zbj a n (i : Int) 3 = some p ∧ zg G .f64 (GA.add p 0) = some c.1 ∧ zg G .f64 (GA.add p 1) = some c.2.1 ∧ zg G .f64 (GA.add p 2) = some c.2.2 := by
  have hl := (List.getElem?_eq_some_iff.1 hi).1
  obtain ⟨b, e, rest, rfl, hB⟩ := h.2 (by have := h.1; omega)
  have hn := h.1
  have at' : ∀ j, j < 3 → ((px.map tri).flatten ++ rest)[i * 3 + j]? = (tri c)[j]? := fun j hj => (List.getElem?_append_left (by rw [zfU zg6]; omega)).trans (zny zg6 hi j hj)
  refine ⟨⟨b, i * 3⟩, ?_, ?_, ?_, ?_⟩
  · simp only [zbj, GA.add, Int.toNat_natCast, Nat.zero_add]
    rw [if_pos ⟨by omega, by omega⟩]
  · exact hB.flo (i := i * 3 + 0) (at' 0 (by omega))
  · exact hB.flo (i := i * 3 + 1) (at' 1 (by omega))
  · exact hB.flo (i := i * 3 + 2) (at' 2 (by omega))
section
variable {R : Type}
theorem zJC {F n : Nat} (hn : 2 ≤ n) (w h : Int) (a : Option GA) (m : Nat) (G : GH) (k : IV → GH → Option R) : runC Tryz.prog lo0 F n zhM [.agg [iL w, iL h, .slice a m]] G k = k (.bool (zhW w h m)) G := by
  obtain ⟨n, rfl⟩ : ∃ j, n = j + 2 := ⟨n - 2, by omega⟩
  have hf : ∀ (G : GH) (k : IV → GH → Option R), runC Tryz.prog lo0 F (n + 1) zkH [iL w, iL h] G k = k (.bool (decide (1 ≤ w) && decide (1 ≤ h) && decide (w ≤ 1024) && decide (h ≤ 1024) && decide (w * h ≤ 65536))) G := fun G k => by
    rw [show zkH = 72 from rfl, zw7, zx3]
    by_cases h1 : 1 ≤ w
    · rw [decide_eq_true (show w ≥ 1 from h1), cond_true]
      by_cases h2 : 1 ≤ h
      · rw [decide_eq_true (show h ≥ 1 from h2), cond_true]
        by_cases h3 : w ≤ 1024
        · rw [decide_eq_true h3, cond_true]
          by_cases h4 : h ≤ 1024
          · have p1 := zo2 h1 h2
            have p2 := zAl h1 h2 h3 h4
            rw [decide_eq_true h4, cond_true, zF (by omega) (by omega)]
            rfl
          · rw [decide_eq_false h4, cond_false]; rfl
        · rw [decide_eq_false h3, cond_false]; rfl
      · rw [decide_eq_false (show ¬ h ≥ 1 from h2), cond_false]; rfl
    · rw [decide_eq_false (show ¬ w ≥ 1 from h1), cond_false]; rfl
  rw [show zhM = 52 from rfl, zuJ, zuT, hf, ivB]
  unfold zhW
  cases hc : (decide (1 ≤ w) && decide (1 ≤ h) && decide (w ≤ 1024) && decide (h ≤ 1024) && decide (w * h ≤ 65536)) with
  | false => rfl
  | true =>
    simp only [Bool.and_eq_true, decide_eq_true_eq] at hc
    obtain ⟨⟨⟨⟨h1, h2⟩, h3⟩, h4⟩, h5⟩ := hc
    have p1 := zo2 h1 h2
    rw [cond_true, zF (by omega) (by omega), Bool.true_and]
    rw [show ((m : Int) == w * h) = decide ((m : Int) = w * h) from rfl]
theorem zIH {F n : Nat} (hn : 1 ≤ n) {x m : Int} (h1 : 1 ≤ m) (h2 : m ≤ 1024) (G : GH) (k : IV → GH → Option R) : runC Tryz.prog lo0 F n zdZ [iL x, iL m] G k = k (iL (zdB x m)) G := by
  obtain ⟨n, rfl⟩ : ∃ j, n = j + 1 := ⟨n - 1, by omega⟩
  have b1 : Int.tmod x m < m := Int.tmod_lt_of_pos x (by omega)
  have b2 : -m < Int.tmod x m := by
    have := Int.lt_tmod_of_pos x (show 0 < m by omega)
    omega
  rw [show zdZ = 53 from rfl, zuR, zuz, show (m == 0) = false by simp; omega, cond_false]
  unfold zdB
  cases hd : decide (Int.tmod x m < 0) with
  | true => rw [cond_true, cond_true, zF (by omega) (by omega)]
  | false => rw [cond_false, cond_false]
theorem zts (a b : Int) : (zto a b == 1) = (a == 1 && b == 1) := by
  unfold zto
  cases (a == 1 && b == 1) <;> rfl
theorem mIm {F n : Nat} (hF : 1100 ≤ F) (hn : 8 ≤ n) {G : GH} {q : Pc} {p : Pi} (hq : PicOf G q p) (hp : p.w') {u0 u1 v0 v1 : Nat} (hu0 : num u0) (hu1 : num u1) (hv0 : num v0) (hv1 : num v1) (k : IV → GH → Option R) :
    runC Tryz.prog lo0 F n ziu [.agg [iL p.w, iL p.h, .slice q.a q.n], S2 u0 u1, S2 v0 v1] G k =
    k (.tuple [S6 (zl9 p.w p.h p.px u0 u1 v0 v1).l0 (zl9 p.w p.h p.px u0 u1 v0 v1).h0 (zl9 p.w p.h p.px u0 u1 v0 v1).l1 (zl9 p.w p.h p.px u0 u1 v0 v1).h1 (zl9 p.w p.h p.px u0 u1 v0 v1).l2 (zl9 p.w p.h p.px u0 u1 v0 v1).h2, .bool ((zl9 p.w p.h p.px u0 u1 v0 v1).s == 1)]) G := by
  obtain ⟨n, rfl⟩ : ∃ j, n = j + 1 := ⟨n - 1, by omega⟩
  rw [show ziu = 26 from rfl, zwi, zv6, zJC (by omega), ivB]
  have hln := hq.px.1
  rw [← hln]
  unfold zl9
  cases hl : zhW p.w p.h p.px.length with
  | false => rfl
  | true =>
    have hl' : lw p.w p.h = true ∧ ((p.px.length : Int) = p.w * p.h) := by
      unfold zhW at hl
      rw [Bool.and_eq_true] at hl
      exact ⟨hl.1, of_decide_eq_true hl.2⟩
    obtain ⟨q1, q2, q3, q4, q5⟩ := zwB hl'.1
    have cw := zHL p.w
    have ch := zHL p.h
    have hw1 : FloatKind.nearest .f64 p.w = fW p.w := rfl
    have hh1 : FloatKind.nearest .f64 p.h = fW p.h := rfl
    obtain ⟨N1, m1⟩ := zD2 (R := R) hF (n := n) (by omega) hu0 hu1 (zaj cw).1 (zak cw).1 (zj G)
    obtain ⟨N2, m2⟩ := zD2 (R := R) hF (n := n) (by omega) hv0 hv1 (zaj ch).1 (zak ch).1 (zj G)
    rw [Bool.not_true, cond_false, cond_true, hw1, hh1]
    rw [mOf (by omega) cw, zfY, m1, zfY, mFl (by omega) (by omega) (zz _ _ _ _).1.1 (zy _ _ _ _).1.1, zuB]
    rw [mOf (by omega) ch, zfY, m2, zfY, mFl (by omega) (by omega) (zz _ _ _ _).1.1 (zy _ _ _ _).1.1, zuB]
    rw [zIH (by omega) q2 q4, ivI, zIH (by omega) q1 q3, ivI]
    simp only
    obtain ⟨i0, i1⟩ := zB5 (w := p.w) (h := p.h) (x := flN (zbC u0 u1 (ofL (fW p.w)) (ofH (fW p.w))) (zbB u0 u1 (ofL (fW p.w)) (ofH (fW p.w)))) (y := flN (zbC v0 v1 (ofL (fW p.h)) (ofH (fW p.h))) (zbB v0 v1 (ofL (fW p.h)) (ofH (fW p.h)))) q1 q2
    have r1 := zmu (x := flN (zbC v0 v1 (ofL (fW p.h)) (ofH (fW p.h))) (zbB v0 v1 (ofL (fW p.h)) (ofH (fW p.h)))) q2
    have r2 := zmu (x := flN (zbC u0 u1 (ofL (fW p.w)) (ofH (fW p.w))) (zbB u0 u1 (ofL (fW p.w)) (ofH (fW p.w)))) q1
    generalize zdB (flN (zbC v0 v1 (ofL (fW p.h)) (ofH (fW p.h))) (zbB v0 v1 (ofL (fW p.h)) (ofH (fW p.h)))) p.h = Y at *
    generalize zdB (flN (zbC u0 u1 (ofL (fW p.w)) (ofH (fW p.w))) (zbB u0 u1 (ofL (fW p.w)) (ofH (fW p.w)))) p.w = X at *
    have hc1 : 0 ≤ Y * p.w := Int.mul_nonneg r1.1 (by omega)
    rw [zF (show -9223372036854775808 ≤ Y * p.w by omega) (by omega), zF (by omega) (by omega)]
    obtain ⟨m, hm⟩ : ∃ m : Nat, Y * p.w + X = (m : Int) := ⟨(Y * p.w + X).toNat, by omega⟩
    rw [hm] at i1 ⊢
    have hml : m < p.px.length := by have := hl'.2; omega
    have hg := List.getElem?_eq_getElem hml
    have hpd : p.px.getD m (0, 0, 0) = p.px[m] := by rw [List.getD_eq_getElem?_getD, hg]; rfl
    have wc := hp _ (List.getElem_mem hml)
    obtain ⟨z, e0, e1, e2, e3⟩ := zF5 hq.px hg
    rw [hln, e0, Option.bind_some, e1, Option.bind_some, e2, Option.bind_some, e3, Option.bind_some, zIC (by omega) wc.1 wc.2.1 wc.2.2, zdD, Int.toNat_natCast, hpd, zts]
    cases (flA (zbC u0 u1 (ofL (fW p.w)) (ofH (fW p.w))) (zbB u0 u1 (ofL (fW p.w)) (ofH (fW p.w))) == 1) <;> rfl
end
def v6 (v : Vl) : List IV := [fL v.l0, fL v.h0, fL v.l1, fL v.h1, fL v.l2, fL v.h2]
theorem zpQ (v : Vl) : (v6 v).length = 6 := rfl
def suB (v : Vl) : IV := .bool (v.s == 1)
theorem zCQ {vs : List Vl} {o : Nat} {v : Vl} (h : o < vs.length) : zcq (vs.map suB) o [suB v] = (vs.set o v).map suB := by
  unfold zcq
  rw [List.set_eq_take_append_cons_drop, if_pos h, List.map_append, List.map_cons, List.map_take, List.map_drop]
  simp
structure RS (G : GH) (bc bs m : Nat) (vs : List Vl) : Prop where
  len : vs.length = m
  c : G[bc]? = some ⟨(vs.map v6).flatten, 33, 1⟩
  s : G[bs]? = some ⟨vs.map suB, 4, 1⟩
  ne : bc ≠ bs
theorem RS.app {G : GH} {bc bs m : Nat} {vs : List Vl} (h : RS G bc bs m vs) (N : GH) : RS (G ++ N) bc bs m vs :=
  ⟨h.len, by rw [List.getElem?_append_left (List.getElem?_eq_some_iff.1 h.c).1]; exact h.c, by rw [List.getElem?_append_left (List.getElem?_eq_some_iff.1 h.s).1]; exact h.s, h.ne⟩
theorem zkJ (b m : Nat) {x : Int} (hx : 0 ≤ x ∧ x < (m : Int)) (sz : Nat) : zbj (some (⟨b, 0⟩ : GA)) m x sz = some ⟨b, x.toNat * sz⟩ := by
  simp only [zbj, GA.add, Nat.zero_add]
  rw [if_pos ⟨by omega, by omega⟩]
theorem zG8 {G : GH} {b e : Nat} {vs : List Vl} (h : G[b]? = some ⟨(vs.map v6).flatten, e, 1⟩) {x : Int} (hx : 0 ≤ x ∧ x < (vs.length : Int)) :
    zg G .f64 (GA.add ⟨b, x.toNat * 6⟩ 0) = some (vs.getD x.toNat Vl.nil).l0 ∧ zg G .f64 (GA.add ⟨b, x.toNat * 6⟩ 1) = some (vs.getD x.toNat Vl.nil).h0 ∧ zg G .f64 (GA.add ⟨b, x.toNat * 6⟩ 2) = some (vs.getD x.toNat Vl.nil).l1 ∧ zg G .f64 (GA.add ⟨b, x.toNat * 6⟩ 3) = some (vs.getD x.toNat Vl.nil).h1 ∧
    zg G .f64 (GA.add ⟨b, x.toNat * 6⟩ 4) = some (vs.getD x.toNat Vl.nil).l2 ∧ zg G .f64 (GA.add ⟨b, x.toNat * 6⟩ 5) = some (vs.getD x.toNat Vl.nil).h2 := by
  obtain ⟨m, rfl⟩ : ∃ m : Nat, x = (m : Int) := ⟨x.toNat, by omega⟩
  have hm : m < vs.length := by omega
  have hg := List.getElem?_eq_getElem hm
  rw [Int.toNat_natCast, List.getD_eq_getElem?_getD, hg]
  have hB : BL G b ((vs.map v6).flatten) e := ⟨1, by decide, h⟩
  have at' : ∀ j, j < 6 → ((vs.map v6).flatten)[m * 6 + j]? = (v6 vs[m])[j]? := fun j hj => zny zpQ hg j hj
  exact ⟨hB.flo (i := m * 6 + 0) (at' 0 (by omega)), hB.flo (i := m * 6 + 1) (at' 1 (by omega)), hB.flo (i := m * 6 + 2) (at' 2 (by omega)), hB.flo (i := m * 6 + 3) (at' 3 (by omega)), hB.flo (i := m * 6 + 4) (at' 4 (by omega)), hB.flo (i := m * 6 + 5) (at' 5 (by omega))⟩
theorem zHs {G : GH} {b e : Nat} {vs : List Vl} (h : G[b]? = some ⟨vs.map suB, e, 1⟩) {x : Int} (hx : 0 ≤ x ∧ x < (vs.length : Int)) : zfZ G ⟨b, x.toNat * 1⟩ = some ((vs.getD x.toNat Vl.nil).s == 1) := by
  obtain ⟨m, rfl⟩ : ∃ m : Nat, x = (m : Int) := ⟨x.toNat, by omega⟩
  have hm : m < vs.length := by omega
  have hg := List.getElem?_eq_getElem hm
  rw [Int.toNat_natCast, List.getD_eq_getElem?_getD, hg, Nat.mul_one]
  have hB : BL G b (vs.map suB) e := ⟨1, by decide, h⟩
  exact hB.boo (i := m) (by rw [List.getElem?_map, hg]; rfl)
theorem RS.put {G : GH} {bc bs m i : Nat} {vs : List Vl} (h : RS G bc bs m vs) (hi : i < m) (v : Vl) :
    ∃ G1 G2, gst G ⟨bc, i * 6⟩ (v6 v) = some G1 ∧ G1[bs]? = G[bs]? ∧ gst G1 ⟨bs, i * 1⟩ [suB v] = some G2 ∧ RS G2 bc bs m (vs.set i v) ∧ (∀ b, b ≠ bc → b ≠ bs → G2[b]? = G[b]?) ∧ G2.length = G.length := by
  have hl := h.len
  obtain ⟨G1, a1, a2, a3, a4⟩ := zAc (o := i * 6) h.c (vs := v6 v) (by rw [zfU zpQ, zpQ]; omega)
  have hs1 : G1[bs]? = some ⟨vs.map suB, 4, 1⟩ := by rw [a3 bs (Ne.symm h.ne)]; exact h.s
  obtain ⟨G2, b1, b2, b3, b4⟩ := zAc (o := i * 1) hs1 (vs := [suB v]) (by simp; omega)
  refine ⟨G1, G2, a1, a3 bs (Ne.symm h.ne), b1, ⟨by rw [List.length_set, hl], ?_, ?_, h.ne⟩, fun b x y => by rw [b3 b y, a3 b x], by rw [b4, a4]⟩
  · rw [b3 bc h.ne, a2, znZ zpQ (by omega)]
  · rw [b2, Nat.mul_one, zCQ (by omega)]
theorem zIk {G : GH} {k : IntKind} {a : GA} {x : Int} (h : z0 G k a = some x) : a.b < G.length := by
  rcases Nat.lt_or_ge a.b G.length with h1 | h1
  · exact h1
  · simp only [z0, gld, List.getElem?_eq_none h1] at h
    cases h
theorem zqh {a b : Nat} (h : a ≤ b) : Nat.ble a b = true := Nat.ble_eq_true_of_le h
theorem zIf (A B s : Int) : (zto (zto A B) s == 1) = (bif (s == 1) then bif (A == 1) then (B == 1) else false else false) := by
  rw [zts, zts]
  cases (s == 1) <;> cases (A == 1) <;> cases (B == 1) <;> rfl
end Go.LI.Film
namespace Go.LI.Film
open Go.Proofs.YtbjcipikclbecaaGreat Go Go.Proofs Go.LI Go.LI.Fl
theorem zzM {G : GH} {q : Pc} {p : Pi} (h : PicOf G q p) (N : GH) : PicOf (G ++ N) q p :=
  ⟨h.w, h.h, h.px.keep (base := G.length) ⟨by simp, fun i hi => List.getElem?_append_left hi⟩ (Nat.le_refl _)⟩
section
variable {R : Type}
theorem zHp {F n : Nat} (hF : 1100 ≤ F) (hn : 9 ≤ n) {ps : List Pi} {ts : List Tx} {vs : List Vl} {u0 u1 v0 v1 : Nat} {a pa : Option GA} {nn pn m i bc bs : Nat} {s2 : Int} {t : Tx} {G : GH} (hT : RP tcs G a nn ts) (hP : PR G pa pn ps) (hti : ts[i]? = some t) (hw : t.w) (hck : chk t (i : Int) (ps.length : Int) = 0)
    (hS : RS G bc bs m vs) (hi : i < m) (hm : m < 2 ^ 60) (hvo : ∀ v ∈ vs, v.ok) (hpo : ∀ p ∈ ps, p.w') (hu0 : num u0) (hu1 : num u1) (hv0 : num v0) (hv1 : num v1) :
    ∃ G', RS G' bc bs m (vs.set i (zmm ps u0 u1 v0 v1 t (vs.getD t.a.toNat Vl.nil) (vs.getD t.b.toNat Vl.nil))) ∧ (∀ b, b ≠ bc → b ≠ bs → b < G.length → G'[b]? = G[b]?) ∧ G.length ≤ G'.length ∧
      ∀ KN, zQ (R := R) (runC Tryz.prog lo0 F n) KN (zbh (runC Tryz.prog lo0 F n) F KN) a nn pa pn s2 (some ⟨bc, 0⟩) m (some ⟨bs, 0⟩) m (i : Int) u0 u1 v0 v1 0 0 0 0 0 0 G = KN a nn pa pn s2 (some ⟨bc, 0⟩) m (some ⟨bs, 0⟩) m (i : Int) u0 u1 v0 v1 0 0 0 0 0 0 G' := by
  obtain ⟨F, rfl⟩ : ∃ F', F = F' + 1 := ⟨F - 1, by omega⟩
  have hc := zzA hck
  obtain ⟨q, l0, l1, l2, l3, l4, l5, l6, l7, l8⟩ := zvd hT hti
  obtain ⟨K, c0, c1, c2, ta, tb, s, im⟩ := t
  obtain ⟨w0, w1, w2, ws⟩ := hw
  simp only at w0 w1 w2 ws l1 l2 l3 l4 l5 l6 l7 l8
  have hk : K = 1 ∨ K = 2 ∨ K = 3 ∨ K = 4 ∨ K = 5 := hc.k
  have hc2 : K = 2 ∨ K = 3 → (0 ≤ ta ∧ ta < (i : Int)) ∧ (0 ≤ tb ∧ tb < (i : Int)) := hc.two
  have hc5 : K = 5 → 0 ≤ ta ∧ ta < (i : Int) := hc.sc
  have hc4 : K = 4 → 0 ≤ im ∧ im < (ps.length : Int) := hc.im
  clear hc hck
  have nL := (zaj ws).1
  have nH := (zak ws).1
  have hlen := hS.len
  have ii : zbj (some (⟨bc, 0⟩ : GA)) m (i : Int) 6 = some ⟨bc, i * 6⟩ := by rw [zkJ bc m ⟨by omega, by omega⟩ 6, Int.toNat_natCast]
  have ij : zbj (some (⟨bs, 0⟩ : GA)) m (i : Int) 1 = some ⟨bs, i * 1⟩ := by rw [zkJ bs m ⟨by omega, by omega⟩ 1, Int.toNat_natCast]
  have hbc : bc < G.length := (List.getElem?_eq_some_iff.1 hS.c).1
  have hbs : bs < G.length := (List.getElem?_eq_some_iff.1 hS.s).1
  have hO := fun (G : GH) (k : IV → GH → Option R) => mOf (R := R) (F := F + 1) (n := n) (by omega) ws G k
  have ent : ∀ KN, zQ (R := R) (runC Tryz.prog lo0 (F + 1) n) KN (zbh (runC Tryz.prog lo0 (F + 1) n) (F + 1) KN) a nn pa pn s2 (some ⟨bc, 0⟩) m (some ⟨bs, 0⟩) m (i : Int) u0 u1 v0 v1 0 0 0 0 0 0 G =
      zQ (R := R) (runC Tryz.prog lo0 (F + 1) n) KN (zbh (runC Tryz.prog lo0 (F + 1) n) (F + 1) KN) a nn pa pn s2 (some ⟨bc, 0⟩) m (some ⟨bs, 0⟩) m (i : Int) u0 u1 v0 v1 0 0 0 0 0 0 G := fun _ => rfl
  rcases hk with rfl | rfl | rfl | rfl | rfl
  · -- one colour
    obtain ⟨G1, G2, p1, p2, p3, p4, p5, p6⟩ := hS.put hi (zmm ps u0 u1 v0 v1 ⟨1, c0, c1, c2, ta, tb, s, im⟩ (vs.getD ta.toNat Vl.nil) (vs.getD tb.toNat Vl.nil))
    refine ⟨G2, p4, fun b x y _ => p5 b x y, by omega, fun KN => ?_⟩
    have p1' : gst G ⟨bc, i * 6⟩ [fL (ofL c0), fL (ofH c0), fL (ofL c1), fL (ofH c1), fL (ofL c2), fL (ofH c2)] = some G1 := p1
    have p3' : gst G1 ⟨bs, i * 1⟩ [.bool true] = some G2 := p3
    unfold zQ
    rw [l0, Option.bind_some, l1, Option.bind_some, l2, Option.bind_some, l3, Option.bind_some, l4, Option.bind_some, l5, Option.bind_some, l6, Option.bind_some, l7, Option.bind_some, l8, Option.bind_some, hO, zfY]
    rw [show ((1 : Int) == 1) = true from rfl, cond_true, zIC (by omega) w0 w1 w2, zdD, ii, Option.bind_some, p1', Option.bind_some, ij, Option.bind_some, p3', Option.bind_some]
  · -- a checker
    obtain ⟨ha, hb⟩ := hc2 (.inl rfl)
    obtain ⟨N1, m1⟩ := zD2 (R := R) hF (n := n) (by omega) hu0 hu1 nL nH G
    obtain ⟨N2, m2⟩ := zD2 (R := R) hF (n := n) (by omega) hv0 hv1 nL nH (G ++ N1)
    have hS2 := (hS.app N1).app N2
    have fin2 : ∀ (A B pk : Int), (0 ≤ pk ∧ pk < (i : Int)) → ∃ G', RS G' bc bs m (vs.set i ⟨(vs.getD pk.toNat Vl.nil).l0, (vs.getD pk.toNat Vl.nil).h0, (vs.getD pk.toNat Vl.nil).l1, (vs.getD pk.toNat Vl.nil).h1, (vs.getD pk.toNat Vl.nil).l2, (vs.getD pk.toNat Vl.nil).h2, zto (zto A B) (vs.getD pk.toNat Vl.nil).s⟩) ∧ (∀ b, b ≠ bc → b ≠ bs → b < G.length → G'[b]? = G[b]?) ∧ G.length ≤ G'.length ∧
        ∀ KN b30 b31 b32 b33 b34 b35 b36 b37 b40 b41, zbn (R := R) (runC Tryz.prog lo0 (F + 1) n) KN a nn pa pn s2 (some ⟨bc, 0⟩) m (some ⟨bs, 0⟩) m (i : Int) A B pk u0 u1 v0 v1 0 0 0 0 0 0 b30 b31 b32 b33 b34 b35 b36 b37 b40 b41 (G ++ N1 ++ N2) = KN a nn pa pn s2 (some ⟨bc, 0⟩) m (some ⟨bs, 0⟩) m (i : Int) u0 u1 v0 v1 0 0 0 0 0 0 G' := by
      intro A B pk hpk
      obtain ⟨G1, G2, p1, p2, p3, p4, p5, p6⟩ := hS2.put hi ⟨(vs.getD pk.toNat Vl.nil).l0, (vs.getD pk.toNat Vl.nil).h0, (vs.getD pk.toNat Vl.nil).l1, (vs.getD pk.toNat Vl.nil).h1, (vs.getD pk.toNat Vl.nil).l2, (vs.getD pk.toNat Vl.nil).h2, zto (zto A B) (vs.getD pk.toNat Vl.nil).s⟩
      refine ⟨G2, p4, fun b x y hbl => ?_, ?_, fun KN b30 b31 b32 b33 b34 b35 b36 b37 b40 b41 => ?_⟩
      · rw [p5 b x y, List.getElem?_append_left (by rw [List.length_append]; omega), List.getElem?_append_left hbl]
      · rw [p6, List.length_append, List.length_append]; omega
      · obtain ⟨d0, d1, d2, d3, d4, d5⟩ := zG8 hS2.c (x := pk) ⟨hpk.1, by omega⟩
        have ds := zHs hS2.s (x := pk) ⟨hpk.1, by omega⟩
        have p1' : gst (G ++ N1 ++ N2) ⟨bc, i * 6⟩ [fL (vs.getD pk.toNat Vl.nil).l0, fL (vs.getD pk.toNat Vl.nil).h0, fL (vs.getD pk.toNat Vl.nil).l1, fL (vs.getD pk.toNat Vl.nil).h1, fL (vs.getD pk.toNat Vl.nil).l2, fL (vs.getD pk.toNat Vl.nil).h2] = some G1 := p1
        have p3' : gst G1 ⟨bs, i * 1⟩ [.bool (zto (zto A B) (vs.getD pk.toNat Vl.nil).s == 1)] = some G2 := p3
        rw [zIf] at p3'
        unfold zbn
        rw [zkJ bc m ⟨hpk.1, by omega⟩ 6, Option.bind_some, d0, Option.bind_some, d1, Option.bind_some, d2, Option.bind_some, d3, Option.bind_some, d4, Option.bind_some, d5, Option.bind_some, zkJ bs m ⟨hpk.1, by omega⟩ 1, Option.bind_some, ds, Option.bind_some]
        simp only [ii, ij, Option.bind_some, p1']
        cases hb1 : ((vs.getD pk.toNat Vl.nil).s == 1) with
        | false => rw [hb1, cond_false] at p3'; rw [cond_false, p3', Option.bind_some]
        | true =>
          rw [hb1, cond_true] at p3'
          rw [cond_true]
          cases hb2 : (A == 1) with
          | false => rw [hb2, cond_false] at p3'; rw [cond_false, p3', Option.bind_some]
          | true => rw [hb2, cond_true] at p3'; rw [cond_true, p3', Option.bind_some]
    have ent3 : ∀ KN, zQ (R := R) (runC Tryz.prog lo0 (F + 1) n) KN (zbh (runC Tryz.prog lo0 (F + 1) n) (F + 1) KN) a nn pa pn s2 (some ⟨bc, 0⟩) m (some ⟨bs, 0⟩) m (i : Int) u0 u1 v0 v1 0 0 0 0 0 0 G =
        bif (Int.tmod (IntKind.wrap .i64 (flN (zbC u0 u1 (ofL s) (ofH s)) (zbB u0 u1 (ofL s) (ofH s)) + flN (zbC v0 v1 (ofL s) (ofH s)) (zbB v0 v1 (ofL s) (ofH s)))) 2 != 0) then
          zbn (R := R) (runC Tryz.prog lo0 (F + 1) n) KN a nn pa pn s2 (some ⟨bc, 0⟩) m (some ⟨bs, 0⟩) m (i : Int) (flA (zbC u0 u1 (ofL s) (ofH s)) (zbB u0 u1 (ofL s) (ofH s))) (flA (zbC v0 v1 (ofL s) (ofH s)) (zbB v0 v1 (ofL s) (ofH s))) tb u0 u1 v0 v1 0 0 0 0 0 0 2 c0 c1 c2 ta tb s im (ofL s) (ofH s) (G ++ N1 ++ N2)
        else zbn (R := R) (runC Tryz.prog lo0 (F + 1) n) KN a nn pa pn s2 (some ⟨bc, 0⟩) m (some ⟨bs, 0⟩) m (i : Int) (flA (zbC u0 u1 (ofL s) (ofH s)) (zbB u0 u1 (ofL s) (ofH s))) (flA (zbC v0 v1 (ofL s) (ofH s)) (zbB v0 v1 (ofL s) (ofH s))) ta u0 u1 v0 v1 0 0 0 0 0 0 2 c0 c1 c2 ta tb s im (ofL s) (ofH s) (G ++ N1 ++ N2) := by
      intro KN
      unfold zQ
      rw [l0, Option.bind_some, l1, Option.bind_some, l2, Option.bind_some, l3, Option.bind_some, l4, Option.bind_some, l5, Option.bind_some, l6, Option.bind_some, l7, Option.bind_some, l8, Option.bind_some, hO, zfY]
      rw [show ((2 : Int) == 1) = false from rfl, cond_false, show ((2 : Int) == 5) = false from rfl, cond_false, show ((2 : Int) == 3) = false from rfl, cond_false, show ((2 : Int) == 2) = true from rfl, cond_true]
      rw [m1, zfY, mFl (by omega) (by omega) (zz _ _ _ _).1.1 (zy _ _ _ _).1.1, zuB, m2, zfY, mFl (by omega) (by omega) (zz _ _ _ _).1.1 (zy _ _ _ _).1.1, zuB]
      simp only [zbh, zaV, zda, zin]
    have hone : zmm ps u0 u1 v0 v1 ⟨2, c0, c1, c2, ta, tb, s, im⟩ (vs.getD ta.toNat Vl.nil) (vs.getD tb.toNat Vl.nil) =
        bif (Int.tmod (IntKind.wrap .i64 (flN (zbC u0 u1 (ofL s) (ofH s)) (zbB u0 u1 (ofL s) (ofH s)) + flN (zbC v0 v1 (ofL s) (ofH s)) (zbB v0 v1 (ofL s) (ofH s)))) 2 != 0) then
          ⟨(vs.getD tb.toNat Vl.nil).l0, (vs.getD tb.toNat Vl.nil).h0, (vs.getD tb.toNat Vl.nil).l1, (vs.getD tb.toNat Vl.nil).h1, (vs.getD tb.toNat Vl.nil).l2, (vs.getD tb.toNat Vl.nil).h2, zto (zto (flA (zbC u0 u1 (ofL s) (ofH s)) (zbB u0 u1 (ofL s) (ofH s))) (flA (zbC v0 v1 (ofL s) (ofH s)) (zbB v0 v1 (ofL s) (ofH s)))) (vs.getD tb.toNat Vl.nil).s⟩
        else ⟨(vs.getD ta.toNat Vl.nil).l0, (vs.getD ta.toNat Vl.nil).h0, (vs.getD ta.toNat Vl.nil).l1, (vs.getD ta.toNat Vl.nil).h1, (vs.getD ta.toNat Vl.nil).l2, (vs.getD ta.toNat Vl.nil).h2, zto (zto (flA (zbC u0 u1 (ofL s) (ofH s)) (zbB u0 u1 (ofL s) (ofH s))) (flA (zbC v0 v1 (ofL s) (ofH s)) (zbB v0 v1 (ofL s) (ofH s)))) (vs.getD ta.toNat Vl.nil).s⟩ := by
      unfold zmm
      simp only [show ((2 : Int) == 2) = true from rfl, cond_true]
      cases (Int.tmod (IntKind.wrap .i64 (flN (zbC u0 u1 (ofL s) (ofH s)) (zbB u0 u1 (ofL s) (ofH s)) + flN (zbC v0 v1 (ofL s) (ofH s)) (zbB v0 v1 (ofL s) (ofH s)))) 2 != 0) <;> rfl
    cases hcc : (Int.tmod (IntKind.wrap .i64 (flN (zbC u0 u1 (ofL s) (ofH s)) (zbB u0 u1 (ofL s) (ofH s)) + flN (zbC v0 v1 (ofL s) (ofH s)) (zbB v0 v1 (ofL s) (ofH s)))) 2 != 0) with
    | true =>
      obtain ⟨G', g1, g2, g3, g4⟩ := fin2 (flA (zbC u0 u1 (ofL s) (ofH s)) (zbB u0 u1 (ofL s) (ofH s))) (flA (zbC v0 v1 (ofL s) (ofH s)) (zbB v0 v1 (ofL s) (ofH s))) tb hb
      exact ⟨G', by rw [hone, hcc, cond_true]; exact g1, g2, g3, fun KN => by rw [ent3, hcc, cond_true, g4]⟩
    | false =>
      obtain ⟨G', g1, g2, g3, g4⟩ := fin2 (flA (zbC u0 u1 (ofL s) (ofH s)) (zbB u0 u1 (ofL s) (ofH s))) (flA (zbC v0 v1 (ofL s) (ofH s)) (zbB v0 v1 (ofL s) (ofH s))) ta ha
      exact ⟨G', by rw [hone, hcc, cond_false]; exact g1, g2, g3, fun KN => by rw [ent3, hcc, cond_false, g4]⟩
  · -- a mix
    obtain ⟨ha, hb⟩ := hc2 (.inr rfl)
    have xo := znh hvo ta.toNat
    have yo := znh hvo tb.toNat
    have r0 : num (zC3 4607182418800017408 4607182418800017408 (ofL s) (ofH s)) := (zjc _ _).1
    have r1 : num (zCC 4607182418800017408 4607182418800017408 (ofL s) (ofH s)) := (zhd _ _).1
    have o1 := fun (G : GH) (k : IV → GH → Option R) => mOf (R := R) (F := F + 1) (n := n) (by omega) (x := 4607182418800017408) (by decide) G k
    rw [zCU, zCt] at o1
    obtain ⟨G1, G2, p1, p2, p3, p4, p5, p6⟩ := hS.put hi (zmm ps u0 u1 v0 v1 ⟨3, c0, c1, c2, ta, tb, s, im⟩ (vs.getD ta.toNat Vl.nil) (vs.getD tb.toNat Vl.nil))
    refine ⟨G2, p4, fun b x y _ => p5 b x y, by omega, fun KN => ?_⟩
    generalize hX : vs.getD ta.toNat Vl.nil = X at *
    generalize hY : vs.getD tb.toNat Vl.nil = Y at *
    obtain ⟨d0, d1, d2, d3, d4, d5⟩ := zG8 hS.c (x := ta) ⟨ha.1, by omega⟩
    obtain ⟨f0, f1, f2, f3, f4, f5⟩ := zG8 hS.c (x := tb) ⟨hb.1, by omega⟩
    rw [hX] at d0 d1 d2 d3 d4 d5
    rw [hY] at f0 f1 f2 f3 f4 f5
    have hs1 : G1[bs]? = some ⟨vs.map suB, 4, 1⟩ := by rw [p2]; exact hS.s
    have ds := zHs hs1 (x := ta) ⟨ha.1, by omega⟩
    have es := zHs hs1 (x := tb) ⟨hb.1, by omega⟩
    rw [hX] at ds
    rw [hY] at es
    have p3' : gst G1 ⟨bs, i * 1⟩ [.bool (zto X.s Y.s == 1)] = some G2 := p3
    rw [zts] at p3'
    have p1' : gst G ⟨bc, i * 6⟩ [fL (zuW (zbC X.l0 X.h0 (zC3 4607182418800017408 4607182418800017408 (ofL s) (ofH s)) (zCC 4607182418800017408 4607182418800017408 (ofL s) (ofH s))) (zbC Y.l0 Y.h0 (ofL s) (ofH s))), fL (zhS (zbB X.l0 X.h0 (zC3 4607182418800017408 4607182418800017408 (ofL s) (ofH s)) (zCC 4607182418800017408 4607182418800017408 (ofL s) (ofH s))) (zbB Y.l0 Y.h0 (ofL s) (ofH s))),
      fL (zuW (zbC X.l1 X.h1 (zC3 4607182418800017408 4607182418800017408 (ofL s) (ofH s)) (zCC 4607182418800017408 4607182418800017408 (ofL s) (ofH s))) (zbC Y.l1 Y.h1 (ofL s) (ofH s))), fL (zhS (zbB X.l1 X.h1 (zC3 4607182418800017408 4607182418800017408 (ofL s) (ofH s)) (zCC 4607182418800017408 4607182418800017408 (ofL s) (ofH s))) (zbB Y.l1 Y.h1 (ofL s) (ofH s))),
      fL (zuW (zbC X.l2 X.h2 (zC3 4607182418800017408 4607182418800017408 (ofL s) (ofH s)) (zCC 4607182418800017408 4607182418800017408 (ofL s) (ofH s))) (zbC Y.l2 Y.h2 (ofL s) (ofH s))), fL (zhS (zbB X.l2 X.h2 (zC3 4607182418800017408 4607182418800017408 (ofL s) (ofH s)) (zCC 4607182418800017408 4607182418800017408 (ofL s) (ofH s))) (zbB Y.l2 Y.h2 (ofL s) (ofH s)))] = some G1 := p1
    unfold zQ
    rw [l0, Option.bind_some, l1, Option.bind_some, l2, Option.bind_some, l3, Option.bind_some, l4, Option.bind_some, l5, Option.bind_some, l6, Option.bind_some, l7, Option.bind_some, l8, Option.bind_some, hO, zfY]
    rw [show ((3 : Int) == 1) = false from rfl, cond_false, show ((3 : Int) == 5) = false from rfl, cond_false, show ((3 : Int) == 3) = true from rfl, cond_true]
    rw [zkJ bc m ⟨ha.1, by omega⟩ 6, Option.bind_some, d0, Option.bind_some, d1, Option.bind_some, d2, Option.bind_some, d3, Option.bind_some, d4, Option.bind_some, d5, Option.bind_some]
    rw [o1, zfY, zJ2 hF (by omega) zAq zAq nL nH, zfY, zIN hF (by omega) xo.a0.1 xo.b0.1 xo.a1.1 xo.b1.1 xo.a2.1 xo.b2.1 r0 r1, zdD]
    rw [zkJ bc m ⟨hb.1, by omega⟩ 6, Option.bind_some, f0, Option.bind_some, f1, Option.bind_some, f2, Option.bind_some, f3, Option.bind_some, f4, Option.bind_some, f5, Option.bind_some]
    rw [zIN hF (by omega) yo.a0.1 yo.b0.1 yo.a1.1 yo.b1.1 yo.a2.1 yo.b2.1 nL nH, zdD]
    rw [zJZ hF (by omega) (zz _ _ _ _).1 (zy _ _ _ _).1 (zz _ _ _ _).1 (zy _ _ _ _).1 (zz _ _ _ _).1 (zy _ _ _ _).1 (zz _ _ _ _).1 (zy _ _ _ _).1 (zz _ _ _ _).1 (zy _ _ _ _).1 (zz _ _ _ _).1 (zy _ _ _ _).1, zdD]
    rw [ii, Option.bind_some, p1', Option.bind_some, zkJ bs m ⟨ha.1, by omega⟩ 1, Option.bind_some, ds, Option.bind_some]
    cases hb1 : (X.s == 1) with
    | false => rw [hb1, Bool.false_and] at p3'; rw [cond_false, ij, Option.bind_some, p3', Option.bind_some]
    | true =>
      rw [hb1, Bool.true_and] at p3'
      rw [cond_true, zkJ bs m ⟨hb.1, by omega⟩ 1, Option.bind_some, es, Option.bind_some, ij, Option.bind_some, p3', Option.bind_some]
  · -- a picture
    have him := hc4 rfl
    obtain ⟨qs, P1, P2, P3⟩ := hP
    obtain ⟨j, rfl⟩ : ∃ j : Nat, im = (j : Int) := ⟨im.toNat, by omega⟩
    have hj : j < ps.length := by omega
    have hg := List.getElem?_eq_getElem hj
    have hq := List.getElem?_eq_getElem (show j < qs.length by omega)
    have po := P3 j _ _ hq hg
    obtain ⟨z, i0, j0, j1, j2⟩ := zEV P1 hq
    rw [po.w] at j0
    rw [po.h] at j1
    have zb : z.b < G.length := zIk (a := GA.add z 0) j0
    obtain ⟨N1, m1⟩ := zD2 (R := R) hF (n := n) (by omega) hu0 hu1 nL nH G
    obtain ⟨N2, m2⟩ := zD2 (R := R) hF (n := n) (by omega) hv0 hv1 nL nH (G ++ N1)
    have hS2 := (hS.app N1).app N2
    have po2 := zzM (zzM po N1) N2
    have mi := fun (k : IV → GH → Option R) => mIm (R := R) hF (n := n) (by omega) po2 (hpo _ (List.getElem_mem hj)) (zz u0 u1 (ofL s) (ofH s)).1 (zy u0 u1 (ofL s) (ofH s)).1 (zz v0 v1 (ofL s) (ofH s)).1 (zy v0 v1 (ofL s) (ofH s)).1 k
    have hone : zmm ps u0 u1 v0 v1 ⟨4, c0, c1, c2, ta, tb, s, (j : Int)⟩ (vs.getD ta.toNat Vl.nil) (vs.getD tb.toNat Vl.nil) = zl9 (ps[j]).w (ps[j]).h (ps[j]).px (zbC u0 u1 (ofL s) (ofH s)) (zbB u0 u1 (ofL s) (ofH s)) (zbC v0 v1 (ofL s) (ofH s)) (zbB v0 v1 (ofL s) (ofH s)) := by
      unfold zmm
      simp only [show ((4 : Int) == 2) = false from rfl, show ((4 : Int) == 3) = false from rfl, show ((4 : Int) == 4) = true from rfl, cond_true, cond_false, Int.toNat_natCast]
      rw [List.getD_eq_getElem?_getD, hg]
      rfl
    rw [hone]
    generalize zl9 (ps[j]).w (ps[j]).h (ps[j]).px (zbC u0 u1 (ofL s) (ofH s)) (zbB u0 u1 (ofL s) (ofH s)) (zbC v0 v1 (ofL s) (ofH s)) (zbB v0 v1 (ofL s) (ofH s)) = V at mi ⊢
    obtain ⟨G1, G2, p1, p2, p3, p4, p5, p6⟩ := hS2.put hi V
    refine ⟨G2, p4, fun b x y hbl => ?_, ?_, fun KN => ?_⟩
    · rw [p5 b x y, List.getElem?_append_left (by rw [List.length_append]; omega), List.getElem?_append_left hbl]
    · rw [p6, List.length_append, List.length_append]; omega
    · have p1' : gst (G ++ N1 ++ N2) ⟨bc, i * 6⟩ [fL V.l0, fL V.h0, fL V.l1, fL V.h1, fL V.l2, fL V.h2] = some G1 := p1
      have p3' : gst G1 ⟨bs, i * 1⟩ [.bool (V.s == 1)] = some G2 := p3
      unfold zQ
      rw [l0, Option.bind_some, l1, Option.bind_some, l2, Option.bind_some, l3, Option.bind_some, l4, Option.bind_some, l5, Option.bind_some, l6, Option.bind_some, l7, Option.bind_some, l8, Option.bind_some, hO, zfY]
      rw [show ((4 : Int) == 1) = false from rfl, cond_false, show ((4 : Int) == 5) = false from rfl, cond_false, show ((4 : Int) == 3) = false from rfl, cond_false, show ((4 : Int) == 2) = false from rfl, cond_false, show ((4 : Int) == 4) = true from rfl, cond_true]
      rw [i0, Option.bind_some, if_pos (zp3 zb), j0, Option.bind_some, j1, Option.bind_some, j2, Option.bind_some]
      rw [if_pos (zqh (Nat.le_refl _)), m1, zfY, if_pos (zwl _ _), if_pos (zqh (by rw [List.length_append]; omega)), m2, zfY, if_pos (zwl _ _), if_pos (zqh (by rw [List.length_append, List.length_append]; omega))]
      rw [mi]
      rw [show ∀ (x y : IV), zY 2 (.tuple [x, y]) = some [x, y] from fun _ _ => rfl, Option.bind_some]
      simp only [List.getD_cons_zero, List.getD_cons_succ]
      rw [zdD, ivB, if_pos (zqe _), ii, Option.bind_some, p1', Option.bind_some, ij, Option.bind_some, p3', Option.bind_some]
  · -- scaled
    have ha := hc5 rfl
    have xo := znh hvo ta.toNat
    obtain ⟨G1, G2, p1, p2, p3, p4, p5, p6⟩ := hS.put hi (zmm ps u0 u1 v0 v1 ⟨5, c0, c1, c2, ta, tb, s, im⟩ (vs.getD ta.toNat Vl.nil) (vs.getD tb.toNat Vl.nil))
    refine ⟨G2, p4, fun b x y _ => p5 b x y, by omega, fun KN => ?_⟩
    generalize hX : vs.getD ta.toNat Vl.nil = X at *
    obtain ⟨d0, d1, d2, d3, d4, d5⟩ := zG8 hS.c (x := ta) ⟨ha.1, by omega⟩
    rw [hX] at d0 d1 d2 d3 d4 d5
    have ds := zHs hS.s (x := ta) ⟨ha.1, by omega⟩
    rw [hX] at ds
    have p1' : gst G ⟨bc, i * 6⟩ [fL (zbC X.l0 X.h0 (ofL c0) (ofH c0)), fL (zbB X.l0 X.h0 (ofL c0) (ofH c0)), fL (zbC X.l1 X.h1 (ofL c1) (ofH c1)), fL (zbB X.l1 X.h1 (ofL c1) (ofH c1)), fL (zbC X.l2 X.h2 (ofL c2) (ofH c2)), fL (zbB X.l2 X.h2 (ofL c2) (ofH c2))] = some G1 := p1
    have p3' : gst G1 ⟨bs, i * 1⟩ [.bool (X.s == 1)] = some G2 := p3
    unfold zQ
    rw [l0, Option.bind_some, l1, Option.bind_some, l2, Option.bind_some, l3, Option.bind_some, l4, Option.bind_some, l5, Option.bind_some, l6, Option.bind_some, l7, Option.bind_some, l8, Option.bind_some, hO, zfY]
    rw [show ((5 : Int) == 1) = false from rfl, cond_false, show ((5 : Int) == 5) = true from rfl, cond_true]
    rw [zkJ bc m ⟨ha.1, by omega⟩ 6, Option.bind_some, if_pos (zp3 hbc), d0, Option.bind_some, d1, Option.bind_some, d2, Option.bind_some, d3, Option.bind_some, d4, Option.bind_some, d5, Option.bind_some]
    rw [if_pos (zqh (Nat.le_refl _)), zIC (by omega) w0 w1 w2, zdD, if_pos (zqe _), if_pos (zqh (Nat.le_refl _))]
    rw [zIG hF (by omega) xo.a0.1 xo.b0.1 xo.a1.1 xo.b1.1 xo.a2.1 xo.b2.1 (zaj w0).1 (zak w0).1 (zaj w1).1 (zak w1).1 (zaj w2).1 (zak w2).1, zdD, if_pos (zqe _)]
    rw [zkJ bs m ⟨ha.1, by omega⟩ 1, Option.bind_some, if_pos (zp3 hbs), ds, Option.bind_some, ii, Option.bind_some, p1', Option.bind_some, ij, Option.bind_some, p3', Option.bind_some]
end
end Go.LI.Film
namespace Go.LI.Film
open Go.Proofs.YtbjcipikclbecaaGreat Go Go.Proofs Go.LI Go.LI.Fl
theorem zqg {nd : List Bool} {o j : Nat} (h : nd.getD j false = true) : (nd.set o true).getD j false = true := by
  by_cases hoj : o = j
  · subst hoj
    by_cases hl : o < nd.length
    · exact z6 hl
    · rw [List.set_eq_of_length_le (by omega)]; exact h
  · rw [getD_set_ne hoj]; exact h
theorem zze {t : Tx} {i j : Nat} {nd : List Bool} (h : nd.getD j false = true) : (zgn t i nd).getD j false = true := by
  unfold zgn
  cases nd.getD i false with
  | false => exact h
  | true =>
    rw [cond_true]
    cases t.k == 2 || t.k == 3 with
    | true => exact zqg (zqg h)
    | false =>
      rw [cond_false]
      cases t.k == 5 with
      | true => exact zqg h
      | false => exact h
theorem zjk (ts : List Tx) {j : Nat} : ∀ (i : Nat) {nd : List Bool}, nd.getD j false = true → (zpv ts i nd).getD j false = true
  | 0, nd, h => h
  | i + 1, nd, h => by rw [zpv]; exact zjk ts i (zze h)
def zHA (t : Tx) (nd : List Bool) : Prop := (t.k = 2 ∨ t.k = 3 → nd.getD t.a.toNat false = true ∧ nd.getD t.b.toNat false = true) ∧ (t.k = 5 → nd.getD t.a.toNat false = true)
def zuL (ts : List Tx) (n : Nat) : Prop := ∀ i, i < n → ChkOk (ts.getD i Tx.nil) (i : Int) (0 : Int) ∨ ∃ p : Int, ChkOk (ts.getD i Tx.nil) (i : Int) p
theorem zuL.two {ts : List Tx} {n i : Nat} (h : zuL ts n) (hi : i < n) (hk : (ts.getD i Tx.nil).k = 2 ∨ (ts.getD i Tx.nil).k = 3) : (0 ≤ (ts.getD i Tx.nil).a ∧ (ts.getD i Tx.nil).a < (i : Int)) ∧ (0 ≤ (ts.getD i Tx.nil).b ∧ (ts.getD i Tx.nil).b < (i : Int)) := by
  rcases h i hi with h | ⟨p, h⟩ <;> exact h.two hk
theorem zuL.sc {ts : List Tx} {n i : Nat} (h : zuL ts n) (hi : i < n) (hk : (ts.getD i Tx.nil).k = 5) : 0 ≤ (ts.getD i Tx.nil).a ∧ (ts.getD i Tx.nil).a < (i : Int) := by
  rcases h i hi with h | ⟨p, h⟩ <;> exact h.sc hk
theorem zwI {ts : List Tx} {n i : Nat} (h : zuL ts n) (hi : i < n) {nd : List Bool} {j : Nat} (hj : i ≤ j) : (zgn (ts.getD i Tx.nil) i nd).getD j false = nd.getD j false := by
  unfold zgn
  cases nd.getD i false with
  | false => rfl
  | true =>
    rw [cond_true]
    cases h2 : (ts.getD i Tx.nil).k == 2 || (ts.getD i Tx.nil).k == 3 with
    | true =>
      have := h.two hi (by simpa using h2)
      rw [cond_true, getD_set_ne (by omega), getD_set_ne (by omega)]
    | false =>
      rw [cond_false]
      cases h5 : (ts.getD i Tx.nil).k == 5 with
      | true =>
        have := h.sc hi (by simpa using h5)
        rw [cond_true, getD_set_ne (by omega)]
      | false => rfl
theorem zAe {ts : List Tx} {n : Nat} (h : zuL ts n) {j : Nat} : ∀ (i : Nat) {nd : List Bool}, i ≤ n → i ≤ j + 1 → (zpv ts i nd).getD j false = true → i ≤ j → nd.getD j false = true
  | 0, nd, _, _, hr, _ => hr
  | i + 1, nd, hi, hj, hr, hij => by
    rw [zpv] at hr
    have := zAe h i (by omega) (by omega) hr (by omega)
    rwa [zwI h (by omega) (by omega)] at this
theorem zxZ {ts : List Tx} {n : Nat} (h : zuL ts n) : ∀ (i : Nat) {nd : List Bool}, i ≤ n → n ≤ nd.length → ∀ j, j < i → (zpv ts i nd).getD j false = true → zHA (ts.getD j Tx.nil) (zpv ts i nd)
  | 0, nd, _, _, j, hj, _ => by omega
  | i + 1, nd, hi, hl, j, hj, hr => by
    rw [zpv] at hr ⊢
    by_cases hji : j = i
    · subst hji
      have h1 := zAe h j (by omega) (by omega) hr (Nat.le_refl _)
      rw [zwI h (by omega) (Nat.le_refl _)] at h1
      refine ⟨fun hk => ?_, fun hk => ?_⟩
      · have hh := h.two (by omega) hk
        have e : zgn (ts.getD j Tx.nil) j nd = (nd.set (ts.getD j Tx.nil).b.toNat true).set (ts.getD j Tx.nil).a.toNat true := by
          unfold zgn
          rw [h1, cond_true, show ((ts.getD j Tx.nil).k == 2 || (ts.getD j Tx.nil).k == 3) = true by simpa using hk, cond_true]
        rw [e]
        exact ⟨zjk ts j (z6 (by rw [List.length_set]; omega)), zjk ts j (zqg (z6 (by omega)))⟩
      · have hh := h.sc (by omega) hk
        have e : zgn (ts.getD j Tx.nil) j nd = nd.set (ts.getD j Tx.nil).a.toNat true := by
          unfold zgn
          rw [h1, cond_true, hk]
          rfl
        rw [e]
        exact zjk ts j (z6 (by omega))
    · exact zxZ h i (by omega) (by rw [zkz]; exact hl) j (by omega) hr
theorem zC2 {ps : List Pi} {u0 u1 v0 v1 : Nat} {t : Tx} {x y x' y' : Vl} (h2 : t.k = 2 ∨ t.k = 3 → x' = x ∧ y' = y) (h5 : t.k = 5 → x' = x) : zmm ps u0 u1 v0 v1 t x' y' = zmm ps u0 u1 v0 v1 t x y := by
  by_cases k2 : t.k = 2 ∨ t.k = 3
  · obtain ⟨e1, e2⟩ := h2 k2
    rw [e1, e2]
  · by_cases k5 : t.k = 5
    · have e1 := h5 k5
      have q2 : (t.k == 2) = false := by rw [k5]; rfl
      have q3 : (t.k == 3) = false := by rw [k5]; rfl
      rw [e1]
      unfold zmm
      simp only [q2, q3, cond_false]
    · have q2 : (t.k == 2) = false := by rw [beq_eq_false_iff_ne]; exact fun h => k2 (.inl h)
      have q3 : (t.k == 3) = false := by rw [beq_eq_false_iff_ne]; exact fun h => k2 (.inr h)
      have q5 : (t.k == 5) = false := by rw [beq_eq_false_iff_ne]; exact k5
      unfold zmm
      simp only [q2, q3, q5, cond_false]
theorem zvK {ps : List Pi} {u0 u1 v0 v1 : Nat} {ts : List Tx} {n : Nat} {nd ndT : List Bool} (hl : ∀ j, j < n → nd.getD j false = true → zHA (ts.getD j Tx.nil) nd) (hT : ∀ j, j < n → ndT.getD j false = true) :
    ∀ (r i : Nat) (vs ws : List Vl), i + r = n → vs.length = n → ws.length = n → (∀ j, nd.getD j false = true → vs.getD j Vl.nil = ws.getD j Vl.nil) →
      ∀ j, nd.getD j false = true → (zkO (zmm ps u0 u1 v0 v1) ts nd r i vs).getD j Vl.nil = (zkO (zmm ps u0 u1 v0 v1) ts ndT r i ws).getD j Vl.nil
  | 0, i, vs, ws, hi, hv, hw, h => h
  | r + 1, i, vs, ws, hi, hv, hw, h => by
    rw [zkO, zkO, hT i (by omega), cond_true]
    cases hn : nd.getD i false with
    | false =>
      rw [cond_false]
      refine zvK hl hT r (i + 1) _ _ (by omega) hv (by rw [List.length_set, hw]) fun j hj => ?_
      have hne : i ≠ j := fun hc => by subst hc; rw [hn] at hj; cases hj
      rw [getD_set_ne hne]
      exact h j hj
    | true =>
      rw [cond_true]
      have hL := hl i (by omega) hn
      refine zvK hl hT r (i + 1) _ _ (by omega) (by rw [List.length_set, hv]) (by rw [List.length_set, hw]) fun j hj => ?_
      by_cases hij : i = j
      · subst hij
        rw [z6 (by omega), z6 (by omega)]
        exact zC2 (fun hk => ⟨h _ (hL.1 hk).1, h _ (hL.1 hk).2⟩) (fun hk => h _ (hL.2 hk))
      · rw [getD_set_ne hij, getD_set_ne hij]
        exact h j hj
def yu (v : Vl) : Prop := v.s = 1 ∨ v.s = 2
theorem zzd (a b : Int) : zto a b = 1 ∨ zto a b = 2 := by
  unfold zto
  cases (a == 1 && b == 1)
  · exact .inr rfl
  · exact .inl rfl
theorem zDy (w h : Int) (px : List Tri) (u0 u1 v0 v1 : Nat) : yu (zl9 w h px u0 u1 v0 v1) := by
  unfold zl9 yu
  cases zhW w h px.length with
  | false => rw [cond_false]; exact .inr rfl
  | true => rw [cond_true]; exact zzd _ _
theorem zGa {ps : List Pi} {u0 u1 v0 v1 : Nat} {t : Tx} {x y : Vl} (h5 : t.k = 5 → yu x) : yu (zmm ps u0 u1 v0 v1 t x y) := by
  unfold zmm
  cases k2 : t.k == 2 with
  | true => rw [cond_true]; exact zzd _ _
  | false =>
    rw [cond_false]
    cases k3 : t.k == 3 with
    | true => rw [cond_true]; exact zzd _ _
    | false =>
      rw [cond_false]
      cases k4 : t.k == 4 with
      | true => rw [cond_true]; exact zDy _ _ _ _ _ _ _
      | false =>
        rw [cond_false]
        cases k5 : t.k == 5 with
        | true => rw [cond_true]; exact h5 (by simpa using k5)
        | false => rw [cond_false]; exact .inl rfl
theorem zE9 {ps : List Pi} {u0 u1 v0 v1 : Nat} {ts : List Tx} {n : Nat} {ndT : List Bool} (hA : zuL ts n) (hT : ∀ j, j < n → ndT.getD j false = true) :
    ∀ (r i : Nat) (ws : List Vl), i + r = n → ws.length = n → (∀ j, j < i → yu (ws.getD j Vl.nil)) → ∀ j, j < n → yu ((zkO (zmm ps u0 u1 v0 v1) ts ndT r i ws).getD j Vl.nil)
  | 0, i, ws, hi, hw, h, j, hj => h j (by omega)
  | r + 1, i, ws, hi, hw, h, j, hj => by
    rw [zkO, hT i (by omega), cond_true]
    refine zE9 hA hT r (i + 1) _ (by omega) (by rw [List.length_set, hw]) (fun j hj => ?_) j hj
    by_cases hij : i = j
    · subst hij
      rw [z6 (by omega)]
      refine zGa fun hk => ?_
      have := hA.sc (by omega) hk
      exact h _ (by omega)
    · rw [getD_set_ne hij]
      exact h j (by omega)
section
variable {R : Type}
theorem zFE {F n : Nat} (hF : 1100 ≤ F) (hn : 9 ≤ n) {ps : List Pi} {ts : List Tx} {u0 u1 v0 v1 : Nat} {a pa : Option GA} {nn pn m bc bs : Nat} {nd : List Bool} {G0 : GH} (hT : RP tcs G0 a nn ts) (hP : PR G0 pa pn ps) (hw : TsW ts) (hpo : ∀ p ∈ ps, Pi.w' p) (hmn : m ≤ nn) (hck : ∀ (j : Nat) (t : Tx), j < m → ts[j]? = some t → chk t (j : Int) (ps.length : Int) = 0)
    (hm : m < 2 ^ 60) (hu0 : num u0) (hu1 : num u1) (hv0 : num v0) (hv1 : num v1) (hbc : G0.length ≤ bc) (hbs : G0.length ≤ bs) (hnd : ∀ j, j < m → nd.getD j false = true) :
    ∀ (r i : Nat) (G : GH) (vs : List Vl), i + r = m → (∀ v ∈ vs, v.ok) → z9 G0.length G0 G → RS G bc bs m vs →
    ∃ G', z9 G0.length G0 G' ∧ RS G' bc bs m (zkO (zmm ps u0 u1 v0 v1) ts nd r i vs) ∧ ∀ K0 (j : Nat), r < j →
      zam (R := R) (runC Tryz.prog lo0 F n) F K0 j a nn pa pn ((m : Int) - 1) (some ⟨bc, 0⟩) m (some ⟨bs, 0⟩) m (i : Int) u0 u1 v0 v1 0 0 0 0 0 0 G = K0 ((m : Int) - 1) (some ⟨bc, 0⟩) m (some ⟨bs, 0⟩) m u0 u1 v0 v1 0 0 0 0 0 0 G' := by
  intro r
  induction r with
  | zero =>
    intro i G vs hi hok kG hS
    refine ⟨G, kG, hS, fun K0 j hj => ?_⟩
    obtain ⟨j, rfl⟩ : ∃ j', j = j' + 1 := ⟨j - 1, by omega⟩
    simp only [zam, zfD]
    rw [decide_eq_false (by omega), cond_false]
  | succ r ih =>
    intro i G vs hi hok kG hS
    have hl : i < ts.length := by have := hT.1; omega
    have hg := List.getElem?_eq_getElem hl
    have hgd : ts.getD i Tx.nil = ts[i] := by rw [List.getD_eq_getElem?_getD, hg]; rfl
    have w1 : IntKind.wrap .i64 ((i : Int) + 1) = ((i + 1 : Nat) : Int) := zF (by omega) (by omega)
    obtain ⟨G1, g1, g2, g3, g4⟩ := zHp (R := R) hF hn (s2 := (m : Int) - 1) (hT.ofK kG) (hP.keep kG (Nat.le_refl _)) hg (hw _ (List.getElem_mem hl)) (hck i _ (by omega) hg) hS (by omega) hm hok hpo hu0 hu1 hv0 hv1
    have hnew : ∀ v ∈ vs.set i (zmm ps u0 u1 v0 v1 ts[i] (vs.getD ts[i].a.toNat Vl.nil) (vs.getD ts[i].b.toNat Vl.nil)), v.ok := by
      intro v hv
      rcases List.mem_or_eq_of_mem_set hv with h1 | h1
      · exact hok v h1
      · subst h1
        exact zDm hpo (hw _ (List.getElem_mem hl)) (znh hok _) (znh hok _)
    have k1 : z9 G0.length G0 G1 := ⟨by have := kG.1; omega, fun b hb' => by rw [g2 b (by omega) (by omega) (by have := kG.1; omega), kG.2 b hb']⟩
    obtain ⟨G', q1, q2, q3⟩ := ih (i + 1) G1 _ (by omega) hnew k1 g1
    refine ⟨G', q1, ?_, fun K0 j hj => ?_⟩
    · rw [zkO, hnd i (by omega), cond_true, hgd]; exact q2
    · obtain ⟨j, rfl⟩ : ∃ j', j = j' + 1 := ⟨j - 1, by omega⟩
      obtain ⟨F', rfl⟩ : ∃ F', F = F' + 1 := ⟨F - 1, by omega⟩
      rw [← q3 K0 j (by omega)]
      rw [zam]
      unfold zfD
      rw [decide_eq_true (by omega), cond_true]
      unfold zik
      rw [zaV]
      unfold zdd
      rw [g4]
      unfold zhN
      rw [w1]
theorem zDz {O : Ora R} (hC : zI7 O) {a : Option GA} {n : Nat} {ts : List Tx} {m : Nat} (hw : ∀ t ∈ ts, t.w) (hn : n < 2 ^ 60) (G : GH) (hT : RP tcs G a n ts) : ∀ (r i : Nat), i + r = n → ∀ (kk : IV → GH → Option R) (j : Nat), r < j →
    zaq O (zef O kk) (zgb O kk) j a n (m : Int) (i : Int) G = kk (.tuple [iL (zov (m : Int) (ts.drop i) i).1, iL (zov (m : Int) (ts.drop i) i).2]) G := by
  intro r
  have hlen := hT.1
  induction r with
  | zero =>
    intro i hi kk j hj
    obtain ⟨j, rfl⟩ : ∃ j', j = j' + 1 := ⟨j - 1, by omega⟩
    rw [List.drop_eq_nil_of_le (by omega)]
    simp only [zaq, zeb]
    rw [decide_eq_false (by omega), cond_false]
    rfl
  | succ r ih =>
    intro i hi kk j hj
    obtain ⟨j, rfl⟩ : ∃ j', j = j' + 1 := ⟨j - 1, by omega⟩
    have hi' : i < ts.length := by omega
    have hg := List.getElem?_eq_getElem hi'
    obtain ⟨p, l0, l1, l2, l3, l4, l5, l6, l7, l8⟩ := zvd hT hg
    have hc := hC ts[i] (i : Int) (m : Int) (hw _ (List.getElem_mem hi')) G
    unfold tcs at hc
    rw [zyh hg]
    simp only [zaq, zeb]
    rw [decide_eq_true (by omega), cond_true, l0, Option.bind_some, l1, Option.bind_some, l2, Option.bind_some, l3, Option.bind_some, l4, Option.bind_some, l5, Option.bind_some, l6, Option.bind_some, l7, Option.bind_some, l8, Option.bind_some, hc, ivI, zF (by omega) (by omega), show (i : Int) + 1 = ((i + 1 : Nat) : Int) by omega]
    cases hch : (chk ts[i] i m != 0) with
    | true => rfl
    | false =>
      rw [cond_false, cond_false]
      exact ih (i + 1) (by omega) kk j (by omega)
theorem zJO {F n : Nat} (hF : 1100 ≤ F) (hn : 5 ≤ n) {a : Option GA} {c m : Nat} {ts : List Tx} {G : GH} (hT : RP tcs G a c ts) (hw : TsW ts) (hc : c ≤ 200) (k : IV → GH → Option R) : runC Tryz.prog lo0 F n zh8 [.slice a c, iL (m : Int)] G k = k (.tuple [iL (zov (m : Int) ts 0).1, iL (zov (m : Int) ts 0).2]) G := by
  obtain ⟨n, rfl⟩ : ∃ j, n = j + 1 := ⟨n - 1, by omega⟩
  rw [show zh8 = 19 from rfl, zws, zwo, zkF, zd1]
  have := zDz (zJ4 (R := R) (F := F) (n := n) (by omega) (by omega)) (m := m) hw (by omega) G hT c 0 (by omega) k F (by omega)
  rw [List.drop_zero] at this
  exact this
end
end Go.LI.Film
namespace Go.LI.Film
open Go.Proofs.YtbjcipikclbecaaGreat Go Go.Proofs Go.LI Go.LI.Fl
theorem zz1 {α : Type} (x : α) : ∀ n : Nat, (List.replicate n [x]).flatten = List.replicate n x
  | 0 => rfl
  | n + 1 => by rw [List.replicate_succ, List.flatten_cons, zz1 x n, List.replicate_succ]; rfl
theorem zID (n : Nat) : (List.replicate n [IV.float .f64 (0 : Nat), fL (0 : Nat), fL (0 : Nat), fL (0 : Nat), fL (0 : Nat), fL (0 : Nat)]).flatten = ((List.replicate n Vl.nil).map v6).flatten := by rw [List.map_replicate]; rfl
theorem zIn (n : Nat) : (List.replicate n [IV.bool false]).flatten = (List.replicate n Vl.nil).map suB := by rw [List.map_replicate, zz1]; rfl
theorem zv8 {n j : Nat} (h : j < n) : (List.replicate n true).getD j false = true := by
  rw [List.getD_eq_getElem?_getD, List.getElem?_replicate, if_pos h]; rfl
theorem zDW {ts : List Tx} {m : Nat} {p : Int} (hl : m ≤ ts.length) (h : ∀ (j : Nat) (t : Tx), j < m → ts[j]? = some t → chk t (j : Int) p = 0) : zuL ts m := fun i hi => by
  have hg := List.getElem?_eq_getElem (show i < ts.length by omega)
  have hgd : ts.getD i Tx.nil = ts[i]'(by omega) := by rw [List.getD_eq_getElem?_getD, hg]; rfl
  rw [hgd]
  exact .inr ⟨p, zzA (h i _ hi hg)⟩
theorem zDI {ps : List Pi} {u0 u1 v0 v1 : Nat} {ts : List Tx} {m : Nat} (hA : zuL ts (m + 1)) :
    (zkO (zmm ps u0 u1 v0 v1) ts (List.replicate (m + 1) true) (m + 1) 0 (List.replicate (m + 1) Vl.nil)).getD m Vl.nil = zCl (zmm ps u0 u1 v0 v1) ts m ∧ yu (zCl (zmm ps u0 u1 v0 v1) ts m) := by
  have hlen : (List.replicate (m + 1) Vl.nil).length = m + 1 := List.length_replicate
  have h1 := zvK (ps := ps) (u0 := u0) (u1 := u1) (v0 := v0) (v1 := v1) (ts := ts) (n := m + 1) (nd := zFl ts m) (ndT := List.replicate (m + 1) true)
    (fun j hj hr => zxZ hA (m + 1) (Nat.le_refl _) (by rw [List.length_set, List.length_replicate]; omega) j hj hr) (fun j hj => zv8 hj) (m + 1) 0 (List.replicate (m + 1) Vl.nil) (List.replicate (m + 1) Vl.nil) (by omega) hlen hlen (fun j _ => rfl) m
    (zjk ts (m + 1) (z6 (by rw [List.length_replicate]; omega)))
  have h2 := zE9 (ps := ps) (u0 := u0) (u1 := u1) (v0 := v0) (v1 := v1) hA (fun j hj => zv8 hj) (m + 1) 0 (List.replicate (m + 1) Vl.nil) (by omega) hlen (fun j hj => by omega) m (by omega)
  unfold zCl
  rw [h1]
  exact ⟨rfl, h2⟩
section
variable {R : Type}
theorem mEv {F n : Nat} (hF : 1100 ≤ F) (hn : 10 ≤ n) {ts : List Tx} {ps : List Pi} {u0 u1 v0 v1 : Nat} (at' : Int) (ht : TsW ts) (hpo : ∀ p ∈ ps, Pi.w' p) (hu0 : num u0) (hu1 : num u1) (hv0 : num v0) (hv1 : num v1) (hlen : ts.length ≤ 200) {a pa : Option GA} {nn pn : Nat} {G : GH} (hT : RP tcs G a nn ts) (hP : PR G pa pn ps) (hcut : ztU G a 47 = true) :
    ∃ G', ∀ (k : IV → GH → Option R), runC Tryz.prog lo0 F n zdU [.slice a nn, .slice pa pn, iL at', S2 u0 u1, S2 v0 v1] G k =
      k (.tuple [S6 (evV ps u0 u1 v0 v1 ts at').l0 (evV ps u0 u1 v0 v1 ts at').h0 (evV ps u0 u1 v0 v1 ts at').l1 (evV ps u0 u1 v0 v1 ts at').h1 (evV ps u0 u1 v0 v1 ts at').l2 (evV ps u0 u1 v0 v1 ts at').h2, iL (evV ps u0 u1 v0 v1 ts at').s, iL (evE ts ps.length at')]) G' := by
  obtain ⟨n, rfl⟩ : ∃ j, n = j + 1 := ⟨n - 1, by omega⟩
  have hn1 := hT.1
  have hpl := hP.len
  have ent : ∀ (k : IV → GH → Option R), runC (R := R) Tryz.prog lo0 F (n + 1) zdU [.slice a nn, .slice pa pn, iL at', S2 u0 u1, S2 v0 v1] G k =
      zer (runC Tryz.prog lo0 F n) k (zbP (runC Tryz.prog lo0 F n) F k) a nn pa pn at' (decide (at' < 0) || decide (at' ≥ (nn : Int))) u0 u1 v0 v1 0 0 0 0 0 0 G := by
    intro k
    rw [show zdU = 9 from rfl, zwQ, zw3]
    simp only [zl7, zib, zaN (show 1 ≤ F by omega), zdk, zio]
    cases decide (at' < 0) with
    | true => rw [cond_true, Bool.true_or]
    | false => rw [cond_false, Bool.false_or]
  unfold evV evE
  rw [hn1]
  cases hout : (decide (at' < 0) || decide (at' ≥ (nn : Int))) with
  | true =>
    refine ⟨G, fun k => ?_⟩
    rw [ent, hout]
    rfl
  | false =>
    rw [cond_false]
    simp only [Bool.or_eq_false_iff, decide_eq_false_iff_not] at hout
    obtain ⟨m, rfl⟩ : ∃ m : Nat, at' = (m : Int) := ⟨at'.toNat, by omega⟩
    have hm : m + 1 ≤ nn := by omega
    have w1 : IntKind.wrap .i64 ((m : Int) + 1) = ((m + 1 : Nat) : Int) := zF (by omega) (by omega)
    have d2 : (decide (0 ≤ (0 : Int) ∧ (0 : Int) ≤ ((m + 1 : Nat) : Int) ∧ ((m + 1 : Nat) : Int) ≤ (nn : Int)) && ztU G a 47) = true := by
      rw [hcut, Bool.and_true, decide_eq_true_eq]; omega
    have hcu : zFd a (Int.toNat (0 : Int) * 8) = a := by cases a with | none => rfl | some b => simp [zFd, GA.add]
    have h1 := fun (k : IV → GH → Option R) => zJO (R := R) (F := F) (n := n) hF (by omega) (hT.pre hm) (m := pn) (fun t h => ht t (List.mem_of_mem_take h)) (by omega) k
    rw [Int.toNat_natCast, hpl]
    have room : ∀ c : Nat, c ≤ 48 → (decide (0 ≤ ((m + 1 : Nat) : Int) ∧ ((m + 1 : Nat) : Int) ≤ ((m + 1 : Nat) : Int) ∧ ((m + 1 : Nat) : Int) * (c : Int) ≤ (zbo : Int) ∧ ((m + 1 : Nat) : Int) ≤ (zbo : Int)) && true && true) = true := fun c hc => by
      have hmc : (m + 1) * c ≤ 200 * 48 := Nat.mul_le_mul (by omega) hc
      have hmc' : ((m + 1 : Nat) : Int) * (c : Int) ≤ 9600 := by exact_mod_cast hmc
      unfold zbo; rw [Bool.and_true, Bool.and_true, decide_eq_true_eq]; refine ⟨by omega, by omega, by omega, by omega⟩
    have enter : ∀ (k : IV → GH → Option R), runC (R := R) Tryz.prog lo0 F (n + 1) zdU [.slice a nn, .slice pa pn, iL (m : Int), S2 u0 u1, S2 v0 v1] G k =
        bif (zov (pn : Int) (ts.take (m + 1)) 0).2 != 0 then k (.tuple [S6 0 0 0 0 0 0, iL 0, iL (zov (pn : Int) (ts.take (m + 1)) 0).2]) G else
        zbP (runC Tryz.prog lo0 F n) F k a nn pa pn (m : Int) (some ⟨G.length, 0⟩) (m + 1) (some ⟨G.length + 1, 0⟩) (m + 1) 0 u0 u1 v0 v1 0 0 0 0 0 0 (zac (zac G ((List.replicate (m + 1) Vl.nil).map v6).flatten 33) ((List.replicate (m + 1) Vl.nil).map suB) 4) := by
      intro k
      rw [ent, decide_eq_false (show ¬ (m : Int) < 0 by omega), decide_eq_false (show ¬ (m : Int) ≥ (nn : Int) by omega), Bool.or_self]
      unfold zer
      rw [cond_false, w1, d2, cond_true, hcu, Int.toNat_natCast, show m + 1 - Int.toNat (0 : Int) = m + 1 from rfl, h1, zuB]
      have r48 := room 48 (by omega)
      have r1 := room 1 (by omega)
      cases ((zov (pn : Int) (ts.take (m + 1)) 0).2 != 0) with
      | true => rfl
      | false =>
        rw [cond_false, cond_false]
        refine Eq.trans (congrArg (fun b => bif b then _ else none) r48) ?_
        rw [cond_true]
        refine Eq.trans (congrArg (fun b => bif b then _ else none) r1) ?_
        rw [cond_true, zID, zIn]
        simp only [zaA, zp]
    cases he : ((zov (pn : Int) (ts.take (m + 1)) 0).2 == 0) with
    | false =>
      have he' : ((zov (pn : Int) (ts.take (m + 1)) 0).2 != 0) = true := by unfold bne; rw [he]; rfl
      refine ⟨G, fun k => ?_⟩
      rw [enter, he', cond_true]
      rfl
    | true =>
      have he' : ((zov (pn : Int) (ts.take (m + 1)) 0).2 != 0) = false := by unfold bne; rw [he]; rfl
      have he0 : (zov (pn : Int) (ts.take (m + 1)) 0).2 = 0 := by simpa using he
      have hck : ∀ (j : Nat) (t : Tx), j < m + 1 → ts[j]? = some t → chk t (j : Int) (pn : Int) = 0 := fun j t hj hjt => by
        have := zwx he0 j t (by rw [List.getElem?_take, if_pos hj]; exact hjt)
        rwa [Nat.zero_add] at this
      have hS : RS (zac (zac G ((List.replicate (m + 1) Vl.nil).map v6).flatten 33) ((List.replicate (m + 1) Vl.nil).map suB) 4) G.length (G.length + 1) (m + 1) (List.replicate (m + 1) Vl.nil) := by
        refine ⟨List.length_replicate, ?_, ?_, by omega⟩
        · rw [zet (by rw [zp]; omega)]; exact zhr G _ 33
        · have := zhr (zac G ((List.replicate (m + 1) Vl.nil).map v6).flatten 33) ((List.replicate (m + 1) Vl.nil).map suB) 4
          rw [zp] at this
          exact this
      have K2 : z9 G.length G (zac (zac G ((List.replicate (m + 1) Vl.nil).map v6).flatten 33) ((List.replicate (m + 1) Vl.nil).map suB) 4) := (zaM G _ 33 (Nat.le_refl _)).trans (zaM _ _ 4 (by rw [zp]; omega))
      have hvv : ∀ v ∈ List.replicate (m + 1) Vl.nil, v.ok := fun v hv => by
        rw [List.mem_replicate] at hv
        rw [hv.2]
        exact Vl.ok_nil
      obtain ⟨G4, K4, S4, h4⟩ := zFE (R := R) (F := F) (n := n) hF (by omega) (bc := G.length) (bs := G.length + 1) (nd := List.replicate (m + 1) true) hT hP ht hpo hm (by rw [hpl]; exact hck) (by omega) hu0 hu1 hv0 hv1 (Nat.le_refl _) (by omega) (fun j hj => zv8 hj)
        (m + 1) 0 _ (List.replicate (m + 1) Vl.nil) (by omega) hvv K2 hS
      rw [show ((m + 1 : Nat) : Int) - 1 = (m : Int) by omega] at h4
      obtain ⟨e1, e2⟩ := zDI (ps := ps) (u0 := u0) (u1 := u1) (v0 := v0) (v1 := v1) (zDW (by omega) hck)
      have hlR := S4.len
      refine ⟨G4, fun k => ?_⟩
      rw [enter, he', cond_false]
      unfold zbP
      rw [show (0 : Int) = ((0 : Nat) : Int) from rfl, h4 _ F (by omega)]
      obtain ⟨d0, d1, d2, d3, d4, d5⟩ := zG8 S4.c (x := (m : Int)) ⟨by omega, by omega⟩
      have ds := zHs S4.s (x := (m : Int)) ⟨by omega, by omega⟩
      rw [Int.toNat_natCast] at d0 d1 d2 d3 d4 d5 ds
      rw [e1] at d0 d1 d2 d3 d4 d5 ds
      unfold zhg
      rw [zkJ _ (m + 1) ⟨by omega, by omega⟩ 1, Option.bind_some, Int.toNat_natCast, ds, Option.bind_some, zkJ _ (m + 1) ⟨by omega, by omega⟩ 6, Int.toNat_natCast]
      simp only [Option.bind_some, d0, d1, d2, d3, d4, d5]
      rw [he0]
      generalize zCl (zmm ps u0 u1 v0 v1) ts m = V at e2 ⊢
      simp only [cond_true]
      rcases e2 with e2 | e2
      · rw [e2]; rfl
      · rw [e2]; rfl
end
theorem opn_where_cut {G : GH} {d : Nat} {a : Option GA} {n : Nat} {cs : List IV} (h : Opn Tryz.prog G (d + 6) 28 (.slice a n :: cs)) : ztU G a 47 = true := by
  obtain ⟨hl, h⟩ := zjd Tryz.underlying28 h
  rw [c36] at hl
  have h0 : Opn Tryz.prog G (d + 5) 22 (((IV.slice a n :: cs).drop 0).take (Tryz.prog.cellsOf 22)) := h 0 _ rfl
  rw [c22] at h0
  have h0' : Opn Tryz.prog G (d + 5) 22 [.slice a n] := h0
  rcases zpN Tryz.underlying22 h0' with h1 | ⟨b, n', cells, h1, h2, _⟩
  · injection h1 with h1 _
    subst h1
    rfl
  · injection h1 with h1 _
    subst h1
    simp [ztU, h2]
section
variable {R : Type} {O : Ora R}
theorem zAv {F n : Nat} (hF : 1100 ≤ F) (hn : 15 ≤ n) (hA : SQAw (runC (R := R) Tryz.prog lo0 F n)) (a pa : Option GA) (nn m : Nat) (ts : List Tx) (ps : List Pi) (x : Int) (u0 u1 v0 v1 : Nat) (G : GH)
    (hT : RL tcs G a nn ts) (hw : TsW ts) (hB : nn = 0 → a = none ∨ ∃ b e, a = some ⟨b, 0⟩ ∧ BL G b [] e) (hP : PV G pa m ps) (hp : ∀ p ∈ ps, Pi.w' p) (hu0 : u0 < 2 ^ 64) (hu1 : u1 < 2 ^ 64) (hv0 : v0 < 2 ^ 64) (hv1 : v1 < 2 ^ 64) (hcut : ztU G a 47 = true) :
    ∃ G', ∀ (k : IV → GH → Option R), zf Tryz.prog (runC (R := R) Tryz.prog lo0 F n) lo3 F Tryz.f3 [.agg [.slice a nn, .slice pa m, iL x, fL u0, fL u1, fL v0, fL v1]] G k = k (.bool true) G' := by
  have hL := yLg (R := R) (F := F) (n := n) (by omega) (by omega)
  have hV := zJI (R := R) (F := F) (n := n) (by omega)
  have hCp := vCp (R := R) (F := F) (n := n) (by omega) (by omega)
  have hE := vEv (R := R) (F := F) (n := n) (by omega) (by omega)
  have hS := yS3 (R := R) (F := F) (n := n) (by omega)
  obtain ⟨qs, hQ, hql, hPx⟩ := hP
  have hP : PV G pa m ps := ⟨qs, hQ, hql, hPx⟩
  obtain ⟨r2, q2, g2⟩ := hV u0 u1 hu0 hu1
  obtain ⟨r3, q3, g3⟩ := hV v0 v1 hv0 hv1
  have ent : ∀ (k : IV → GH → Option R), zf Tryz.prog (runC (R := R) Tryz.prog lo0 F n) lo3 F Tryz.f3 [.agg [.slice a nn, .slice pa m, iL x, fL u0, fL u1, fL v0, fL v1]] G k =
      bif zw1 nn m qs || (!r2 || !r3) then k (.bool true) G else zaC (runC (R := R) Tryz.prog lo0 F n) k a nn pa m x u0 u1 v0 v1 G := by
    intro k
    rw [zmI]
    unfold zc1
    rw [hA, ivB, Bool.not_true, cond_false]
    simp only [zbZ, zaN (show 1 ≤ F by omega), zai]
    unfold zbX
    rw [hL a pa nn m qs G hQ, ivB]
    cases zw1 nn m qs with
    | true => rfl
    | false =>
      rw [cond_false, q2, ivB, Bool.false_or]
      cases r2 with
      | false => rfl
      | true =>
        rw [Bool.not_true, cond_false, q3, ivB, Bool.false_or]
        cases r3 with
        | false => rfl
        | true => rfl
  cases hg : (zw1 nn m qs || (!r2 || !r3)) with
  | true => exact ⟨G, fun k => by rw [ent, hg, cond_true]⟩
  | false =>
    simp only [Bool.or_eq_false_iff, Bool.not_eq_false'] at hg
    obtain ⟨hlg, rfl, rfl⟩ := hg
    have dU := g2 rfl
    have dV := g3 rfl
    obtain ⟨b1, b2, b3⟩ := zFG hql hPx hlg
    obtain ⟨G1, h1, k1, l1, o1⟩ := zCF G 47 8 64 nn ((ts.map tcs).flatten) (by unfold zbo; omega)
    obtain ⟨G2, a2, k2, p2, h2⟩ := hCp pa m ps G1 (hP.keep k1 (Nat.le_refl _)) b2 b3
    have o2 : BL G2 (G.length + 1) ((ts.map tcs).flatten) 47 := ⟨1, by decide, by rw [k2.2 _ (by omega)]; exact o1⟩
    have t2 : RP tcs G2 (some ⟨G.length + 1, 0⟩) nn ts := ⟨hT.1, fun _ => ⟨_, 47, [], rfl, by rw [List.append_nil]; exact o2⟩⟩
    obtain ⟨G3, k3, h3⟩ := hE ts ps u0 u1 v0 v1 x hw hp dU.nx dU.ny dV.nx dV.ny (by rw [hT.1]; omega) (some ⟨G.length + 1, 0⟩) a2 nn m G2 t2 p2.pr o2.cut
    have K3 : z9 G.length G G3 := (k1.trans (k2.mono (by omega))).trans (k3.mono (by have := k2.1; omega))
    have cut3 : ztU G3 a 47 = true := by
      cases a with
      | none => rfl
      | some p =>
        unfold ztU at hcut ⊢
        simp only at hcut ⊢
        cases hg : G[p.b]? with
        | none => rw [hg] at hcut; cases hcut
        | some c =>
          rw [hg] at hcut
          rw [K3.2 _ (List.getElem?_eq_some_iff.1 hg).1, hg]
          exact hcut
    obtain ⟨G4, h4⟩ := mEv (R := R) (F := F) (n := n) hF (by omega) x hw hp dU.nx dU.ny dV.nx dV.ny (by rw [hT.1]; omega) ((hT.keep K3 (Nat.le_refl _)).rp) ((hP.keep K3 (Nat.le_refl _)).pr) cut3
    generalize evV ps u0 u1 v0 v1 ts x = V at h3 h4
    generalize evE ts ps.length x = e at h3 h4
    refine ⟨G4, fun k => ?_⟩
    rw [ent, hlg, Bool.not_true, Bool.or_self, Bool.or_self, cond_false]
    unfold zaC
    rw [zEf hT hB, Option.bind_some, h1, Option.bind_some, h2, zHy, Option.bind_some, Nat.zero_add, h3, zII, Option.bind_some]
    simp only [List.getD_cons_zero, List.getD_cons_succ]
    rw [zdD, ivI, ivI, h4, zII, Option.bind_some]
    simp only [List.getD_cons_zero, List.getD_cons_succ]
    rw [zdD, ivI, ivI, hS, ivB, cond_true, beq_self_eq_true, cond_true, beq_self_eq_true]
theorem s3v {F n : Nat} (hF : 1100 ≤ F) (hn : 15 ≤ n) (hA : SQAw (runC (R := R) Tryz.prog lo0 F n)) (cs : List IV) (G : GH) (hO : WhO G cs) (hcut : ∀ a nn rest, cs = .slice a nn :: rest → ztU G a 47 = true) :
    ∃ G', ∀ (k : IV → GH → Option R), runC Tryz.prog lo0 F (n + 1) 3 [.agg cs] G k = k (.bool true) G' := by
  obtain ⟨a, c, ts, pa, m, ps, x, u0, u1, v0, v1, rfl, hT, hw, hB, hP, hp, w0, w1, w2, w3⟩ := hO.at'
  obtain ⟨G', h⟩ := zAv (R := R) hF hn hA a pa c m ts ps x u0 u1 v0 v1 G hT hw hB hP hp w0 w1 w2 w3 (hcut _ _ _ rfl)
  exact ⟨G', fun k => by rw [zmR]; exact h k⟩
end
end Go.LI.Film
