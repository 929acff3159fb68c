/- Several texts of this claim in one. -/
import Derived.Test.YtbjcipikclbecaaGreatTxP
import Derived.Test.YtbjcipikclbecaaGreatTxR
import Derived.Test.YtbjcipikclbecaaGreatTxT
set_option linter.unusedVariables false
set_option maxRecDepth 100000
set_option linter.unusedSimpArgs false
set_option exponentiation.threshold 2500
namespace Go.LI.Fl
open Go Go.LI Ieee
theorem zho (x : Nat) : sv x = sgn (sg dbl x) (mag dbl (rg dbl x)) := rfl
theorem zEh {a b : Nat} (h : mag dbl a = mag dbl b) : a = b := by
  rcases Nat.lt_trichotomy a b with h1 | h1 | h1
  · have := zlV h1; omega
  · exact h1
  · have := zlV h1; omega
theorem zCp {s : Bool} {r : Nat} (h : r < 2 ^ 63) : sv (dbl.word s r) = sgn s (mag dbl r) := by
  have h' : r < dbl.signWeight := by rw [zbp]; exact h
  rw [zho, zyY dbl h', znx dbl h']
theorem zw9 {s : Bool} {r : Nat} (h : r < 2 ^ 63) : dbl.word s r < 2 ^ 64 := by
  have := (zi1 dbl (neg := s) (r := r) (by rw [zbp]; exact h)).2.2
  rw [zbp] at this
  omega
theorem zAr {s : Bool} {r : Nat} (h : r < 2 ^ 63) : rg dbl (dbl.word s r) = r := znx dbl (by rw [zbp]; exact h)
theorem zxc {x : Nat} (h : x < 2 ^ 64) : dbl.word (sg dbl x) (rg dbl x) = x := zlj dbl (by rw [zbp]; omega)
theorem zGU {x y : Nat} (hx : x < 2 ^ 64) (hy : y < 2 ^ 64) (h : sv x = sv y) (h0 : sv y ≠ 0) : x = y := by
  rw [zho, zho] at h
  rw [zho] at h0
  unfold sgn at h h0
  have hm : mag dbl (rg dbl x) = mag dbl (rg dbl y) := by
    split at h <;> split at h <;> omega
  have hs : sg dbl x = sg dbl y := by
    cases h1 : sg dbl x <;> cases h2 : sg dbl y
    · rfl
    · rw [h1, h2] at h; rw [h2] at h0; simp at h h0; omega
    · rw [h1, h2] at h; rw [h2] at h0; simp at h h0; omega
    · rfl
  rw [← zxc hx, ← zxc hy, hs, zEh hm]
def zcm (x : Nat) : Prop := num x ∧ (sv x = 0 → x = 0)
theorem ztt {x y : Nat} (hx : zcm x) (hy : zcm y) (h : sv x = sv y) : x = y := by
  by_cases h0 : sv y = 0
  · rw [hy.2 h0, hx.2 (h.trans h0)]
  · exact zGU hx.1.1 hy.1.1 h h0
theorem zad : zcm 0 := ⟨(zdj (by decide)).1, fun _ => rfl⟩
theorem zjj {s : Bool} {r : Nat} (h0 : r ≠ 0) (h : r ≤ 9218868437227405312) : zcm (dbl.word s r) := by
  refine ⟨⟨zw9 (by omega), by rw [zAr (by omega)]; exact h⟩, fun hc => ?_⟩
  exfalso
  rw [zCp (by omega)] at hc
  have : mag dbl r = 0 := by unfold sgn at hc; split at hc <;> omega
  exact h0 ((zaE dbl).1 this)
def zBH : Nat := 9218868437227405312
def zuA : Nat := 18442240474082181120
theorem zCV : dbl.word true zBH = zuA := by decide +kernel
theorem zf7 : zcm zBH := by
  have h : dbl.word false zBH = zBH := rfl
  rw [← h]
  exact zjj (by decide) (Nat.le_refl _)
theorem zdK : zcm zuA := by rw [← zCV]; exact zjj (by decide) (Nat.le_refl _)
theorem zqT (s : Bool) (r : Nat) (g : Bool) : zcm (zjH s r g) := by
  unfold zjH
  simp only
  by_cases h1 : r < 9218868437227405312
  · rw [if_pos h1]
    by_cases h0 : r = 0
    · rw [if_pos h0]; exact zad
    · rw [if_neg h0]; exact zjj h0 (by omega)
  · rw [if_neg h1]
    cases g with
    | true => rw [if_pos rfl, if_neg (by decide)]; exact zjj (by decide) (Nat.le_refl _)
    | false => rw [if_neg (by simp), if_neg (by decide)]; exact zjj (by decide) (by decide)
def zBF (x y : Nat) : Nat := if sv y < sv x then y else x
def zBe (x y : Nat) : Nat := if sv x < sv y then y else x
theorem zdg {x y : Nat} (hx : zcm x) (hy : zcm y) : zcm (zBF x y) := by unfold zBF; split <;> assumption
theorem zdc {x y : Nat} (hx : zcm x) (hy : zcm y) : zcm (zBe x y) := by unfold zBe; split <;> assumption
theorem zGH (a b : Int) : (a < b → compare a b = .lt) ∧ (a = b → compare a b = .eq) ∧ (b < a → compare a b = .gt) := by
  refine ⟨fun h => ?_, fun h => ?_, fun h => ?_⟩
  · exact Int.compare_eq_lt.2 h
  · exact Int.compare_eq_eq.2 h
  · exact Int.compare_eq_gt.2 h
theorem zmC {x y : Nat} (hx : zcm x) (hy : zcm y) : zDL .f64 x y = some (zBF x y) := by
  unfold zDL zBF
  have ho : (FloatKind.format .f64).order x y = some (compare (sv x) (sv y)) := zoD hx.1 hy.1
  rw [ho]
  rcases Int.lt_trichotomy (sv x) (sv y) with h | h | h
  · rw [(zGH _ _).1 h, if_neg (c := sv y < sv x) (by omega)]
  · rw [(zGH _ _).2.1 h, if_neg (c := sv y < sv x) (by omega), ztt hx hy h]
    simp
  · rw [(zGH _ _).2.2 h, if_pos (c := sv y < sv x) h]
theorem zmp {x y : Nat} (hx : zcm x) (hy : zcm y) : zDJ .f64 x y = some (zBe x y) := by
  unfold zDJ zBe
  have ho : (FloatKind.format .f64).order x y = some (compare (sv x) (sv y)) := zoD hx.1 hy.1
  rw [ho]
  rcases Int.lt_trichotomy (sv x) (sv y) with h | h | h
  · rw [(zGH _ _).1 h, if_pos (c := sv x < sv y) h]
  · rw [(zGH _ _).2.1 h, if_neg (c := sv x < sv y) (by omega), ztt hx hy h]
    simp
  · rw [(zGH _ _).2.2 h, if_neg (c := sv x < sv y) (by omega)]
theorem zBR {x : Nat} (h : num x) : decide (rg dbl x = 9218868437227405312) = !fin x := by
  have := h.2
  unfold fin
  by_cases hc : rg dbl x = 9218868437227405312
  · rw [decide_eq_true hc, decide_eq_false (by omega)]; rfl
  · rw [decide_eq_false hc, decide_eq_true (by omega)]; rfl
end Go.LI.Fl
namespace Go.LI.Film
open Go.Proofs.YtbjcipikclbecaaGreat Go Go.Proofs Go.LI Go.LI.Fl
theorem ztw {x : Nat} (h : num x) : zcm (zw x) := by
  refine ⟨zwF h, fun h0 => ?_⟩
  unfold zw at h0 ⊢
  split
  · rfl
  · rename_i hr
    rw [if_neg hr] at h0
    exfalso
    have := h.2
    have hm : mag dbl (rg dbl x) = 0 := by unfold sv at h0; split at h0 <;> omega
    exact hr ((zaE dbl).1 hm)
theorem zs (a b : Nat) (d : Bool) : zcm (zqm a b d) := by
  unfold zqm
  split
  · exact zqT _ _ _
  · exact zad
def ofL (x : Nat) : Nat := bif fin x then zw x else zuA
def ofH (x : Nat) : Nat := bif fin x then zw x else zBH
def ngW (x : Nat) : Nat := ((FloatKind.format .f64).sub 0 x).getD 0
def zwU (a b : Nat) : Bool := feq .f64 a 0 && feq .f64 b 0
def zjo (a b : Nat) : Bool := !(fin a && fin b)
def zJH (a b c d : Nat) : Nat := zBF (zBF (zBF (zBF zBH (zqm a c true)) (zqm a d true)) (zqm b c true)) (zqm b d true)
def zJE (a b c d : Nat) : Nat := zBe (zBe (zBe (zBe zuA (zqm a c false)) (zqm a d false)) (zqm b c false)) (zqm b d false)
def zbC (a b c d : Nat) : Nat := bif zwU a b || zwU c d then 0 else bif zjo a b || zjo c d then zuA else zJH a b c d
def zbB (a b c d : Nat) : Nat := bif zwU a b || zwU c d then 0 else bif zjo a b || zjo c d then zBH else zJE a b c d
def zC3 (a b c d : Nat) : Nat := zuW a (ngW d)
def zCC (a b c d : Nat) : Nat := zhS b (ngW c)
def flW (x : Nat) : Nat := match FloatKind.f64.decode x with | .nan _ _ => 0 | d => zw (FloatKind.f64.encode (d.integral .down))
def flB (x y : Nat) : Bool := (fin x && fin y) && (feq .f64 (flW x) (flW y) && (!flt .f64 (flW x) 14069245235905429504 && !fgt .f64 (flW x) 4845873199050653696))
def flN (x y : Nat) : Int := bif flB x y then (f2i .f64 (flW x) .i64).getD 0 else 0
def flA (x y : Nat) : Int := bif flB x y then 1 else 2
def zto (a b : Int) : Int := bif a == 1 && b == 1 then 1 else 2
theorem zaj {x : Nat} (h : x < 2 ^ 64) : zcm (ofL x) := by
  unfold ofL
  cases hf : fin x with
  | true => exact ztw (zeD h hf)
  | false => exact zdK
theorem zak {x : Nat} (h : x < 2 ^ 64) : zcm (ofH x) := by
  unfold ofH
  cases hf : fin x with
  | true => exact ztw (zeD h hf)
  | false => exact zf7
theorem zz (a b c d : Nat) : zcm (zbC a b c d) := by
  unfold zbC
  cases zwU a b || zwU c d with
  | true => exact zad
  | false => cases zjo a b || zjo c d with
    | true => exact zdK
    | false => exact zdg (zdg (zdg (zdg zf7 (zs _ _ _)) (zs _ _ _)) (zs _ _ _)) (zs _ _ _)
theorem zy (a b c d : Nat) : zcm (zbB a b c d) := by
  unfold zbB
  cases zwU a b || zwU c d with
  | true => exact zad
  | false => cases zjo a b || zjo c d with
    | true => exact zf7
    | false => exact zdc (zdc (zdc (zdc zdK (zs _ _ _)) (zs _ _ _)) (zs _ _ _)) (zs _ _ _)
theorem zjc (a b : Nat) : zcm (zuW a b) := by
  unfold zuW
  split
  · exact zqT _ _ _
  · exact zdK
theorem zhd (a b : Nat) : zcm (zhS a b) := by
  unfold zhS
  split
  · exact zqT _ _ _
  · exact zf7
theorem zJY {x : Nat} (hx : num x) : ∃ y, (FloatKind.format .f64).sub 0 x = some y ∧ num y := by
  show ∃ y, dbl.sub 0 x = some y ∧ num y
  have hz : dbl.read 0 = .number false 0 (-1074) := by decide +kernel
  rcases Nat.lt_or_ge (rg dbl x) 9218868437227405312 with h | h
  · obtain ⟨i, m, h1, h2⟩ := zcG h
    unfold Ieee.Format.sub
    rw [h1, hz]
    simp only [Ieee.Datum.opposite, Ieee.Datum.sum, Option.map_some, Ieee.Format.write]
    split
    · exact ⟨_, rfl, zdE _ _ _⟩
    · exact ⟨_, rfl, zdE _ _ _⟩
  · unfold Ieee.Format.sub
    have hr : rg dbl x = 9218868437227405312 := by have := hx.2; omega
    rw [zeZ hx.1 hr, hz]
    simp only [Ieee.Datum.opposite, Ieee.Datum.sum, Option.map_some, Ieee.Format.write]
    refine ⟨_, rfl, zmy ?_⟩
    rw [zek]
    exact Nat.le_refl _
theorem zmk {x : Nat} (hx : num x) : (FloatKind.format .f64).sub 0 x = some (ngW x) ∧ num (ngW x) := by
  obtain ⟨y, h1, h2⟩ := zJY hx
  unfold ngW
  rw [h1]
  exact ⟨rfl, h2⟩
theorem zCD {x : Nat} (hf : fin x = true) : num (flW x) := by
  obtain ⟨i, m, h1, h2⟩ := zcG (x := x) (of_decide_eq_true hf)
  have hd : FloatKind.f64.decode x = .number (sg dbl x) m (-1074 + (i : Int)) := h1
  unfold flW
  rw [hd]
  exact zwF (zdE _ _ _)
section
variable {R : Type}
abbrev VOf (O : Ora R) : Prop := ∀ (x : Nat), x < 2 ^ 64 → ∀ (G : GH) (k : IV → GH → Option R), O zdJ [fL x] G k = k (S2 (ofL x) (ofH x)) G
abbrev zIx (O : Ora R) : Prop := ∀ (x y : Nat), num x → num y → ∀ (G : GH) (k : IV → GH → Option R), O zmc [S2 x y] G k = k (.bool (zjo x y)) G
abbrev zJJ (O : Ora R) : Prop := ∀ (a b c d : Nat), num a → num b → num c → num d → ∀ (G : GH) (k : IV → GH → Option R), O zbg [S2 a b, S2 c d] G k = k (S2 (zbC a b c d) (zbB a b c d)) G
abbrev zJv (O : Ora R) : Prop := ∀ (a b c d : Nat), num a → num b → num c → num d → ∀ (G : GH) (k : IV → GH → Option R), O ztC [S2 a b, S2 c d] G k = k (S2 (zC3 a b c d) (zCC a b c d)) G
abbrev zHo (O : Ora R) : Prop := ∀ (x y : Nat), x < 2 ^ 64 → y < 2 ^ 64 → ∀ (G : GH) (k : IV → GH → Option R), O zdS [S2 x y] G k = k (.tuple [iL (flN x y), iL (flA x y)]) G
theorem vOf {F n : Nat} (hF : 1 ≤ F) (hn : 5 ≤ n) : VOf (runC (R := R) Tryz.prog lo0 F n) := by
  obtain ⟨n, rfl⟩ : ∃ j, n = j + 1 := ⟨n - 1, by omega⟩
  have hN := zt5 (R := R) (F := F) (n := n) hF (by omega)
  have hA := zI1 (R := R) (F := F) (n := n) hF (by omega)
  intro x hx G k
  unfold ofL ofH
  rw [zB6, zCN, hN x hx, ivB]
  cases hf : fin x with
  | true =>
    have ha : (FloatKind.format .f64).add x 0 = some (zw x) := zxG hx (zeD hx hf).2
    rw [Bool.not_true, cond_false, ha, Option.bind_some, Option.bind_some]
    rfl
  | false =>
    rw [Bool.not_false, cond_true, hA, zfY]
    rfl
theorem zHT {F n : Nat} (hF : 1 ≤ F) (hn : 4 ≤ n) : zIx (runC (R := R) Tryz.prog lo0 F n) := by
  obtain ⟨n, rfl⟩ : ∃ j, n = j + 1 := ⟨n - 1, by omega⟩
  have hI := zzH (R := R) (F := F) (n := n) hF (by omega)
  intro x y hx hy G k
  unfold zjo
  rw [zyD, zyQ, hI x hx.1, ivB, zBR hx]
  cases hf : fin x with
  | true =>
    rw [Bool.not_true, cond_false, hI y hy.1, ivB, zBR hy]
    rfl
  | false => rfl
theorem zH4 {F n : Nat} (hn : 10 ≤ n) : zJJ (runC (R := R) Tryz.prog lo0 (F + 4) n) := by
  obtain ⟨n, rfl⟩ : ∃ j, n = j + 1 := ⟨n - 1, by omega⟩
  have hW := zHT (R := R) (F := F + 4) (n := n) (by omega) (by omega)
  have hAl := zI1 (R := R) (F := F + 4) (n := n) (by omega) (by omega)
  have hI := zHx (R := R) (F := F + 3) (n := n) (by omega)
  have hD := zJu (R := R) (F := F + 4) (n := n) (by omega) (by omega)
  intro a b c d ha hb hc hd G k
  have l1 := zdg zf7 (zs a c true)
  have l2 := zdg l1 (zs a d true)
  have l3 := zdg l2 (zs b c true)
  have h1 := zdc zdK (zs a c false)
  have h2 := zdc h1 (zs a d false)
  have h3 := zdc h2 (zs b c false)
  rw [zBj, zA6]
  unfold zbC zbB zwU
  rw [Bool.and_true, Bool.and_true]
  cases (feq .f64 a 0 && feq .f64 b 0) with
  | true => rw [cond_true, Bool.true_or, cond_true, cond_true]
  | false =>
    rw [cond_false, Bool.false_or]
    cases (feq .f64 c 0 && feq .f64 d 0) with
    | true => rw [cond_true, cond_true, cond_true]
    | false =>
      rw [cond_false, cond_false, cond_false, hW a b ha hb, ivB]
      cases zjo a b with
      | true => rw [cond_true, hAl, zfY]; rfl
      | false =>
        rw [cond_false, hW c d hc hd, ivB]
        cases zjo c d with
        | true => rw [cond_true, hAl, zfY]; rfl
        | false =>
          rw [cond_false, (hI G _).1, ivF, (hI G _).2, ivF, Bool.or_false, cond_false, cond_false]
          rw [hD a c true ha.1 hc.1, zkS, hD a c false ha.1 hc.1, zkS, show zDL .f64 9218868437227405312 (zqm a c true) = some (zBF zBH (zqm a c true)) from zmC zf7 (zs _ _ _), Option.bind_some, show zDJ .f64 18442240474082181120 (zqm a c false) = some (zBe zuA (zqm a c false)) from zmp zdK (zs _ _ _), Option.bind_some]
          rw [hD a d true ha.1 hd.1, zkS, hD a d false ha.1 hd.1, zkS, zmC l1 (zs _ _ _), Option.bind_some, zmp h1 (zs _ _ _), Option.bind_some]
          rw [hD b c true hb.1 hc.1, zkS, hD b c false hb.1 hc.1, zkS, zmC l2 (zs _ _ _), Option.bind_some, zmp h2 (zs _ _ _), Option.bind_some]
          rw [hD b d true hb.1 hd.1, zkS, hD b d false hb.1 hd.1, zkS, zmC l3 (zs _ _ _), Option.bind_some, zmp h3 (zs _ _ _), Option.bind_some]
          rfl
theorem zJj {F n : Nat} (hF : 1 ≤ F) (hn : 11 ≤ n) : zJv (runC (R := R) Tryz.prog lo0 F n) := by
  obtain ⟨n, rfl⟩ : ∃ j, n = j + 11 := ⟨n - 11, by omega⟩
  have hA := zIY (R := R) (F := F) (n := n + 10) hF (by omega)
  intro a b c d ha hb hc hd G k
  have hN : ∀ (G : GH) (k : IV → GH → Option R), runC Tryz.prog lo0 F (n + 10) ztZ [S2 c d] G k = k (S2 (ngW d) (ngW c)) G := fun G k => by
    rw [zBb, zBq, (zmk hd).1, Option.bind_some, (zmk hc).1, Option.bind_some]
  rw [zBi, zAZ, hN, zfY, hA a b _ _ ha.1 hb.1 (zmk hd).2.1 (zmk hc).2.1, zfY]
  rfl
theorem zFh {F n : Nat} (hF : 1 ≤ F) (hn : 6 ≤ n) : zHo (runC (R := R) Tryz.prog lo0 F n) := by
  obtain ⟨n, rfl⟩ : ∃ j, n = j + 4 := ⟨n - 4, by omega⟩
  have hN := zt5 (R := R) (F := F) (n := n + 2) hF (by omega)
  have hP := zET (R := R) (F := F) (n := n + 2) (by omega)
  have hR : ∀ (x : Nat), x < 2 ^ 64 → ∀ (G : GH) (k : IV → GH → Option R), runC Tryz.prog lo0 F (n + 3) zir [fL x] G k = k (.tuple [fL (bif fin x then flW x else 0), iL (bif fin x then 0 else 10)]) G := by
    intro x hx G k
    rw [zvL, zvT, hN x hx, ivB]
    cases hf : fin x with
    | false => rfl
    | true =>
      obtain ⟨i, m, h1, h2⟩ := zcG (x := x) (of_decide_eq_true hf)
      have hd : FloatKind.f64.decode x = .number (sg dbl x) m (-1074 + (i : Int)) := h1
      have hfl : ∀ (G : GH) (k : IV → GH → Option R), runC Tryz.prog lo0 F (n + 2) zqf [fL x] G k = k (fL (FloatKind.f64.encode ((Ieee.Datum.number (sg dbl x) m (-1074 + (i : Int))).integral .down))) G := by
        intro G k
        rw [zx5, zxI, show runC (R := R) Tryz.prog lo0 F (n + 1) zjf [fL x] G = zf Tryz.prog (runC Tryz.prog lo0 F n) [] F Tryz.f94 [fL x] G from funext fun k => zh Tryz.func94 rfl rfl, x78, hd]
        rfl
      rw [Bool.not_true, cond_false, hfl, ivF, hP (FloatKind.f64.encode ((Ieee.Datum.number (sg dbl x) m (-1074 + (i : Int))).integral .down)) (zdE _ _ _), ivF]
      unfold flW
      rw [hd]
      rfl
  intro x y hx hy G k
  rw [zxx, zx2]
  unfold zle
  rw [hR x hx, zkS, hR y hy, zkS]
  simp only [zfO, zaN hF, zfr]
  unfold ziW flN flA flB
  cases fx : fin x with
  | false => rfl
  | true =>
    cases fy : fin y with
    | false => rfl
    | true =>
      simp only [Bool.and_self, Bool.true_and, cond_true]
      rw [show ((0 : Int) != 0) = false from rfl, cond_false, cond_false]
      cases c3 : feq .f64 (flW x) (flW y) with
      | false => rfl
      | true =>
        rw [Bool.not_true, cond_false, Bool.true_and]
        cases c4 : flt .f64 (flW x) 14069245235905429504 with
        | true => rfl
        | false =>
          rw [cond_false, Bool.not_false, Bool.true_and]
          cases c5 : fgt .f64 (flW x) 4845873199050653696 with
          | true => rfl
          | false =>
            have hu := zCD fx
            have d4 := c4
            have d5 := c5
            rw [zug hu zyj.1, zyj.2, decide_eq_false_iff_not] at d4
            rw [ztL hu zvU.1, zvU.2, decide_eq_false_iff_not] at d5
            obtain ⟨m, hm⟩ := zxf hu (Int.not_lt.1 d4) (Int.not_lt.1 d5)
            unfold zhe
            rw [cond_false, hm, Option.bind_some]
            rfl
abbrev zJh (O : Ora R) : Prop := ∀ (c0 c1 c2 : Nat), c0 < 2 ^ 64 → c1 < 2 ^ 64 → c2 < 2 ^ 64 → ∀ (G : GH) (k : IV → GH → Option R), O zpn [.agg [fL c0, fL c1, fL c2]] G k = k (S6 (ofL c0) (ofH c0) (ofL c1) (ofH c1) (ofL c2) (ofH c2)) G
theorem zJc {F n : Nat} (hF : 1 ≤ F) (hn : 6 ≤ n) : zJh (runC (R := R) Tryz.prog lo0 F n) := by
  obtain ⟨n, rfl⟩ : ∃ j, n = j + 1 := ⟨n - 1, by omega⟩
  have hO := vOf (R := R) (F := F) (n := n) hF (by omega)
  intro c0 c1 c2 h0 h1 h2 G k
  rw [zEq, zDN, hO c0 h0, zfY, hO c1 h1, zfY, hO c2 h2, zfY]
abbrev zHz (O : Ora R) : Prop := ∀ (a0 a1 a2 a3 a4 a5 b0 b1 b2 b3 b4 b5 : Nat), num a0 → num a1 → num a2 → num a3 → num a4 → num a5 → num b0 → num b1 → num b2 → num b3 → num b4 → num b5 →
  ∀ (G : GH) (k : IV → GH → Option R), O zlq [S6 a0 a1 a2 a3 a4 a5, S6 b0 b1 b2 b3 b4 b5] G k = k (S6 (zbC a0 a1 b0 b1) (zbB a0 a1 b0 b1) (zbC a2 a3 b2 b3) (zbB a2 a3 b2 b3) (zbC a4 a5 b4 b5) (zbB a4 a5 b4 b5)) G
theorem zEQ {F n : Nat} (hn : 12 ≤ n) : zHz (runC (R := R) Tryz.prog lo0 (F + 4) n) := by
  obtain ⟨n, rfl⟩ : ∃ j, n = j + 12 := ⟨n - 12, by omega⟩
  have hM := zH4 (R := R) (F := F) (n := n + 10) (by omega)
  intro a0 a1 a2 a3 a4 a5 b0 b1 b2 b3 b4 b5 p0 p1 p2 p3 p4 p5 q0 q1 q2 q3 q4 q5 G k
  have hE : ∀ (G : GH) (k : IV → GH → Option R), runC Tryz.prog lo0 (F + 4) (n + 11) zhc [S6 a0 a1 a2 a3 a4 a5, S6 b0 b1 b2 b3 b4 b5, .func 36 []] G k = k (S6 (zbC a0 a1 b0 b1) (zbB a0 a1 b0 b1) (zbC a2 a3 b2 b3) (zbB a2 a3 b2 b3) (zbC a4 a5 b4 b5) (zbB a4 a5 b4 b5)) G := fun G k => by
    rw [zES, zAB, hM _ _ _ _ p0 p1 q0 q1, zfY, hM _ _ _ _ p2 p3 q2 q3, zfY, hM _ _ _ _ p4 p5 q4 q5, zfY]
  rw [zy5, zy4, hE, zdD]
abbrev zH3 (O : Ora R) : Prop := ∀ (a0 a1 a2 a3 a4 a5 s0 s1 : Nat), num a0 → num a1 → num a2 → num a3 → num a4 → num a5 → num s0 → num s1 →
  ∀ (G : GH) (k : IV → GH → Option R), O zlu [S6 a0 a1 a2 a3 a4 a5, S2 s0 s1] G k = k (S6 (zbC a0 a1 s0 s1) (zbB a0 a1 s0 s1) (zbC a2 a3 s0 s1) (zbB a2 a3 s0 s1) (zbC a4 a5 s0 s1) (zbB a4 a5 s0 s1)) G
theorem zIt {F n : Nat} (hn : 13 ≤ n) : zH3 (runC (R := R) Tryz.prog lo0 (F + 4) n) := by
  obtain ⟨n, rfl⟩ : ∃ j, n = j + 1 := ⟨n - 1, by omega⟩
  have hT := zEQ (R := R) (F := F) (n := n) (by omega)
  intro a0 a1 a2 a3 a4 a5 s0 s1 p0 p1 p2 p3 p4 p5 q0 q1 G k
  rw [zzq, zzj, hT _ _ _ _ _ _ _ _ _ _ _ _ p0 p1 p2 p3 p4 p5 q0 q1 q0 q1 q0 q1, zdD]
abbrev zId (O : Ora R) : Prop := ∀ (a b : Int) (G : GH) (k : IV → GH → Option R), O zcg [iL a, iL b] G k = k (iL (zto a b)) G
theorem zHb {F n : Nat} (hn : 1 ≤ n) : zId (runC (R := R) Tryz.prog lo0 F n) := by
  obtain ⟨n, rfl⟩ : ∃ j, n = j + 1 := ⟨n - 1, by omega⟩
  intro a b G k
  rw [zuP, zuM]
  unfold zto
  cases (a == (1 : Int)) <;> cases (b == (1 : Int)) <;> rfl
end
end Go.LI.Film
namespace Go.LI.Film
open Go.Proofs.YtbjcipikclbecaaGreat Go Go.Proofs Go.LI Go.LI.Fl
structure Vl where
  l0 : Nat
  h0 : Nat
  l1 : Nat
  h1 : Nat
  l2 : Nat
  h2 : Nat
  s : Int
def Vl.nil : Vl := ⟨0, 0, 0, 0, 0, 0, 0⟩
def vcs (v : Vl) : List IV := [fL v.l0, fL v.h0, fL v.l1, fL v.h1, fL v.l2, fL v.h2, iL v.s]
theorem zi3 (v : Vl) : (vcs v).length = 7 := rfl
structure Vl.ok (v : Vl) : Prop where
  a0 : zcm v.l0
  b0 : zcm v.h0
  a1 : zcm v.l1
  b1 : zcm v.h1
  a2 : zcm v.l2
  b2 : zcm v.h2
theorem Vl.ok_nil : Vl.nil.ok := ⟨zad, zad, zad, zad, zad, zad⟩
theorem zIb {G : GH} {a : Option GA} {n i : Nat} {vs : List Vl} {v : Vl} (h : RP vcs G a n vs) (hi : vs[i]? = some v) : ∃ p, zbj a n (i : Int) 7 = some p ∧ zg G .f64 (GA.add p 0) = some v.l0 ∧ zg G .f64 (GA.add p 1) = some v.h0 ∧ zg G .f64 (GA.add p 2) = some v.l1 ∧ zg G .f64 (GA.add p 3) = some v.h1 ∧
    zg G .f64 (GA.add p 4) = some v.l2 ∧ zg G .f64 (GA.add p 5) = some v.h2 ∧ z0 G .i64 (GA.add p 6) = some v.s := by
  have hl := (List.getElem?_eq_some_iff.1 hi).1
  obtain ⟨b, e, rest, rfl, hB⟩ := h.2 (by have := h.1; omega)
  have hn := h.1
  have at' : ∀ j, j < 7 → ((vs.map vcs).flatten ++ rest)[i * 7 + j]? = (vcs v)[j]? := fun j hj => (List.getElem?_append_left (by rw [zfU zi3]; omega)).trans (zny zi3 hi j hj)
  refine ⟨⟨b, i * 7⟩, ?_, ?_, ?_, ?_, ?_, ?_, ?_, ?_⟩
  · simp only [zbj, GA.add, Int.toNat_natCast, Nat.zero_add]
    rw [if_pos ⟨by omega, by omega⟩]
  · exact hB.flo (i := i * 7 + 0) (at' 0 (by omega))
  · exact hB.flo (i := i * 7 + 1) (at' 1 (by omega))
  · exact hB.flo (i := i * 7 + 2) (at' 2 (by omega))
  · exact hB.flo (i := i * 7 + 3) (at' 3 (by omega))
  · exact hB.flo (i := i * 7 + 4) (at' 4 (by omega))
  · exact hB.flo (i := i * 7 + 5) (at' 5 (by omega))
  · exact hB.int (i := i * 7 + 6) (at' 6 (by omega))
abbrev Tri := Nat × Nat × Nat
def tri (c : Tri) : List IV := [fL c.1, fL c.2.1, fL c.2.2]
theorem zg6 (c : Tri) : (tri c).length = 3 := rfl
structure Pi where
  w : Int
  h : Int
  px : List Tri
def Tri.w (c : Tri) : Prop := c.1 < 2 ^ 64 ∧ c.2.1 < 2 ^ 64 ∧ c.2.2 < 2 ^ 64
def Pi.w' (p : Pi) : Prop := ∀ c ∈ p.px, Tri.w c
structure PicOf (G : GH) (q : Pc) (p : Pi) : Prop where
  w : q.w = p.w
  h : q.h = p.h
  px : RP tri G q.a q.n p.px
def PR (G : GH) (a : Option GA) (n : Nat) (ps : List Pi) : Prop := ∃ qs, RP zwZ G a n qs ∧ qs.length = ps.length ∧ ∀ (i : Nat) (q : Pc) (p : Pi), qs[i]? = some q → ps[i]? = some p → PicOf G q p
theorem PR.keep {G G' : GH} {a : Option GA} {n base : Nat} {ps : List Pi} (h : PR G a n ps) (k : z9 base G G') (hb : G.length ≤ base) : PR G' a n ps := by
  obtain ⟨qs, h1, h2, h3⟩ := h
  exact ⟨qs, h1.keep k hb, h2, fun i q p hq hp => ⟨(h3 i q p hq hp).w, (h3 i q p hq hp).h, (h3 i q p hq hp).px.keep k hb⟩⟩
theorem RP.freeze {α : Type} {f : α → List IV} {G : GH} {a : Option GA} {n : Nat} {ps : List α} (h : RP f G a n ps) : RP f (zj G) a n ps := by
  refine ⟨h.1, fun hn => ?_⟩
  obtain ⟨b, e, rest, h1, h2⟩ := h.2 hn
  exact ⟨b, e, rest, h1, h2.freeze⟩
theorem zEV {G : GH} {a : Option GA} {n i : Nat} {qs : List Pc} {q : Pc} (h : RP zwZ G a n qs) (hi : qs[i]? = some q) : ∃ p, zbj a n (i : Int) 3 = some p ∧ z0 G .i64 (GA.add p 0) = some q.w ∧ z0 G .i64 (GA.add p 1) = some q.h ∧ zci G (GA.add p 2) = some (q.a, q.n) := by
  have hl := (List.getElem?_eq_some_iff.1 hi).1
  obtain ⟨b, e, rest, rfl, hB⟩ := h.2 (by have := h.1; omega)
  have hn := h.1
  have at' : ∀ j, j < 3 → ((qs.map zwZ).flatten ++ rest)[i * 3 + j]? = (zwZ q)[j]? := fun j hj => (List.getElem?_append_left (by rw [zfU zn9]; omega)).trans (zny zn9 hi j hj)
  refine ⟨⟨b, i * 3⟩, ?_, ?_, ?_, ?_⟩
  · simp only [zbj, GA.add, Int.toNat_natCast, Nat.zero_add]
    rw [if_pos ⟨by omega, by omega⟩]
  · exact hB.int (i := i * 3 + 0) (at' 0 (by omega))
  · exact hB.int (i := i * 3 + 1) (at' 1 (by omega))
  · exact hB.sli (i := i * 3 + 2) (at' 2 (by omega))
def zhW (w h : Int) (n : Nat) : Bool := (decide (1 ≤ w) && decide (1 ≤ h) && decide (w ≤ 1024) && decide (h ≤ 1024) && decide (w * h ≤ 65536)) && decide ((n : Int) = w * h)
def zdB (x n : Int) : Int := bif decide (Int.tmod x n < 0) then Int.tmod x n + n else Int.tmod x n
theorem zmu {x n : Int} (h : 1 ≤ n) : 0 ≤ zdB x n ∧ zdB x n < n := by
  have h1 : Int.tmod x n < n := Int.tmod_lt_of_pos x (by omega)
  have h2 : -n < Int.tmod x n := by
    have := Int.lt_tmod_of_pos x (show 0 < n by omega)
    omega
  unfold zdB
  cases hd : decide (Int.tmod x n < 0) with
  | true => have := of_decide_eq_true hd; rw [cond_true]; omega
  | false => have := of_decide_eq_false hd; rw [cond_false]; omega
def fW (w : Int) : Nat := FloatKind.nearest .f64 w
def zl9 (w h : Int) (px : List Tri) (u0 u1 v0 v1 : Nat) : Vl :=
  bif zhW w h px.length then
    let a0 := zbC u0 u1 (ofL (fW w)) (ofH (fW w))
    let a1 := zbB u0 u1 (ofL (fW w)) (ofH (fW w))
    let b0 := zbC v0 v1 (ofL (fW h)) (ofH (fW h))
    let b1 := zbB v0 v1 (ofL (fW h)) (ofH (fW h))
    let c := px.getD (zdB (flN b0 b1) h * w + zdB (flN a0 a1) w).toNat (0, 0, 0)
    ⟨ofL c.1, ofH c.1, ofL c.2.1, ofH c.2.1, ofL c.2.2, ofH c.2.2, zto (flA a0 a1) (flA b0 b1)⟩
  else ⟨0, 0, 0, 0, 0, 0, 2⟩
def zmm (ps : List Pi) (u0 u1 v0 v1 : Nat) (t : Tx) (x y : Vl) : Vl :=
  bif t.k == 2 then
    let a0 := zbC u0 u1 (ofL t.s) (ofH t.s)
    let a1 := zbB u0 u1 (ofL t.s) (ofH t.s)
    let b0 := zbC v0 v1 (ofL t.s) (ofH t.s)
    let b1 := zbB v0 v1 (ofL t.s) (ofH t.s)
    let p := bif Int.tmod (IntKind.wrap .i64 (flN a0 a1 + flN b0 b1)) 2 != 0 then y else x
    ⟨p.l0, p.h0, p.l1, p.h1, p.l2, p.h2, zto (zto (flA a0 a1) (flA b0 b1)) p.s⟩
  else bif t.k == 3 then
    let r0 := zC3 4607182418800017408 4607182418800017408 (ofL t.s) (ofH t.s)
    let r1 := zCC 4607182418800017408 4607182418800017408 (ofL t.s) (ofH t.s)
    let s0 := ofL t.s
    let s1 := ofH t.s
    ⟨zuW (zbC x.l0 x.h0 r0 r1) (zbC y.l0 y.h0 s0 s1), zhS (zbB x.l0 x.h0 r0 r1) (zbB y.l0 y.h0 s0 s1),
     zuW (zbC x.l1 x.h1 r0 r1) (zbC y.l1 y.h1 s0 s1), zhS (zbB x.l1 x.h1 r0 r1) (zbB y.l1 y.h1 s0 s1),
     zuW (zbC x.l2 x.h2 r0 r1) (zbC y.l2 y.h2 s0 s1), zhS (zbB x.l2 x.h2 r0 r1) (zbB y.l2 y.h2 s0 s1), zto x.s y.s⟩
  else bif t.k == 4 then
    let p := ps.getD t.im.toNat ⟨0, 0, []⟩
    zl9 p.w p.h p.px (zbC u0 u1 (ofL t.s) (ofH t.s)) (zbB u0 u1 (ofL t.s) (ofH t.s)) (zbC v0 v1 (ofL t.s) (ofH t.s)) (zbB v0 v1 (ofL t.s) (ofH t.s))
  else bif t.k == 5 then
    ⟨zbC x.l0 x.h0 (ofL t.c0) (ofH t.c0), zbB x.l0 x.h0 (ofL t.c0) (ofH t.c0), zbC x.l1 x.h1 (ofL t.c1) (ofH t.c1), zbB x.l1 x.h1 (ofL t.c1) (ofH t.c1), zbC x.l2 x.h2 (ofL t.c2) (ofH t.c2), zbB x.l2 x.h2 (ofL t.c2) (ofH t.c2), x.s⟩
  else ⟨ofL t.c0, ofH t.c0, ofL t.c1, ofH t.c1, ofL t.c2, ofH t.c2, 1⟩
theorem zD4 {w h : Int} {px : List Tri} (hp : ∀ c ∈ px, Tri.w c) (u0 u1 v0 v1 : Nat) : (zl9 w h px u0 u1 v0 v1).ok := by
  unfold zl9
  cases zhW w h px.length with
  | false => exact ⟨zad, zad, zad, zad, zad, zad⟩
  | true =>
    rw [cond_true]
    simp only
    generalize (zdB _ h * w + zdB _ w).toNat = i
    have hw : Tri.w (px.getD i (0, 0, 0)) := by
      rw [List.getD_eq_getElem?_getD]
      cases hi : px[i]? with
      | none => exact ⟨by decide, by decide, by decide⟩
      | some c => exact hp c (List.mem_of_getElem? hi)
    exact ⟨zaj hw.1, zak hw.1, zaj hw.2.1, zak hw.2.1, zaj hw.2.2, zak hw.2.2⟩
theorem zDm {ps : List Pi} {u0 u1 v0 v1 : Nat} {t : Tx} {x y : Vl} (hp : ∀ p ∈ ps, p.w') (ht : t.w) (hx : x.ok) (hy : y.ok) : (zmm ps u0 u1 v0 v1 t x y).ok := by
  unfold zmm
  cases t.k == 2 with
  | true =>
    rw [cond_true]
    simp only
    generalize (Int.tmod _ 2 != 0) = c
    cases c with
    | true => exact ⟨hy.a0, hy.b0, hy.a1, hy.b1, hy.a2, hy.b2⟩
    | false => exact ⟨hx.a0, hx.b0, hx.a1, hx.b1, hx.a2, hx.b2⟩
  | false =>
    cases t.k == 3 with
    | true => exact ⟨zjc _ _, zhd _ _, zjc _ _, zhd _ _, zjc _ _, zhd _ _⟩
    | false =>
      cases t.k == 4 with
      | true =>
        rw [cond_false, cond_false, cond_true]
        simp only
        refine zD4 ?_ _ _ _ _
        rw [List.getD_eq_getElem?_getD]
        cases hi : ps[t.im.toNat]? with
        | none => intro c hc; cases hc
        | some p => exact hp p (List.mem_of_getElem? hi)
      | false =>
        cases t.k == 5 with
        | true => exact ⟨zz _ _ _ _, zy _ _ _ _, zz _ _ _ _, zy _ _ _ _, zz _ _ _ _, zy _ _ _ _⟩
        | false => exact ⟨zaj ht.1, zak ht.1, zaj ht.2.1, zak ht.2.1, zaj ht.2.2.1, zak ht.2.2.1⟩
end Go.LI.Film
namespace Go.LI.Film
open Go.Proofs.YtbjcipikclbecaaGreat Go Go.Proofs Go.LI Go.LI.Fl
def lw (w h : Int) : Bool := decide (1 ≤ w) && decide (1 ≤ h) && decide (w ≤ 1024) && decide (h ≤ 1024) && decide (w * h ≤ 65536)
theorem zwB {w h : Int} (hl : lw w h = true) : 1 ≤ w ∧ 1 ≤ h ∧ w ≤ 1024 ∧ h ≤ 1024 ∧ w * h ≤ 65536 := by
  unfold lw at hl
  simp only [Bool.and_eq_true, decide_eq_true_eq] at hl
  exact ⟨hl.1.1.1.1, hl.1.1.1.2, hl.1.1.2, hl.1.2, hl.2⟩
theorem zo2 {w h : Int} (h1 : 1 ≤ w) (h2 : 1 ≤ h) : 1 ≤ w * h := by
  have : 0 < w * h := Int.mul_pos (by omega) (by omega)
  omega
theorem zAl {w h : Int} (h1 : 1 ≤ w) (h2 : 1 ≤ h) (h3 : w ≤ 1024) (h4 : h ≤ 1024) : w * h ≤ 1048576 := by
  have a := Int.mul_le_mul_of_nonneg_right h3 (show 0 ≤ h by omega)
  omega
theorem zFS {G : GH} {b e n : Nat} {cs rest : List IV} (h : BL G b (cs ++ rest) e) (hn : cs.length = n) : grd G ⟨b, 0⟩ n = some cs := by
  obtain ⟨md, h1, h2⟩ := h
  subst hn
  simp [Go.LI.grd, h1, h2]
theorem zCf (n : Nat) : ((List.replicate n [IV.float .f64 (0 : Nat), fL (0 : Nat), fL (0 : Nat)]).flatten).length = n * 3 := by
  induction n with
  | zero => rfl
  | succ n ih => rw [List.replicate_succ, List.flatten_cons, List.length_append, ih]; simp; omega
section
variable {R : Type}
abbrev zJ1 (O : Ora R) : Prop := ∀ (w h : Int), (lw w h = false → ∀ (G : GH) (k : IV → GH → Option R), O zaD [iL w, iL h] G k = k (.tuple [.ptr none, iL 70]) G) ∧
  (lw w h = true → ∀ (G : GH) (k : IV → GH → Option R), O zaD [iL w, iL h] G k =
    k (.tuple [.ptr (some ⟨G.length + 1, 0⟩), iL 0]) (zac (zac G (List.replicate (w * h).toNat [IV.float .f64 (0 : Nat), fL (0 : Nat), fL (0 : Nat)]).flatten 45) [iL w, iL h, .slice (some ⟨G.length, 0⟩) (w * h).toNat] 121))
theorem zJx {F n : Nat} (hF : 1 ≤ F) (hn : 1 ≤ n) : zJ1 (runC (R := R) Tryz.prog lo0 F n) := by
  obtain ⟨n, rfl⟩ : ∃ j, n = j + 1 := ⟨n - 1, by omega⟩
  intro w h
  have run : ∀ (G : GH) (k : IV → GH → Option R), runC (R := R) Tryz.prog lo0 F (n + 1) zaD [iL w, iL h] G k = zW (runC Tryz.prog lo0 F n) (zR (runC Tryz.prog lo0 F n) k) w h G := by
    intro G k
    rw [zkY, zlb]
    simp only [zbS, zaz, zaN hF, zas]
  have bad : ∀ (G : GH) (k : IV → GH → Option R), zR (runC Tryz.prog lo0 F n) k w h true G = k (.tuple [.ptr none, iL 70]) G := fun _ _ => rfl
  constructor
  · intro hl G k
    rw [run]
    unfold zW
    cases c1 : decide (w < 1) with
    | true => rw [cond_true, bad]
    | false =>
      cases c2 : decide (h < 1) with
      | true => rw [cond_false, cond_true, bad]
      | false =>
        cases c3 : decide (w > 1024) with
        | true => rw [cond_false, cond_false, cond_true, bad]
        | false =>
          cases c4 : decide (h > 1024) with
          | true => rw [cond_false, cond_false, cond_false, cond_true, bad]
          | false =>
            rw [decide_eq_false_iff_not] at c1 c2 c3 c4
            have p1 := zo2 (w := w) (h := h) (by omega) (by omega)
            have p2 := zAl (w := w) (h := h) (by omega) (by omega) (by omega) (by omega)
            rw [cond_false, cond_false, cond_false, cond_false, zF (by omega) (by omega)]
            unfold lw at hl
            rw [decide_eq_true (show 1 ≤ w by omega), decide_eq_true (show 1 ≤ h by omega), decide_eq_true (show w ≤ 1024 by omega), decide_eq_true (show h ≤ 1024 by omega)] at hl
            simp only [Bool.and_self, Bool.true_and, decide_eq_false_iff_not] at hl
            rw [decide_eq_true (show w * h > 65536 by omega), bad]
  · intro hl G k
    obtain ⟨q1, q2, q3, q4, q5⟩ := zwB hl
    have p1 := zo2 q1 q2
    rw [run]
    unfold zW zR
    rw [decide_eq_false (show ¬ w < 1 by omega), decide_eq_false (show ¬ h < 1 by omega), decide_eq_false (show ¬ w > 1024 by omega), decide_eq_false (show ¬ h > 1024 by omega), zF (show -9223372036854775808 ≤ w * h by omega) (by omega), decide_eq_false (show ¬ w * h > 65536 by omega)]
    rw [cond_false, cond_false, cond_false, cond_false, cond_false]
    rw [show (decide (0 ≤ w * h ∧ w * h ≤ w * h ∧ w * h * 24 ≤ (zbo : Int) ∧ w * h ≤ (zbo : Int)) && true && true) = true by
      unfold zbo; rw [Bool.and_true, Bool.and_true, decide_eq_true_eq]; refine ⟨by omega, by omega, by omega, by omega⟩]
    rw [cond_true]
    simp only [zaA, zp]
abbrev zJD (O : Ora R) : Prop := ∀ (w h : Int) (pa : Option GA) (pn : Nat) (px : List Tri) (G : GH), RP tri G pa pn px →
  (zhW w h px.length = false → ∃ G', z9 G.length G G' ∧ ∃ e : Int, e ≠ 0 ∧ ∀ (k : IV → GH → Option R), O zbV [iL w, iL h, .slice pa pn] G k = k (.tuple [.ptr none, iL e]) G') ∧
  (zhW w h px.length = true → ∃ (b1 b2 : Nat) (G' : GH), BL G' b1 ((px.map tri).flatten) 45 ∧ BL G' b2 [iL w, iL h, .slice (some ⟨b1, 0⟩) px.length] 121 ∧ z9 G.length G G' ∧
    ∀ (k : IV → GH → Option R), O zbV [iL w, iL h, .slice pa pn] G k = k (.tuple [.ptr (some ⟨b2, 0⟩), iL 0]) G')
theorem zJ3 {F n : Nat} (hF : 1 ≤ F) (hn : 2 ≤ n) : zJD (runC (R := R) Tryz.prog lo0 F n) := by
  obtain ⟨n, rfl⟩ : ∃ j, n = j + 1 := ⟨n - 1, by omega⟩
  have hN := zJx (R := R) (F := F) (n := n) hF (by omega)
  intro w h pa pn px G hP
  have hlen : px.length = pn := hP.1
  obtain ⟨n0, n1⟩ := hN w h
  have law : zhW w h px.length = (lw w h && decide ((pn : Int) = w * h)) := by unfold zhW lw; rw [hlen]
  rw [law]
  cases hl : lw w h with
  | false =>
    refine ⟨fun _ => ⟨G, z9.refl _ _, 70, by decide, fun k => ?_⟩, fun h => by cases h⟩
    rw [zcv, zcn, n0 hl, zBN]
    rfl
  | true =>
    obtain ⟨q1, q2, q3, q4, q5⟩ := zwB hl
    have p1 := zo2 q1 q2
    have e1 : ((0 : Int) != 0) = false := by decide
    rw [Bool.true_and]
    have kp : z9 G.length G (zac (zac G (List.replicate (w * h).toNat [IV.float .f64 (0 : Nat), fL (0 : Nat), fL (0 : Nat)]).flatten 45) [iL w, iL h, .slice (some ⟨G.length, 0⟩) (w * h).toNat] 121) := (zaM G _ 45 (Nat.le_refl _)).trans (zaM _ _ 121 (by rw [zp]; omega))
    constructor
    · intro hd
      rw [decide_eq_false_iff_not] at hd
      refine ⟨_, kp, 70, by decide, fun k => ?_⟩
      rw [zcv, zcn, n1 hl, zBN, e1, cond_false, zF (by omega) (by omega), show ((pn : Int) != w * h) = true by simpa using hd, cond_true]
    · intro hd
      have hd := of_decide_eq_true hd
      have hpn : (w * h).toNat = pn := by omega
      have hpos : 0 < pn := by omega
      rw [hpn] at n1 kp
      obtain ⟨b, e, rest, rfl, hB⟩ := hP.2 hpos
      have hbx := hB.lt
      have h1 : (zac (zac G (List.replicate pn [IV.float .f64 (0 : Nat), fL (0 : Nat), fL (0 : Nat)]).flatten 45) [iL w, iL h, .slice (some ⟨G.length, 0⟩) pn] 121)[G.length]? = some ⟨(List.replicate pn [IV.float .f64 (0 : Nat), fL (0 : Nat), fL (0 : Nat)]).flatten, 45, 1⟩ := by
        rw [zet (by rw [zp]; omega)]; exact zhr G _ 45
      have h2 : (zac (zac G (List.replicate pn [IV.float .f64 (0 : Nat), fL (0 : Nat), fL (0 : Nat)]).flatten 45) [iL w, iL h, .slice (some ⟨G.length, 0⟩) pn] 121)[G.length + 1]? = some ⟨[iL w, iL h, .slice (some ⟨G.length, 0⟩) pn], 121, 1⟩ := by
        have := zhr (zac G (List.replicate pn [IV.float .f64 (0 : Nat), fL (0 : Nat), fL (0 : Nat)]).flatten 45) [iL w, iL h, .slice (some ⟨G.length, 0⟩) pn] 121
        rwa [zp] at this
      have hB2 := hB.keep kp hbx
      have hn := fun k => n1 hl G k
      generalize zac (zac G (List.replicate pn [IV.float .f64 (0 : Nat), fL (0 : Nat), fL (0 : Nat)]).flatten 45) [iL w, iL h, .slice (some ⟨G.length, 0⟩) pn] 121 = G2 at h1 h2 hB2 kp hn
      have hll : ((px.map tri).flatten).length = pn * 3 := by rw [zfU zg6, hlen]
      obtain ⟨G3, g1, g2, g3, g4⟩ := zGE h1 (vs := (px.map tri).flatten) (by rw [hll, zCf])
      have q2' : BL G2 (G.length + 1) [iL w, iL h, .slice (some ⟨G.length, 0⟩) pn] 121 := ⟨1, by decide, h2⟩
      refine ⟨G.length, G.length + 1, G3, ⟨1, by decide, g2⟩, ⟨1, by decide, by rw [g3 _ (by omega), hlen]; exact h2⟩, ⟨by have := kp.1; omega, fun i hi => by rw [g3 i (by omega), kp.2 i hi]⟩, fun k => ?_⟩
      have hs := q2'.sli (i := 2) (a := some ⟨G.length, 0⟩) (n := pn) rfl
      have hg := zFS (n := min pn pn * 3) hB2 (by rw [hll, Nat.min_self])
      rw [zcv, zcn, hn, zBN, e1, cond_false, zF (by omega) (by omega), show ((pn : Int) != w * h) = false by simpa using hd, cond_false, Option.bind_some, zG0, hs, Option.bind_some]
      simp only [zGR, hg, g1]
abbrev zIs (O : Ora R) : Prop := ∀ (x n : Int), 1 ≤ n → n ≤ 1024 → ∀ (G : GH) (k : IV → GH → Option R), O zjS [iL x, iL n] G k = k (iL (zdB x n)) G
theorem zIe {F n : Nat} (hn : 1 ≤ n) : zIs (runC (R := R) Tryz.prog lo0 F n) := by
  obtain ⟨n, rfl⟩ : ∃ j, n = j + 1 := ⟨n - 1, by omega⟩
  intro x m h1 h2 G k
  have b1 : Int.tmod x m < m := Int.tmod_lt_of_pos x (by omega)
  have b2 : -m < Int.tmod x m := by
    have := Int.lt_tmod_of_pos x (show 0 < m by omega)
    omega
  rw [zwX, zyd, show (m == 0) = false by simp; omega, cond_false]
  unfold zdB
  cases hd : decide (Int.tmod x m < 0) with
  | true => rw [cond_true, cond_true, zF (by omega) (by omega)]
  | false => rw [cond_false, cond_false]
abbrev VWp (O : Ora R) : Prop := ∀ (b1 b2 : Nat) (w h : Int) (px : List Tri) (x y : Int) (G : GH), zhW w h px.length = true → BL G b1 ((px.map tri).flatten) 45 → BL G b2 [iL w, iL h, .slice (some ⟨b1, 0⟩) px.length] 121 → ∀ (k : IV → GH → Option R),
  O za3 [.ptr (some ⟨b2, 0⟩), iL x, iL y] G k = k (.agg [fL (px.getD (zdB y h * w + zdB x w).toNat (0, 0, 0)).1, fL (px.getD (zdB y h * w + zdB x w).toNat (0, 0, 0)).2.1, fL (px.getD (zdB y h * w + zdB x w).toNat (0, 0, 0)).2.2]) G
theorem zB5 {w h x y : Int} (q1 : 1 ≤ w) (q2 : 1 ≤ h) : 0 ≤ zdB y h * w + zdB x w ∧ zdB y h * w + zdB x w < w * h := by
  obtain ⟨a1, a2⟩ := zmu (x := y) q2
  obtain ⟨b1, b2⟩ := zmu (x := x) q1
  have c1 : 0 ≤ zdB y h * w := Int.mul_nonneg a1 (by omega)
  have c2 : (zdB y h + 1) * w ≤ h * w := Int.mul_le_mul_of_nonneg_right (by omega) (by omega)
  rw [Int.add_mul, Int.one_mul, Int.mul_comm h w] at c2
  omega
theorem vWp {F n : Nat} (hn : 2 ≤ n) : VWp (runC (R := R) Tryz.prog lo0 F n) := by
  obtain ⟨n, rfl⟩ : ∃ j, n = j + 1 := ⟨n - 1, by omega⟩
  have hW := zIe (R := R) (F := F) (n := n) (by omega)
  intro b1 b2 w h px x y G hl h1 h2 k
  have hl' : lw w h = true ∧ ((px.length : Int) = w * h) := by
    unfold zhW at hl
    rw [Bool.and_eq_true] at hl
    exact ⟨hl.1, of_decide_eq_true hl.2⟩
  obtain ⟨q1, q2, q3, q4, q5⟩ := zwB hl'.1
  obtain ⟨i0, i1⟩ := zB5 (w := w) (h := h) (x := x) (y := y) q1 q2
  have s2 := h2.sli (i := 2) (a := some ⟨b1, 0⟩) (n := px.length) rfl
  have e0 := h2.int (i := 0) (x := w) rfl
  have e1 := h2.int (i := 1) (x := h) rfl
  obtain ⟨m, hm⟩ : ∃ m : Nat, zdB y h * w + zdB x w = (m : Int) := ⟨(zdB y h * w + zdB x w).toNat, by omega⟩
  have hml : m < px.length := by have := hl'.2; omega
  have hg := List.getElem?_eq_getElem hml
  have at' : ∀ j, j < 3 → ((px.map tri).flatten)[m * 3 + j]? = (tri px[m])[j]? := fun j hj => zny zg6 hg j hj
  have f0 := h1.flo (i := m * 3 + 0) (at' 0 (by omega))
  have f1 := h1.flo (i := m * 3 + 1) (at' 1 (by omega))
  have f2 := h1.flo (i := m * 3 + 2) (at' 2 (by omega))
  have hpd : px.getD m (0, 0, 0) = px[m] := by rw [List.getD_eq_getElem?_getD, hg]; rfl
  have hc1 : 0 ≤ zdB y h * w := Int.mul_nonneg (zmu (x := y) q2).1 (by omega)
  have hc2 := (zmu (x := x) q1).1
  rw [zeL, zeM]
  simp only [zG0, s2, e0, e1, Option.bind_some]
  rw [hW y h q2 q4, ivI, hW x w q1 q3, ivI, zF (show -9223372036854775808 ≤ zdB y h * w by omega) (by omega), zF (by omega) (by omega), hm]
  rw [show zbj (some (⟨b1, 0⟩ : GA)) px.length (m : Int) 3 = some ⟨b1, m * 3⟩ by simp only [zbj, GA.add, Int.toNat_natCast, Nat.zero_add]; rw [if_pos ⟨by omega, by omega⟩], Option.bind_some]
  simp only [GA.add]
  rw [f0, Option.bind_some, f1, Option.bind_some, f2, Option.bind_some, Int.toNat_natCast, hpd]
theorem zHL (w : Int) : fW w < 2 ^ 64 := by
  unfold fW FloatKind.nearest
  exact (zdE _ _ _).1
abbrev zIu (O : Ora R) : Prop := ∀ (w h : Int) (px : List Tri) (u0 u1 v0 v1 : Nat), (∀ c ∈ px, Tri.w c) → num u0 → num u1 → num v0 → num v1 → ∀ (pa : Option GA) (pn : Nat) (G : GH), RP tri G pa pn px →
  ∃ G', z9 G.length G G' ∧ ∀ (k : IV → GH → Option R), O zji [.agg [iL w, iL h, .slice pa pn], S2 u0 u1, S2 v0 v1] G k = k (.agg (vcs (zl9 w h px u0 u1 v0 v1))) G'
theorem zHU {F n : Nat} (hn : 11 ≤ n) : zIu (runC (R := R) Tryz.prog lo0 (F + 4) n) := by
  obtain ⟨n, rfl⟩ : ∃ j, n = j + 1 := ⟨n - 1, by omega⟩
  have hI := zJ3 (R := R) (F := F + 4) (n := n) (by omega) (by omega)
  have hO := vOf (R := R) (F := F + 4) (n := n) (by omega) (by omega)
  have hM := zH4 (R := R) (F := F) (n := n) (by omega)
  have hFl := zFh (R := R) (F := F + 4) (n := n) (by omega) (by omega)
  have hW := vWp (R := R) (F := F + 4) (n := n) (by omega)
  have hV := zJc (R := R) (F := F + 4) (n := n) (by omega) (by omega)
  have hB := zHb (R := R) (F := F + 4) (n := n) (by omega)
  intro w h px u0 u1 v0 v1 hpx hu0 hu1 hv0 hv1 pa pn G hP
  obtain ⟨i0, i1⟩ := hI w h pa pn px G hP
  unfold zl9
  cases hl : zhW w h px.length with
  | false =>
    obtain ⟨G', k1, e, he, h1⟩ := i0 hl
    refine ⟨G', k1, fun k => ?_⟩
    rw [zkM, zkI, h1, zBN, show (e != 0) = true by simpa using he, cond_true]
    rfl
  | true =>
    obtain ⟨b1, b2, G', B1, B2, k1, h1⟩ := i1 hl
    refine ⟨G', k1, fun k => ?_⟩
    have e1 : ((0 : Int) != 0) = false := by decide
    have wp := hW b1 b2 w h px
    have hc : ∀ m, Tri.w (px.getD m (0, 0, 0)) := fun m => by
      rw [List.getD_eq_getElem?_getD]
      cases hi : px[m]? with
      | none => exact ⟨by decide, by decide, by decide⟩
      | some c => exact hpx c (List.mem_of_getElem? hi)
    have cw := zHL w
    have ch := zHL h
    have hw1 : FloatKind.nearest .f64 w = fW w := rfl
    have hh1 : FloatKind.nearest .f64 h = fW h := rfl
    rw [zkM, zkI, h1, zBN, e1, cond_false, hw1, hh1]
    rw [hO _ cw, zfY, hM u0 u1 _ _ hu0 hu1 (zaj cw).1 (zak cw).1, zfY, hFl _ _ (zz _ _ _ _).1.1 (zy _ _ _ _).1.1, zuB]
    rw [hO _ ch, zfY, hM v0 v1 _ _ hv0 hv1 (zaj ch).1 (zak ch).1, zfY, hFl _ _ (zz _ _ _ _).1.1 (zy _ _ _ _).1.1, zuB]
    rw [wp _ _ G' hl B1 B2, zJy, hV _ _ _ (hc _).1 (hc _).2.1 (hc _).2.2, zGl, hB, ivI]
    rfl
end
end Go.LI.Film
namespace Go.LI.Film
open Go.Proofs.YtbjcipikclbecaaGreat Go Go.Proofs Go.LI Go.LI.Fl
theorem zE6 {G : GH} {k : FloatKind} {a : GA} {x : Nat} (h : zg G k a = some x) : a.b < G.length := by
  rcases Nat.lt_or_ge a.b G.length with h1 | h1
  · exact h1
  · simp only [zg, gld, List.getElem?_eq_none h1] at h
    cases h
theorem zp3 {a b : Nat} (h : a < b) : Nat.blt a b = true := Nat.ble_eq_true_of_le h
structure ChkOk (t : Tx) (i p : Int) : Prop where
  k : t.k = 1 ∨ t.k = 2 ∨ t.k = 3 ∨ t.k = 4 ∨ t.k = 5
  two : t.k = 2 ∨ t.k = 3 → (0 ≤ t.a ∧ t.a < i) ∧ (0 ≤ t.b ∧ t.b < i)
  sc : t.k = 5 → 0 ≤ t.a ∧ t.a < i
  im : t.k = 4 → 0 ≤ t.im ∧ t.im < p
theorem zp7 {x i : Int} (h : ahd x i = true) : 0 ≤ x ∧ x < i := by
  unfold ahd at h
  simp only [Bool.and_eq_true, decide_eq_true_eq] at h
  omega
theorem zzA {t : Tx} {i p : Int} (h : chk t i p = 0) : ChkOk t i p := by
  obtain ⟨k, c0, c1, c2, a, b, s, im⟩ := t
  unfold chk at h
  simp only at h
  rcases zB8 k with hk | hk | rfl | rfl | rfl | rfl | rfl
  · rw [decide_eq_true hk, Bool.true_or, cond_true] at h; cases h
  · rw [decide_eq_true hk, Bool.or_true, cond_true] at h; cases h
  · exact ⟨.inl rfl, fun h => by simp at h, fun h => by simp at h, fun h => by simp at h⟩
  · refine ⟨.inr (.inl rfl), fun _ => ?_, fun h => by simp at h, fun h => by simp at h⟩
    simp only [show (decide ((2 : Int) < 1) || decide ((2 : Int) > 5)) = false by decide, cond_false, show ((2 : Int) == 1) = false by decide, show ((2 : Int) == 5) = false by decide, show ((2 : Int) == 2) = true by decide, show ((2 : Int) == 3) = false by decide, show ((2 : Int) == 4) = false by decide, Bool.or_self, Bool.false_and, Bool.true_or, Bool.true_and, Bool.or_false] at h
    cases hs : !fin s with
    | true => rw [hs] at h; cases h
    | false =>
      rw [hs, cond_false] at h
      cases h1 : ahd a i with
      | false => rw [h1] at h; cases h
      | true =>
        cases h2 : ahd b i with
        | false => rw [h1, h2] at h; cases h
        | true => exact ⟨zp7 h1, zp7 h2⟩
  · refine ⟨.inr (.inr (.inl rfl)), fun _ => ?_, fun h => by simp at h, fun h => by simp at h⟩
    simp only [show (decide ((3 : Int) < 1) || decide ((3 : Int) > 5)) = false by decide, cond_false, show ((3 : Int) == 1) = false by decide, show ((3 : Int) == 5) = false by decide, show ((3 : Int) == 2) = false by decide, show ((3 : Int) == 3) = true by decide, show ((3 : Int) == 4) = false by decide, Bool.or_self, Bool.false_and, Bool.true_or, Bool.or_true, Bool.true_and, Bool.or_false] at h
    cases hs : !fin s with
    | true => rw [hs] at h; cases h
    | false =>
      rw [hs, cond_false] at h
      cases hs2 : (flt .f64 s 0 || fgt .f64 s 4607182418800017408) with
      | true => rw [hs2] at h; cases h
      | false =>
        rw [hs2, cond_false] at h
        cases h1 : ahd a i with
        | false => rw [h1] at h; cases h
        | true =>
          cases h2 : ahd b i with
          | false => rw [h1, h2] at h; cases h
          | true => exact ⟨zp7 h1, zp7 h2⟩
  · refine ⟨.inr (.inr (.inr (.inl rfl))), fun h => by simp at h, fun h => by simp at h, fun _ => ?_⟩
    simp only [show (decide ((4 : Int) < 1) || decide ((4 : Int) > 5)) = false by decide, cond_false, show ((4 : Int) == 1) = false by decide, show ((4 : Int) == 5) = false by decide, show ((4 : Int) == 2) = false by decide, show ((4 : Int) == 3) = false by decide, show ((4 : Int) == 4) = true by decide, Bool.or_self, Bool.false_and, Bool.true_or, Bool.or_true, Bool.true_and, Bool.or_false] at h
    cases hs : !fin s with
    | true => rw [hs] at h; cases h
    | false =>
      rw [hs, cond_false] at h
      cases h1 : (decide (im < 0) || decide (im ≥ p)) with
      | true => rw [h1] at h; cases h
      | false =>
        simp only [Bool.or_eq_false_iff, decide_eq_false_iff_not] at h1
        simp only
        omega
  · refine ⟨.inr (.inr (.inr (.inr rfl))), fun h => by simp at h, fun _ => ?_, fun h => by simp at h⟩
    simp only [show (decide ((5 : Int) < 1) || decide ((5 : Int) > 5)) = false by decide, cond_false, show ((5 : Int) == 1) = false by decide, show ((5 : Int) == 5) = true by decide, show ((5 : Int) == 2) = false by decide, show ((5 : Int) == 3) = false by decide, show ((5 : Int) == 4) = false by decide, Bool.or_self, Bool.false_and, Bool.true_or, Bool.or_true, Bool.true_and, Bool.or_false, Bool.false_or] at h
    cases hs : !(fin c0 && (fin c1 && fin c2)) with
    | true => rw [hs] at h; cases h
    | false =>
      rw [hs, cond_false] at h
      cases h1 : ahd a i with
      | false => rw [h1] at h; cases h
      | true => exact zp7 h1
section
variable {R : Type}
abbrev zIP (O : Ora R) : Prop := ∀ (ps : List Pi) (u0 u1 v0 v1 : Nat) (t : Tx) (vals : List Vl) (i : Nat), t.w → chk t i ps.length = 0 → i ≤ vals.length → (∀ v ∈ vals, v.ok) → (∀ p ∈ ps, p.w') → num u0 → num u1 → num v0 → num v1 →
  ∀ (pa va : Option GA) (pn vn : Nat) (G : GH), PR G pa pn ps → RP vcs G va vn vals → ∀ (k : IV → GH → Option R),
  O znf [.agg (tcs t), .slice pa pn, .slice va vn, S2 u0 u1, S2 v0 v1] G k = k (.agg (vcs (zmm ps u0 u1 v0 v1 t (vals.getD t.a.toNat Vl.nil) (vals.getD t.b.toNat Vl.nil)))) G
theorem zBy {G : GH} {a : Option GA} {n : Nat} {vs : List Vl} {x : Int} {i : Nat} (h : RP vcs G a n vs) (hx : 0 ≤ x ∧ x < i) (hi : i ≤ vs.length) : ∃ p, zbj a n x 7 = some p ∧ zg G .f64 (GA.add p 0) = some (vs.getD x.toNat Vl.nil).l0 ∧ zg G .f64 (GA.add p 1) = some (vs.getD x.toNat Vl.nil).h0 ∧ zg G .f64 (GA.add p 2) = some (vs.getD x.toNat Vl.nil).l1 ∧ zg G .f64 (GA.add p 3) = some (vs.getD x.toNat Vl.nil).h1 ∧
    zg G .f64 (GA.add p 4) = some (vs.getD x.toNat Vl.nil).l2 ∧ zg G .f64 (GA.add p 5) = some (vs.getD x.toNat Vl.nil).h2 ∧ z0 G .i64 (GA.add p 6) = some (vs.getD x.toNat Vl.nil).s := by
  obtain ⟨m, rfl⟩ : ∃ m : Nat, x = (m : Int) := ⟨x.toNat, by omega⟩
  have hm : m < vs.length := by omega
  have hg := List.getElem?_eq_getElem hm
  rw [Int.toNat_natCast, List.getD_eq_getElem?_getD, hg]
  exact zIb h hg
theorem znh {vs : List Vl} (h : ∀ v ∈ vs, v.ok) (m : Nat) : (vs.getD m Vl.nil).ok := by
  rw [List.getD_eq_getElem?_getD]
  cases hi : vs[m]? with
  | none => exact Vl.ok_nil
  | some v => exact h v (List.mem_of_getElem? hi)
theorem zAq : num 4607182418800017408 := zeD (by decide) zyW
theorem zCU : ofL 4607182418800017408 = 4607182418800017408 := by unfold ofL; rw [zyW, cond_true, zEI]
theorem zCt : ofH 4607182418800017408 = 4607182418800017408 := by unfold ofH; rw [zyW, cond_true, zEI]
theorem zJw {F n : Nat} (hn : 14 ≤ n) : zIP (runC (R := R) Tryz.prog lo0 (F + 4) n) := by
  obtain ⟨n, rfl⟩ : ∃ j, n = j + 1 := ⟨n - 1, by omega⟩
  have hO := vOf (R := R) (F := F + 4) (n := n) (by omega) (by omega)
  have hM := zH4 (R := R) (F := F) (n := n) (by omega)
  have hSu := zJj (R := R) (F := F + 4) (n := n) (by omega) (by omega)
  have hFl := zFh (R := R) (F := F + 4) (n := n) (by omega) (by omega)
  have hV := zJc (R := R) (F := F + 4) (n := n) (by omega) (by omega)
  have hT := zEQ (R := R) (F := F) (n := n) (by omega)
  have hSc := zIt (R := R) (F := F) (n := n) (by omega)
  have hA := zJB (R := R) (F := F) (n := n) (by omega)
  have hB := zHb (R := R) (F := F + 4) (n := n) (by omega)
  have hSa := zHU (R := R) (F := F) (n := n) (by omega)
  intro ps u0 u1 v0 v1 t vals i ht hck hi hvo hpo hu0 hu1 hv0 hv1 pa va pn vn G hP hR k
  have hc := zzA hck
  obtain ⟨K, c0, c1, c2, a, b, s, im⟩ := t
  obtain ⟨w0, w1, w2, ws⟩ := ht
  simp only at w0 w1 w2 ws
  have hk : K = 1 ∨ K = 2 ∨ K = 3 ∨ K = 4 ∨ K = 5 := hc.k
  have hc2 : K = 2 ∨ K = 3 → (0 ≤ a ∧ a < (i : Int)) ∧ (0 ≤ b ∧ b < (i : Int)) := hc.two
  have hc5 : K = 5 → 0 ≤ a ∧ a < (i : Int) := hc.sc
  have hc4 : K = 4 → 0 ≤ im ∧ im < (ps.length : Int) := hc.im
  clear hc hck
  have nL := (zaj ws).1
  have nH := (zak ws).1
  unfold tcs
  simp only
  rw [zwn, zwc]
  unfold zkA
  rw [hO s ws, zfY]
  rcases hk with rfl | rfl | rfl | rfl | rfl
  · rw [show ((1 : Int) == 2) = false by decide, show ((1 : Int) == 3) = false by decide, show ((1 : Int) == 4) = false by decide, show ((1 : Int) == 5) = false by decide, cond_false, cond_false, cond_false, cond_false, hV c0 c1 c2 w0 w1 w2, zGl]
    rfl
  · obtain ⟨ha, hb⟩ := hc2 (.inl rfl)
    obtain ⟨p, i0, j0, j1, j2, j3, j4, j5, j6⟩ := zBy hR ha hi
    obtain ⟨q, i1, m0, m1, m2, m3, m4, m5, m6⟩ := zBy hR hb hi
    rw [show ((2 : Int) == 2) = true by decide, cond_true, hM _ _ _ _ hu0 hu1 nL nH, zfY, hFl _ _ (zz _ _ _ _).1.1 (zy _ _ _ _).1.1, zuB]
    rw [hM _ _ _ _ hv0 hv1 nL nH, zfY, hFl _ _ (zz _ _ _ _).1.1 (zy _ _ _ _).1.1, zuB]
    rw [i0, Option.bind_some, j0, Option.bind_some, j1, Option.bind_some, j2, Option.bind_some, j3, Option.bind_some, j4, Option.bind_some, j5, Option.bind_some, j6, Option.bind_some]
    simp only [zeE, zaV, zee, zhm]
    unfold zmm
    simp only [show ((2 : Int) == 2) = true by decide, cond_true]
    generalize hcc : (Int.tmod (IntKind.wrap .i64 (flN (zbC u0 u1 (ofL s) (ofH s)) (zbB u0 u1 (ofL s) (ofH s)) + flN (zbC v0 v1 (ofL s) (ofH s)) (zbB v0 v1 (ofL s) (ofH s)))) 2 != 0) = cc
    cases cc with
    | true =>
      rw [cond_true, i1, Option.bind_some, m0, Option.bind_some, m1, Option.bind_some, m2, Option.bind_some, m3, Option.bind_some, m4, Option.bind_some, m5, Option.bind_some, m6, Option.bind_some]
      simp only [zdn]
      rw [hB, ivI, hB, ivI]
      rfl
    | false =>
      rw [cond_false]
      simp only [zdn]
      rw [hB, ivI, hB, ivI]
      rfl
  · obtain ⟨ha, hb⟩ := hc2 (.inr rfl)
    obtain ⟨p, i0, j0, j1, j2, j3, j4, j5, j6⟩ := zBy hR ha hi
    obtain ⟨q, i1, m0, m1, m2, m3, m4, m5, m6⟩ := zBy hR hb hi
    have xo := znh hvo a.toNat
    have yo := znh hvo b.toNat
    have r0 : num (zC3 4607182418800017408 4607182418800017408 (ofL s) (ofH s)) := (zjc _ _).1
    have r1 : num (zCC 4607182418800017408 4607182418800017408 (ofL s) (ofH s)) := (zhd _ _).1
    have o1 := hO 4607182418800017408 (by decide)
    rw [zCU, zCt] at o1
    have pb : p.b < G.length := zE6 (a := GA.add p 0) j0
    have qb : q.b < G.length := zE6 (a := GA.add q 0) m0
    rw [show ((3 : Int) == 2) = false by decide, show ((3 : Int) == 3) = true by decide, cond_false, cond_true]
    rw [i0, Option.bind_some, if_pos (zp3 pb), j0, Option.bind_some, j1, Option.bind_some, j2, Option.bind_some, j3, Option.bind_some, j4, Option.bind_some, j5, Option.bind_some, j6, Option.bind_some]
    rw [i1, Option.bind_some, if_pos (zp3 qb), m0, Option.bind_some, m1, Option.bind_some, m2, Option.bind_some, m3, Option.bind_some, m4, Option.bind_some, m5, Option.bind_some, m6, Option.bind_some]
    rw [o1, zfY, hSu _ _ _ _ zAq zAq nL nH, zfY]
    rw [hSc _ _ _ _ _ _ _ _ xo.a0.1 xo.b0.1 xo.a1.1 xo.b1.1 xo.a2.1 xo.b2.1 r0 r1, zGl, hSc _ _ _ _ _ _ _ _ yo.a0.1 yo.b0.1 yo.a1.1 yo.b1.1 yo.a2.1 yo.b2.1 nL nH, zGl]
    rw [hA _ _ _ _ _ _ _ _ _ _ _ _ (zz _ _ _ _).1 (zy _ _ _ _).1 (zz _ _ _ _).1 (zy _ _ _ _).1 (zz _ _ _ _).1 (zy _ _ _ _).1 (zz _ _ _ _).1 (zy _ _ _ _).1 (zz _ _ _ _).1 (zy _ _ _ _).1 (zz _ _ _ _).1 (zy _ _ _ _).1, zGl, hB, ivI]
    rfl
  · have him := hc4 rfl
    obtain ⟨qs, P1, P2, P3⟩ := hP
    obtain ⟨m, rfl⟩ : ∃ m : Nat, im = (m : Int) := ⟨im.toNat, by omega⟩
    have hm : m < ps.length := by omega
    have hg := List.getElem?_eq_getElem hm
    have hq := List.getElem?_eq_getElem (show m < qs.length by omega)
    have po := P3 m _ _ hq hg
    obtain ⟨p, i0, j0, j1, j2⟩ := zEV P1 hq
    have nl := (zz u0 u1 (ofL s) (ofH s)).1
    have nh := (zy u0 u1 (ofL s) (ofH s)).1
    have ml := (zz v0 v1 (ofL s) (ofH s)).1
    have mh := (zy v0 v1 (ofL s) (ofH s)).1
    obtain ⟨G', k1, h1⟩ := hSa (ps[m]).w (ps[m]).h (ps[m]).px _ _ _ _ (hpo _ (List.getElem_mem hm)) nl nh ml mh (qs[m]).a (qs[m]).n (zj G) po.px.freeze
    rw [po.w] at j0
    rw [po.h] at j1
    rw [show ((4 : Int) == 2) = false by decide, show ((4 : Int) == 3) = false by decide, show ((4 : Int) == 4) = true by decide, cond_false, cond_false, cond_true]
    rw [i0, Option.bind_some, j0, Option.bind_some, j1, Option.bind_some, j2, Option.bind_some]
    rw [hM _ _ _ _ hu0 hu1 nL nH, zfY, hM _ _ _ _ hv0 hv1 nL nH, zfY]
    rw [h1]
    unfold vcs
    rw [zJg]
    unfold zmm
    simp only [show ((4 : Int) == 2) = false by decide, show ((4 : Int) == 3) = false by decide, show ((4 : Int) == 4) = true by decide, cond_true, cond_false, Int.toNat_natCast]
    rw [List.getD_eq_getElem?_getD, hg]
    rfl
  · have ha := hc5 rfl
    obtain ⟨p, i0, j0, j1, j2, j3, j4, j5, j6⟩ := zBy hR ha hi
    have xo := znh hvo a.toNat
    have pad : ∀ j, GA.add (GA.add p 0) j = GA.add p j := fun j => by simp [GA.add]
    rw [show ((5 : Int) == 2) = false by decide, show ((5 : Int) == 3) = false by decide, show ((5 : Int) == 4) = false by decide, show ((5 : Int) == 5) = true by decide, cond_false, cond_false, cond_false, cond_true]
    rw [i0, Option.bind_some]
    simp only [pad]
    rw [j0, Option.bind_some, j1, Option.bind_some, j2, Option.bind_some, j3, Option.bind_some, j4, Option.bind_some, j5, Option.bind_some]
    rw [hV c0 c1 c2 w0 w1 w2, zGl, hT _ _ _ _ _ _ _ _ _ _ _ _ xo.a0.1 xo.b0.1 xo.a1.1 xo.b1.1 xo.a2.1 xo.b2.1 (zaj w0).1 (zak w0).1 (zaj w1).1 (zak w1).1 (zaj w2).1 (zak w2).1, zGl, Option.bind_some, j6, Option.bind_some]
    rfl
end
end Go.LI.Film
namespace Go.LI.Film
open Go.Proofs.YtbjcipikclbecaaGreat Go Go.Proofs Go.LI Go.LI.Fl
def Tx.nil : Tx := ⟨0, 0, 0, 0, 0, 0, 0, 0⟩
def zgn (t : Tx) (i : Nat) (nd : List Bool) : List Bool :=
  bif nd.getD i false then bif t.k == 2 || t.k == 3 then (nd.set t.b.toNat true).set t.a.toNat true else bif t.k == 5 then nd.set t.a.toNat true else nd else nd
def zpv (ts : List Tx) : Nat → List Bool → List Bool
  | 0, nd => nd
  | i + 1, nd => zpv ts i (zgn (ts.getD i Tx.nil) i nd)
theorem zkz (t : Tx) (i : Nat) (nd : List Bool) : (zgn t i nd).length = nd.length := by
  unfold zgn
  cases nd.getD i false with
  | false => rfl
  | true =>
    cases t.k == 2 || t.k == 3 with
    | true => simp
    | false => cases t.k == 5 <;> simp
theorem zsa (ts : List Tx) : ∀ (i : Nat) (nd : List Bool), (zpv ts i nd).length = nd.length
  | 0, nd => rfl
  | i + 1, nd => by rw [zpv, zsa ts i, zkz]
def zkO (f : Tx → Vl → Vl → Vl) (ts : List Tx) (nd : List Bool) : Nat → Nat → List Vl → List Vl
  | 0, _, vs => vs
  | r + 1, i, vs => zkO f ts nd r (i + 1) (bif nd.getD i false then vs.set i (f (ts.getD i Tx.nil) (vs.getD (ts.getD i Tx.nil).a.toNat Vl.nil) (vs.getD (ts.getD i Tx.nil).b.toNat Vl.nil)) else vs)
def zFl (ts : List Tx) (n : Nat) : List Bool := zpv ts (n + 1) ((List.replicate (n + 1) false).set n true)
def zCl (f : Tx → Vl → Vl → Vl) (ts : List Tx) (n : Nat) : Vl := (zkO f ts (zFl ts n) (n + 1) 0 (List.replicate (n + 1) Vl.nil)).getD n Vl.nil
def evE (ts : List Tx) (m : Nat) (n : Int) : Int := bif decide (n < 0) || decide (n ≥ (ts.length : Int)) then 110 else (zov (m : Int) (ts.take (n.toNat + 1)) 0).2
def evV (ps : List Pi) (u0 u1 v0 v1 : Nat) (ts : List Tx) (n : Int) : Vl := bif evE ts ps.length n == 0 then zCl (zmm ps u0 u1 v0 v1) ts n.toNat else Vl.nil
theorem zwx {p : Int} : ∀ {ts : List Tx} {i : Nat}, (zov p ts i).2 = 0 → ∀ (j : Nat) (t : Tx), ts[j]? = some t → chk t ((i + j : Nat) : Int) p = 0
  | [], i, h, j, t, hj => by simp at hj
  | t0 :: ts, i, h, j, t, hj => by
    rw [zov] at h
    cases hc : (chk t0 i p != 0) with
    | true =>
      rw [hc, cond_true] at h
      simp only at h
      rw [h] at hc
      cases hc
    | false =>
      rw [hc, cond_false] at h
      cases j with
      | zero =>
        simp only [List.getElem?_cons_zero, Option.some.injEq] at hj
        subst hj
        simpa using hc
      | succ j =>
        rw [List.getElem?_cons_succ] at hj
        have := zwx h j t hj
        rwa [show i + 1 + j = i + (j + 1) by omega] at this
theorem zBr {nd : List Bool} {o : Nat} (h : o < nd.length) : zcq (nd.map IV.bool) o [.bool true] = (nd.set o true).map IV.bool := by
  unfold zcq
  rw [List.set_eq_take_append_cons_drop, if_pos h, List.map_append, List.map_cons, List.map_take, List.map_drop]
  simp
theorem RP.pre {α : Type} {f : α → List IV} {G : GH} {a : Option GA} {n m : Nat} {ps : List α} (h : RP f G a n ps) (hm : m ≤ n) : RP f G a m (ps.take m) := by
  refine ⟨by rw [List.length_take, h.1]; omega, fun hp => ?_⟩
  obtain ⟨b, e, rest, h1, h2⟩ := h.2 (by omega)
  refine ⟨b, e, ((ps.drop m).map f).flatten ++ rest, h1, ?_⟩
  rw [← List.append_assoc, ← List.flatten_append, ← List.map_append, List.take_append_drop]
  exact h2
theorem RP.ofK {α : Type} {f : α → List IV} {G0 G : GH} {a : Option GA} {n : Nat} {ps : List α} (h : RP f G0 a n ps) (k : z9 G0.length G0 G) : RP f G a n ps := h.keep k (Nat.le_refl _)
theorem znZ {α : Type} {f : α → List IV} {c : Nat} (hf : ∀ x, (f x).length = c) : ∀ {ps : List α} {i : Nat} {v : α}, i < ps.length → zcq ((ps.map f).flatten) (i * c) (f v) = ((ps.set i v).map f).flatten
  | p :: ps, 0, v, _ => by
    unfold zcq
    have : ∀ l : List IV, (f p ++ l).drop (f p).length = l := fun l => by simp
    rw [Nat.zero_mul, List.take_zero, List.nil_append, Nat.zero_add, hf, ← hf p, List.map_cons, List.flatten_cons, this]
    rfl
  | p :: ps, i + 1, v, h => by
    have ih := znZ hf (ps := ps) (i := i) (v := v) (by simpa using h)
    unfold zcq at ih ⊢
    rw [List.set_cons_succ, List.map_cons, List.map_cons, List.flatten_cons, List.flatten_cons, ← ih]
    have e1 : (i + 1) * c = (f p).length + i * c := by rw [hf, Nat.add_mul]; omega
    rw [e1, List.take_length_add_append, Nat.add_assoc, List.drop_length_add_append]
    simp only [List.append_assoc]
section
variable {R : Type} {O : Ora R}
theorem zz0 {G : GH} {bn m : Nat} {nd : List Bool} (h : G[bn]? = some ⟨nd.map IV.bool, 4, 1⟩) (hm : nd.length = m) {x : Int} (hx : 0 ≤ x ∧ x < (m : Int)) :
    ∃ G', zbj (some (⟨bn, 0⟩ : GA)) m x 1 = some ⟨bn, x.toNat⟩ ∧ gst G ⟨bn, x.toNat⟩ [.bool true] = some G' ∧ G'[bn]? = some ⟨(nd.set x.toNat true).map IV.bool, 4, 1⟩ ∧ (∀ i, i ≠ bn → G'[i]? = G[i]?) ∧ G'.length = G.length := by
  obtain ⟨o, rfl⟩ : ∃ o : Nat, x = (o : Int) := ⟨x.toNat, by omega⟩
  have ho : o < nd.length := by omega
  obtain ⟨G', h1, h2, h3, h4⟩ := zAc (o := o) h (vs := [.bool true]) (by simp; omega)
  refine ⟨G', ?_, h1, ?_, h3, h4⟩
  · simp only [zbj, GA.add, Int.toNat_natCast, Nat.zero_add, Nat.mul_one]
    rw [if_pos ⟨by omega, by omega⟩]
  · rw [Int.toNat_natCast, h2, zBr ho]
theorem zF9 {F : Nat} (hF : 1 ≤ F) {a : Option GA} {n m p : Nat} {ts : List Tx} {G0 : GH} {bn : Nat} (hT : RP tcs G0 a n ts) (hmn : m ≤ n) (hm : m < 2 ^ 60) (hck : ∀ (j : Nat) (t : Tx), j < m → ts[j]? = some t → ChkOk t (j : Int) (p : Int)) (hb : G0.length ≤ bn) :
    ∀ (i : Nat) (G : GH) (nd : List Bool), i ≤ m → nd.length = m → z9 G0.length G0 G → G[bn]? = some ⟨nd.map IV.bool, 4, 1⟩ →
    ∃ G', z9 G0.length G0 G' ∧ G'[bn]? = some ⟨(zpv ts i nd).map IV.bool, 4, 1⟩ ∧ (∀ b, b ≠ bn → G'[b]? = G[b]?) ∧ G'.length = G.length ∧ ∀ (K0 : OG → Nat → GH → Option R) (j : Nat), i < j →
      zm O F K0 j a n (some ⟨bn, 0⟩) m ((i : Int) - 1) G = K0 (some ⟨bn, 0⟩) m G' := by
  intro i
  induction i with
  | zero =>
    intro G nd hi hnd kG hN
    refine ⟨G, kG, hN, fun _ _ => rfl, rfl, fun K0 j hj => ?_⟩
    obtain ⟨j, rfl⟩ : ∃ j', j = j' + 1 := ⟨j - 1, by omega⟩
    simp only [zm, zb8]
    rw [decide_eq_false (by omega), cond_false]
  | succ i ih =>
    intro G nd hi hnd kG hN
    have hl : i < ts.length := by have := hT.1; omega
    have hg := List.getElem?_eq_getElem hl
    have hgd : ts.getD i Tx.nil = ts[i] := by rw [List.getD_eq_getElem?_getD, hg]; rfl
    have hc := hck i _ (by omega) hg
    have e1 : ((i + 1 : Nat) : Int) - 1 = (i : Int) := by omega
    have bl : BL G bn (nd.map IV.bool) 4 := ⟨1, by decide, hN⟩
    have hi' : i < nd.length := by omega
    have hget : nd.getD i false = nd[i] := by rw [List.getD_eq_getElem?_getD, List.getElem?_eq_getElem hi']; rfl
    have hb1 := bl.boo (i := i) (x := nd[i]) (by rw [List.getElem?_map, List.getElem?_eq_getElem hi']; rfl)
    have x1 : zbj (some (⟨bn, 0⟩ : GA)) m (i : Int) 1 = some ⟨bn, i⟩ := by
      simp only [zbj, GA.add, Int.toNat_natCast, Nat.zero_add, Nat.mul_one]
      rw [if_pos ⟨by omega, by omega⟩]
    obtain ⟨q, l0, l1, -, -, -, l5, l6, -, -⟩ := zvd (hT.ofK kG) hg
    have w1 : IntKind.wrap .i64 ((i : Int) - 1) = (i : Int) - 1 := zF (by omega) (by omega)
    have next : ∀ (G1 : GH) (nd1 : List Bool), nd1 = zgn ts[i] i nd → (∀ b, b ≠ bn → G1[b]? = G[b]?) → G1.length = G.length → G1[bn]? = some ⟨nd1.map IV.bool, 4, 1⟩ →
        (∀ (K0 : OG → Nat → GH → Option R) (j : Nat), zm O F K0 (j + 1) a n (some ⟨bn, 0⟩) m (((i + 1 : Nat) : Int) - 1) G = zm O F K0 j a n (some ⟨bn, 0⟩) m ((i : Int) - 1) G1) →
        ∃ G', z9 G0.length G0 G' ∧ G'[bn]? = some ⟨(zpv ts (i + 1) nd).map IV.bool, 4, 1⟩ ∧ (∀ b, b ≠ bn → G'[b]? = G[b]?) ∧ G'.length = G.length ∧ ∀ (K0 : OG → Nat → GH → Option R) (j : Nat), i + 1 < j →
          zm O F K0 j a n (some ⟨bn, 0⟩) m (((i + 1 : Nat) : Int) - 1) G = K0 (some ⟨bn, 0⟩) m G' := by
      intro G1 nd1 h1 h2 h3 h4 h5
      have k1 : z9 G0.length G0 G1 := ⟨by rw [h3]; exact kG.1, fun b hb' => by rw [h2 b (by omega), kG.2 b hb']⟩
      obtain ⟨G', q1, q2, q3, q4, q5⟩ := ih G1 nd1 (by omega) (by rw [h1, zkz, hnd]) k1 h4
      refine ⟨G', q1, ?_, fun b hb' => (q3 b hb').trans (h2 b hb'), q4.trans h3, fun K0 j hj => ?_⟩
      · rw [zpv, hgd, ← h1]; exact q2
      · obtain ⟨j, rfl⟩ : ∃ j', j = j' + 1 := ⟨j - 1, by omega⟩
        rw [h5, q5 K0 j (by omega)]
    have unf : ∀ (K0 : OG → Nat → GH → Option R) (j : Nat), zm O F K0 (j + 1) a n (some ⟨bn, 0⟩) m (((i + 1 : Nat) : Int) - 1) G = bif !nd[i] then zm O F K0 j a n (some ⟨bn, 0⟩) m ((i : Int) - 1) G else
        z8 O F (zH O (zm O F K0 j) K0) a n (some ⟨bn, 0⟩) m (i : Int) ts[i].k G := by
      intro K0 j
      rw [e1, zm]
      simp only [zb8]
      rw [decide_eq_true (show (i : Int) ≥ 0 by omega), cond_true]
      simp only [zb9, zaN hF, zb5, zez]
      rw [x1, Option.bind_some, hb1, Option.bind_some]
      cases nd[i] with
      | false => rw [Bool.not_false, cond_true, cond_true, zH, w1]
      | true => rw [Bool.not_true, cond_false, cond_false, l0, Option.bind_some, l1, Option.bind_some]
    cases hn : nd[i] with
    | false =>
      refine next G nd ?_ (fun _ _ => rfl) rfl hN fun K0 j => ?_
      · unfold zgn; rw [hget, hn]; rfl
      · rw [unf, hn, Bool.not_false, cond_true]
    | true =>
      cases h23 : (ts[i].k == 2 || ts[i].k == 3) with
      | true =>
        have hh : ts[i].k = 2 ∨ ts[i].k = 3 := by simpa using h23
        obtain ⟨ha, hbb⟩ := hc.two hh
        obtain ⟨G1, y1, y2, y3, y4, y5⟩ := zz0 hN hnd (x := ts[i].b) ⟨hbb.1, by omega⟩
        obtain ⟨G2, z1, z2, z3, z4, z5⟩ := zz0 y3 (by rw [List.length_set, hnd]) (x := ts[i].a) ⟨ha.1, by omega⟩
        have kG1 : z9 G0.length G0 G1 := ⟨by rw [y5]; exact kG.1, fun b hb' => by rw [y4 b (by omega), kG.2 b hb']⟩
        obtain ⟨q', l0', -, -, -, -, l5', -, -, -⟩ := zvd (hT.ofK kG1) hg
        refine next G2 _ ?_ (fun b hb' => (z4 b hb').trans (y4 b hb')) (z5.trans y5) z3 fun K0 j => ?_
        · unfold zgn; rw [hget, hn, h23]; rfl
        · rw [unf, hn, Bool.not_true, cond_false]
          have fin2 : zby O (zaL O (zH O (zm O F K0 j) K0)) (zbt O (zH O (zm O F K0 j) K0)) a n (some ⟨bn, 0⟩) m (i : Int) G = zm O F K0 j a n (some ⟨bn, 0⟩) m ((i : Int) - 1) G2 := by
            unfold zby
            rw [l0, Option.bind_some, l6, Option.bind_some, y1, Option.bind_some, y2, Option.bind_some]
            unfold zaL
            rw [l0', Option.bind_some, l5', Option.bind_some, z1, Option.bind_some, z2, Option.bind_some, zH, w1]
          simp only [z8, zaN hF, zau, za7, zat, zav, za9, zaw, zay, za8]
          rcases hh with hh | hh
          · rw [hh, show ((2 : Int) == 2) = true by decide, cond_true, cond_true, zbz, fin2]
          · rw [hh, show ((3 : Int) == 2) = false by decide, show ((3 : Int) == 3) = true by decide, cond_false, cond_true, zbz, fin2]
      | false =>
        have h2 : (ts[i].k == 2) = false := by cases h : ts[i].k == 2 with | false => rfl | true => rw [h] at h23; cases h23
        have h3 : (ts[i].k == 3) = false := by cases h : ts[i].k == 3 with | false => rfl | true => rw [h, Bool.or_true] at h23; cases h23
        cases h5 : (ts[i].k == 5) with
        | true =>
          have ha := hc.sc (by simpa using h5)
          obtain ⟨G2, z1, z2, z3, z4, z5⟩ := zz0 hN hnd (x := ts[i].a) ⟨ha.1, by omega⟩
          refine next G2 _ ?_ z4 z5 z3 fun K0 j => ?_
          · unfold zgn; rw [hget, hn, h23, h5]; rfl
          · rw [unf, hn, Bool.not_true, cond_false]
            simp only [z8, zaN hF, zau, za7, zat, zav, za9, zaw, zay, za8]
            rw [h2, h3, cond_false, cond_false, zbr, h5, cond_true, zdG]
            unfold zaL
            rw [l0, Option.bind_some, l5, Option.bind_some, z1, Option.bind_some, z2, Option.bind_some, zH, w1]
        | false =>
          refine next G nd ?_ (fun _ _ => rfl) rfl hN fun K0 j => ?_
          · unfold zgn; rw [hget, hn, h23, h5]; rfl
          · rw [unf, hn, Bool.not_true, cond_false]
            simp only [z8, zaN hF, zau, za7, zat, zav, za9, zaw, zay, za8]
            rw [h2, h3, cond_false, cond_false, zbr, h5, cond_false, zdA, zbt, zH, w1]
end
section
variable {R : Type}
abbrev VNd (O : Ora R) : Prop := ∀ (a : Option GA) (n m p : Nat) (ts : List Tx) (G : GH), RP tcs G a n ts → m + 1 ≤ n → n ≤ 200 → (∀ (j : Nat) (t : Tx), j < m + 1 → ts[j]? = some t → ChkOk t (j : Int) (p : Int)) →
  ∃ G', z9 G.length G G' ∧ G'[G.length]? = some ⟨(zFl ts m).map IV.bool, 4, 1⟩ ∧ G'.length = G.length + 1 ∧ ∀ (k : IV → GH → Option R), O ze9 [.slice a n, iL (m : Int)] G k = k (.slice (some ⟨G.length, 0⟩) (m + 1)) G'
theorem vNd {F n : Nat} (hF : 1000 ≤ F) (hn : 1 ≤ n) : VNd (runC (R := R) Tryz.prog lo0 F n) := by
  obtain ⟨n, rfl⟩ : ∃ j, n = j + 1 := ⟨n - 1, by omega⟩
  intro a nn m p ts G hT hm hnn hck
  have h0 : (zac G (List.replicate (m + 1) [IV.bool false]).flatten 4)[G.length]? = some ⟨(List.replicate (m + 1) false).map IV.bool, 4, 1⟩ := by
    rw [zhr]
    congr 2
    rw [List.map_replicate]
    induction (m + 1) with
    | zero => rfl
    | succ j ih => rw [List.replicate_succ, List.flatten_cons, ih]; rfl
  have k0 : z9 G.length G (zac G (List.replicate (m + 1) [IV.bool false]).flatten 4) := zaM G _ 4 (Nat.le_refl _)
  have l0 := zp G (List.replicate (m + 1) [IV.bool false]).flatten 4
  obtain ⟨G2, z1, z2, z3, z4, z5⟩ := zz0 h0 (m := m + 1) (by rw [List.length_replicate]) (x := (m : Int)) ⟨by omega, by omega⟩
  have k2 : z9 G.length G G2 := ⟨by omega, fun b hb => by rw [z4 b (by omega), k0.2 b hb]⟩
  rw [Int.toNat_natCast] at z1 z2 z3
  obtain ⟨G', q1, q2, q3, q4, q5⟩ := zF9 (O := runC (R := R) Tryz.prog lo0 F n) (F := F) (by omega) hT hm (by omega) hck (Nat.le_refl _) (m + 1) G2 _ (Nat.le_refl _) (by rw [List.length_set, List.length_replicate]) k2 z3
  refine ⟨G', q1, q2, by omega, fun k => ?_⟩
  have w1 : IntKind.wrap .i64 ((m : Int) + 1) = ((m + 1 : Nat) : Int) := zF (by omega) (by omega)
  rw [ztc, zst]
  unfold zgj
  rw [w1, Int.toNat_natCast]
  rw [show (decide (0 ≤ ((m + 1 : Nat) : Int) ∧ ((m + 1 : Nat) : Int) ≤ ((m + 1 : Nat) : Int) ∧ ((m + 1 : Nat) : Int) * 1 ≤ (zbo : Int) ∧ ((m + 1 : Nat) : Int) ≤ (zbo : Int)) && true && true) = true by
    unfold zbo; rw [Bool.and_true, Bool.and_true, decide_eq_true_eq]; refine ⟨by omega, by omega, by omega, by omega⟩]
  rw [cond_true, show zaA G = ⟨G.length, 0⟩ from rfl, z1, Option.bind_some, z2, Option.bind_some]
  unfold zb0
  have e1 : ((m : Nat) : Int) = ((m + 1 : Nat) : Int) - 1 := by omega
  rw [e1, q5 _ F (by omega)]
  rfl
end
end Go.LI.Film
namespace Go.LI.Film
open Go.Proofs.YtbjcipikclbecaaGreat Go Go.Proofs Go.LI Go.LI.Fl
theorem PR.len {G : GH} {a : Option GA} {n : Nat} {ps : List Pi} (h : PR G a n ps) : ps.length = n := by
  obtain ⟨qs, h1, h2, _⟩ := h
  rw [← h2, h1.1]
theorem zr4 (f : Tx → Vl → Vl → Vl) (ts : List Tx) (nd : List Bool) : ∀ (r i : Nat) (vs : List Vl), (zkO f ts nd r i vs).length = vs.length
  | 0, i, vs => rfl
  | r + 1, i, vs => by
    rw [zkO, zr4 f ts nd r]
    cases nd.getD i false with
    | true => rw [cond_true, List.length_set]
    | false => rfl
def TsW (ts : List Tx) : Prop := ∀ t ∈ ts, t.w
theorem TsW.at {ts : List Tx} (h : TsW ts) (i : Nat) : (ts.getD i Tx.nil).w := by
  rw [List.getD_eq_getElem?_getD]
  cases hi : ts[i]? with
  | none => exact ⟨by decide, by decide, by decide, by decide⟩
  | some t => exact h t (List.mem_of_getElem? hi)
theorem zFt {G : GH} {bv m i : Nat} {vs : List Vl} (h : G[bv]? = some ⟨(vs.map vcs).flatten, 61, 1⟩) (hm : vs.length = m) (hi : i < m) (v : Vl) :
    ∃ G', zbj (some (⟨bv, 0⟩ : GA)) m (i : Int) 7 = some ⟨bv, i * 7⟩ ∧ gst G ⟨bv, i * 7⟩ (vcs v) = some G' ∧ G'[bv]? = some ⟨((vs.set i v).map vcs).flatten, 61, 1⟩ ∧ (∀ b, b ≠ bv → G'[b]? = G[b]?) ∧ G'.length = G.length := by
  obtain ⟨G', h1, h2, h3, h4⟩ := zAc (o := i * 7) h (vs := vcs v) (by rw [zfU zi3, zi3]; omega)
  refine ⟨G', ?_, h1, ?_, h3, h4⟩
  · simp only [zbj, GA.add, Int.toNat_natCast, Nat.zero_add]
    rw [if_pos ⟨by omega, by omega⟩]
  · rw [h2, znZ zi3 (by omega)]
section
variable {R : Type} {O : Ora R}
theorem zFT (hO : zIP O) {a pa : Option GA} {n pn m : Nat} {ts : List Tx} {ps : List Pi} {G0 : GH} {bv bn : Nat} {nd : List Bool} {u0 u1 v0 v1 : Nat} {s2 : Int} (hT : RP tcs G0 a n ts) (hP : PR G0 pa pn ps) (ht : TsW ts) (hp : ∀ p ∈ ps, p.w') (hu0 : num u0) (hu1 : num u1) (hv0 : num v0) (hv1 : num v1)
    (hmn : m ≤ n) (hm : m < 2 ^ 60) (hck : ∀ (j : Nat) (t : Tx), j < m → ts[j]? = some t → chk t (j : Int) (ps.length : Int) = 0) (hbv : G0.length ≤ bv) (hbn : G0.length ≤ bn) (hne : bv ≠ bn) (hnd : nd.length = m) :
    ∀ (r i : Nat) (G : GH) (vs : List Vl), i + r = m → vs.length = m → (∀ v ∈ vs, v.ok) → z9 G0.length G0 G → G[bv]? = some ⟨(vs.map vcs).flatten, 61, 1⟩ → G[bn]? = some ⟨nd.map IV.bool, 4, 1⟩ →
    ∃ G', z9 G0.length G0 G' ∧ G'[bv]? = some ⟨((zkO (zmm ps u0 u1 v0 v1) ts nd r i vs).map vcs).flatten, 61, 1⟩ ∧ ∀ (K0 : zIw R) (j : Nat), r < j →
      zT O K0 j a n pa pn s2 (some ⟨bv, 0⟩) m (some ⟨bn, 0⟩) m (m : Int) (i : Int) u0 u1 v0 v1 0 0 0 0 0 0 G = K0 s2 (some ⟨bv, 0⟩) m u0 u1 v0 v1 0 0 0 0 0 0 G' := by
  intro r
  induction r with
  | zero =>
    intro i G vs hi hvs hok kG hV hN
    refine ⟨G, kG, hV, fun K0 j hj => ?_⟩
    obtain ⟨j, rfl⟩ : ∃ j', j = j' + 1 := ⟨j - 1, by omega⟩
    simp only [zT, zbD]
    rw [decide_eq_false (by omega), cond_false]
  | succ r ih =>
    intro i G vs hi hvs hok kG hV hN
    have hl : i < ts.length := by have := hT.1; omega
    have hg := List.getElem?_eq_getElem hl
    have hgd : ts.getD i Tx.nil = ts[i] := by rw [List.getD_eq_getElem?_getD, hg]; rfl
    have bl : BL G bn (nd.map IV.bool) 4 := ⟨1, by decide, hN⟩
    have hi' : i < nd.length := by omega
    have hget : nd.getD i false = nd[i] := by rw [List.getD_eq_getElem?_getD, List.getElem?_eq_getElem hi']; rfl
    have hb1 := bl.boo (i := i) (x := nd[i]) (by rw [List.getElem?_map, List.getElem?_eq_getElem hi']; rfl)
    have x1 : zbj (some (⟨bn, 0⟩ : GA)) m (i : Int) 1 = some ⟨bn, i⟩ := by
      simp only [zbj, GA.add, Int.toNat_natCast, Nat.zero_add, Nat.mul_one]
      rw [if_pos ⟨by omega, by omega⟩]
    have w1 : IntKind.wrap .i64 ((i : Int) + 1) = ((i + 1 : Nat) : Int) := zF (by omega) (by omega)
    obtain ⟨q, l0, l1, l2, l3, l4, l5, l6, l7, l8⟩ := zvd (hT.ofK kG) hg
    cases hn : nd[i] with
    | false =>
      obtain ⟨G', q1, q2, q3⟩ := ih (i + 1) G vs (by omega) hvs hok kG hV hN
      refine ⟨G', q1, ?_, fun K0 j hj => ?_⟩
      · rw [zkO, hget, hn, cond_false]; exact q2
      · obtain ⟨j, rfl⟩ : ∃ j', j = j' + 1 := ⟨j - 1, by omega⟩
        rw [← q3 K0 j (by omega)]
        simp only [zT, zbD]
        rw [decide_eq_true (by omega), cond_true, x1, Option.bind_some, hb1, Option.bind_some, hn, cond_false, w1]
    | true =>
      have hone := hO ps u0 u1 v0 v1 ts[i] vs i (ht _ (List.getElem_mem hl)) (hck i _ (by omega) hg) (by omega) hok hp hu0 hu1 hv0 hv1 pa (some ⟨bv, 0⟩) pn m G (hP.keep kG (Nat.le_refl _)) ⟨hvs, fun _ => ⟨bv, 61, [], rfl, 1, by decide, by rw [List.append_nil]; exact hV⟩⟩
      have hnew : ∀ v ∈ vs.set i (zmm ps u0 u1 v0 v1 ts[i] (vs.getD ts[i].a.toNat Vl.nil) (vs.getD ts[i].b.toNat Vl.nil)), v.ok := by
        intro v hv
        rcases List.mem_or_eq_of_mem_set hv with h1 | h1
        · exact hok v h1
        · subst h1
          exact zDm hp (ht _ (List.getElem_mem hl)) (znh hok _) (znh hok _)
      generalize hvv : zmm ps u0 u1 v0 v1 ts[i] (vs.getD ts[i].a.toNat Vl.nil) (vs.getD ts[i].b.toNat Vl.nil) = v at hone hnew
      obtain ⟨G1, y1, y2, y3, y4, y5⟩ := zFt hV hvs (i := i) (by omega) v
      have k1 : z9 G0.length G0 G1 := ⟨by rw [y5]; exact kG.1, fun b hb' => by rw [y4 b (by omega), kG.2 b hb']⟩
      obtain ⟨G', q1, q2, q3⟩ := ih (i + 1) G1 (vs.set i v) (by omega) (by rw [List.length_set, hvs]) hnew k1 y3 (by rw [y4 bn (Ne.symm hne)]; exact hN)
      refine ⟨G', q1, ?_, fun K0 j hj => ?_⟩
      · rw [zkO, hget, hn, cond_true, hgd, hvv]; exact q2
      · obtain ⟨j, rfl⟩ : ∃ j', j = j' + 1 := ⟨j - 1, by omega⟩
        rw [← q3 K0 j (by omega)]
        unfold tcs at hone
        unfold vcs at hone y2
        simp only [zT, zbD]
        rw [decide_eq_true (by omega), cond_true, x1, Option.bind_some, hb1, Option.bind_some, hn, cond_true]
        rw [l0, Option.bind_some, l1, Option.bind_some, l2, Option.bind_some, l3, Option.bind_some, l4, Option.bind_some, l5, Option.bind_some, l6, Option.bind_some, l7, Option.bind_some, l8, Option.bind_some]
        rw [hone, zJg, y1, Option.bind_some, y2, Option.bind_some, w1]
theorem zEw (n : Nat) : (List.replicate n (vcs Vl.nil)).flatten = ((List.replicate n Vl.nil).map vcs).flatten := by rw [List.map_replicate]
abbrev VEv (O : Ora R) : Prop := ∀ (ts : List Tx) (ps : List Pi) (u0 u1 v0 v1 : Nat) (at' : Int), TsW ts → (∀ p ∈ ps, p.w') → num u0 → num u1 → num v0 → num v1 → ts.length ≤ 200 → ∀ (a pa : Option GA) (n pn : Nat) (G : GH), RP tcs G a n ts → PR G pa pn ps → ztU G a 47 = true →
  ∃ G', z9 G.length G G' ∧ ∀ (k : IV → GH → Option R), O zem [.slice a n, .slice pa pn, iL at', S2 u0 u1, S2 v0 v1] G k =
    k (.tuple [S6 (evV ps u0 u1 v0 v1 ts at').l0 (evV ps u0 u1 v0 v1 ts at').h0 (evV ps u0 u1 v0 v1 ts at').l1 (evV ps u0 u1 v0 v1 ts at').h1 (evV ps u0 u1 v0 v1 ts at').l2 (evV ps u0 u1 v0 v1 ts at').h2, iL (evV ps u0 u1 v0 v1 ts at').s, iL (evE ts ps.length at')]) G'
theorem vEv {F n : Nat} (hF : 1000 ≤ F) (hn : 15 ≤ n) : VEv (runC (R := R) Tryz.prog lo0 F n) := by
  obtain ⟨n, rfl⟩ : ∃ j, n = j + 1 := ⟨n - 1, by omega⟩
  obtain ⟨F4, rfl⟩ : ∃ F', F = F' + 4 := ⟨F - 4, by omega⟩
  have hC := zJt (R := R) (F := F4 + 4) (n := n) hF (by omega)
  have hNd := vNd (R := R) (F := F4 + 4) (n := n) hF (by omega)
  have hO := zJw (R := R) (F := F4) (n := n) (by omega)
  generalize hFF : F4 + 4 = F at *
  intro ts ps u0 u1 v0 v1 at' ht hp hu0 hu1 hv0 hv1 hlen a pa nn pn G hT hP hcut
  have hn1 := hT.1
  have hpl := hP.len
  have ent : ∀ (k : IV → GH → Option R), runC (R := R) Tryz.prog lo0 F (n + 1) zem [.slice a nn, .slice pa pn, iL at', S2 u0 u1, S2 v0 v1] G k =
      bif decide (at' < 0) || decide (at' ≥ (nn : Int)) then k (.tuple [S6 0 0 0 0 0 0, iL 0, iL 110]) G else zcB (runC Tryz.prog lo0 F n) k (zaT (runC Tryz.prog lo0 F n) F k) a nn pa pn at' false u0 u1 v0 v1 0 0 0 0 0 0 G := by
    intro k
    rw [zuX, zuF]
    simp only [ziS, zdp, zaN (show 1 ≤ F by omega), zdt, zf9]
    cases decide (at' < 0) with
    | true => rw [cond_true, Bool.true_or, cond_true]; rfl
    | false =>
      rw [cond_false, Bool.false_or]
      cases decide (at' ≥ (nn : Int)) with
      | true => rw [cond_true]; rfl
      | false => rw [cond_false]
  unfold evV evE
  rw [hn1]
  cases hout : (decide (at' < 0) || decide (at' ≥ (nn : Int))) with
  | true =>
    refine ⟨G, z9.refl _ _, fun k => ?_⟩
    rw [ent, hout]
    rfl
  | false =>
    rw [cond_false]
    simp only [Bool.or_eq_false_iff, decide_eq_false_iff_not] at hout
    obtain ⟨m, rfl⟩ : ∃ m : Nat, at' = (m : Int) := ⟨at'.toNat, by omega⟩
    have hm : m + 1 ≤ nn := by omega
    have w1 : IntKind.wrap .i64 ((m : Int) + 1) = ((m + 1 : Nat) : Int) := zF (by omega) (by omega)
    have d2 : (decide (0 ≤ (0 : Int) ∧ (0 : Int) ≤ ((m + 1 : Nat) : Int) ∧ ((m + 1 : Nat) : Int) ≤ (nn : Int)) && ztU G a 47) = true := by
      rw [hcut, Bool.and_true, decide_eq_true_eq]; omega
    have hcu : zFd a (Int.toNat (0 : Int) * 8) = a := by cases a with | none => rfl | some b => simp [zFd, GA.add]
    obtain ⟨G1, K1, h1⟩ := hC a pa (m + 1) pn (ts.take (m + 1)) G (hT.pre hm) (fun t h => ht t (List.mem_of_mem_take h)) (by omega)
    rw [Int.toNat_natCast]
    rw [hpl]
    have enter : ∀ (k : IV → GH → Option R), runC (R := R) Tryz.prog lo0 F (n + 1) zem [.slice a nn, .slice pa pn, iL (m : Int), S2 u0 u1, S2 v0 v1] G k =
        bif (zov (pn : Int) (ts.take (m + 1)) 0).2 != 0 then k (.tuple [S6 0 0 0 0 0 0, iL 0, iL (zov (pn : Int) (ts.take (m + 1)) 0).2]) G1 else
        runC (R := R) Tryz.prog lo0 F n ze9 [.slice a nn, iL (m : Int)] (zac G1 ((List.replicate (m + 1) Vl.nil).map vcs).flatten 61) fun v6 G7 => (zn1 v6).bind fun x8 =>
          zaT (runC Tryz.prog lo0 F n) F k a nn pa pn (m : Int) (some ⟨G1.length, 0⟩) (m + 1) x8.1 x8.2 (x8.2 : Int) (0 : Int) u0 u1 v0 v1 0 0 0 0 0 0 G7 := by
      intro k
      rw [ent, decide_eq_false (show ¬ (m : Int) < 0 by omega), decide_eq_false (show ¬ (m : Int) ≥ (nn : Int) by omega), Bool.or_self, cond_false]
      unfold zcB
      rw [cond_false, w1, d2, cond_true, hcu, Int.toNat_natCast, show m + 1 - Int.toNat (0 : Int) = m + 1 from rfl, h1, zuB]
      rw [show (decide (0 ≤ ((m + 1 : Nat) : Int) ∧ ((m + 1 : Nat) : Int) ≤ ((m + 1 : Nat) : Int) ∧ ((m + 1 : Nat) : Int) * 56 ≤ (zbo : Int) ∧ ((m + 1 : Nat) : Int) ≤ (zbo : Int)) && true && true) = true by
        unfold zbo; rw [Bool.and_true, Bool.and_true, decide_eq_true_eq]; refine ⟨by omega, by omega, by omega, by omega⟩]
      rw [cond_true, ← zEw]
      rfl
    cases he : ((zov (pn : Int) (ts.take (m + 1)) 0).2 == 0) with
    | false =>
      have he' : ((zov (pn : Int) (ts.take (m + 1)) 0).2 != 0) = true := by unfold bne; rw [he]; rfl
      refine ⟨G1, K1, fun k => ?_⟩
      rw [enter, he', cond_true]
      rfl
    | true =>
      have he' : ((zov (pn : Int) (ts.take (m + 1)) 0).2 != 0) = false := by unfold bne; rw [he]; rfl
      have he0 : (zov (pn : Int) (ts.take (m + 1)) 0).2 = 0 := by simpa using he
      have hck : ∀ (j : Nat) (t : Tx), j < m + 1 → ts[j]? = some t → chk t (j : Int) (pn : Int) = 0 := fun j t hj hjt => by
        have := zwx he0 j t (by rw [List.getElem?_take, if_pos hj]; exact hjt)
        rwa [Nat.zero_add] at this
      have K2 : z9 G.length G (zac G1 ((List.replicate (m + 1) Vl.nil).map vcs).flatten 61) := K1.trans (zaM G1 _ 61 K1.1)
      have hv0' := zhr G1 ((List.replicate (m + 1) Vl.nil).map vcs).flatten 61
      have hl2 := zp G1 ((List.replicate (m + 1) Vl.nil).map vcs).flatten 61
      generalize zac G1 ((List.replicate (m + 1) Vl.nil).map vcs).flatten 61 = G2 at *
      obtain ⟨G3, K3, hN3, hl3, h3⟩ := hNd a nn m pn ts G2 (hT.ofK K2) hm (by omega) (fun j t hj hjt => zzA (hck j t hj hjt))
      have K03 : z9 G.length G G3 := K2.trans (K3.mono K2.1)
      have hvv : ∀ v ∈ List.replicate (m + 1) Vl.nil, v.ok := fun v hv => by
        rw [List.mem_replicate] at hv
        rw [hv.2]
        exact Vl.ok_nil
      have hlt : G1.length < G2.length := by omega
      obtain ⟨G4, K4, hV4, h4⟩ := zFT hO (s2 := (m : Int)) hT hP ht hp hu0 hu1 hv0 hv1 hm (by omega) (by rw [hpl]; exact hck) K1.1 (by have := K1.1; omega) (by omega) (nd := zFl ts m) (by unfold zFl; rw [zsa, List.length_set, List.length_replicate])
        (m + 1) 0 G3 (List.replicate (m + 1) Vl.nil) (by omega) (by rw [List.length_replicate]) hvv K03 (by rw [K3.2 _ hlt]; exact hv0') hN3
      refine ⟨G4, K4, fun k => ?_⟩
      rw [enter, he', cond_false, h3]
      rw [show zn1 (.slice (some (⟨G2.length, 0⟩ : GA)) (m + 1)) = some (some ⟨G2.length, 0⟩, m + 1) from rfl, Option.bind_some]
      unfold zaT
      simp only
      rw [show (0 : Int) = ((0 : Nat) : Int) from rfl, h4 _ F (by omega)]
      have hlenR : (zkO (zmm ps u0 u1 v0 v1) ts (zFl ts m) (m + 1) 0 (List.replicate (m + 1) Vl.nil)).length = m + 1 := by rw [zr4, List.length_replicate]
      have hRP : RP vcs G4 (some ⟨G1.length, 0⟩) (m + 1) (zkO (zmm ps u0 u1 v0 v1) ts (zFl ts m) (m + 1) 0 (List.replicate (m + 1) Vl.nil)) := ⟨hlenR, fun _ => ⟨G1.length, 61, [], rfl, 1, by decide, by rw [List.append_nil]; exact hV4⟩⟩
      obtain ⟨q, i0, j0, j1, j2, j3, j4, j5, j6⟩ := zBy hRP (x := (m : Int)) (i := m + 1) ⟨by omega, by omega⟩ (by omega)
      have pad : ∀ j, GA.add (GA.add q 0) j = GA.add q j := fun j => by simp [GA.add]
      unfold zeY
      rw [i0, Option.bind_some]
      simp only [pad]
      rw [j0, Option.bind_some, j1, Option.bind_some, j2, Option.bind_some, j3, Option.bind_some, j4, Option.bind_some, j5, Option.bind_some, Option.bind_some, j6, Option.bind_some, he0, Int.toNat_natCast]
      rfl
end
end Go.LI.Film
