/- The reference's numbers and spans: what the texture laws need. -/
import Derived.Test.YtbjcipikclbecaaGreatTxC
set_option linter.unusedVariables false
set_option linter.unusedSimpArgs false
set_option maxRecDepth 100000
namespace Go.LI.Film
open Go.Proofs.YtbjcipikclbecaaGreat Go Go.Proofs Go.LI Go.LI.Fl
theorem zCj {x : Nat} (hx : x < 2 ^ 64) : (fin x = true ∧ dbl.sub x x = some 0) ∨ (fin x = false ∧ dbl.sub x x = none) := by
  unfold fin
  rcases Nat.lt_trichotomy (rg dbl x) 9218868437227405312 with h | h | h
  · obtain ⟨i, m, h1, h2⟩ := zcG h
    have hs : dbl.sub x x = some 0 := by
      unfold Ieee.Format.sub
      rw [h1]
      simp only [Ieee.Datum.opposite, Ieee.Datum.sum, Option.map_some, Ieee.Format.write]
      have ht : Ieee.signed (sg dbl x) m (-1074 + (i : Int) - min (-1074 + (i : Int)) (-1074 + (i : Int))).toNat + Ieee.signed (!(sg dbl x)) m (-1074 + (i : Int) - min (-1074 + (i : Int)) (-1074 + (i : Int))).toNat = 0 := by
        unfold Ieee.signed
        cases sg dbl x <;> simp <;> omega
      rw [ht, if_pos rfl]
      have hb : (sg dbl x && !(sg dbl x)) = false := by cases sg dbl x <;> rfl
      rw [hb]
      rw [zcI dbl (r := 0) (Nat.zero_le _) (by rw [(zaE dbl).2 rfl]; simp)]
      rfl
    exact .inl ⟨decide_eq_true h, hs⟩
  · have hs : dbl.sub x x = none := by
      unfold Ieee.Format.sub
      rw [zeZ hx h]
      simp only [Ieee.Datum.opposite, Ieee.Datum.sum]
      cases sg dbl x <;> rfl
    exact .inr ⟨decide_eq_false (by omega), hs⟩
  · have hs : dbl.sub x x = none := by
      unfold Ieee.Format.sub
      have hn : ∃ a b, dbl.read x = .nan a b := by
        unfold Ieee.Format.read
        simp only
        rw [show x % dbl.signWeight = rg dbl x from rfl, zxS, zek, if_neg (by omega), if_neg (by omega), if_neg (by omega)]
        exact ⟨_, _, rfl⟩
      obtain ⟨a, b, hn⟩ := hn
      rw [hn]
      rfl
    exact .inr ⟨decide_eq_false (by omega), hs⟩
theorem zIE : feq .f64 0 0 = true := by decide +kernel
theorem zHq {x : Nat} (hx : x < 2 ^ 64) : (match (FloatKind.format .f64).sub x x with | some r => feq .f64 r 0 | none => false) = fin x := by
  rcases zCj hx with ⟨h1, h2⟩ | ⟨h1, h2⟩
  · have h2' : (FloatKind.format .f64).sub x x = some 0 := h2
    rw [h2', h1]; exact zIE
  · have h2' : (FloatKind.format .f64).sub x x = none := h2
    rw [h2', h1]
section
variable {R : Type} {O : Ora R}
abbrev ztr (O : Ora R) : Prop := ∀ (x : Nat), x < 2 ^ 64 → ∀ (G : GH) (k : IV → GH → Option R), O zt [fL x] G k = k (.bool (fin x)) G
theorem zpE {F n : Nat} (hn : 1 ≤ n) : ztr (runC (R := R) Tryz.prog lo0 F n) := by
  obtain ⟨n, rfl⟩ : ∃ j, n = j + 1 := ⟨n - 1, by omega⟩
  intro x hx G k
  have e : zt = 28 := rfl
  rw [e, znn, zne, ← zHq hx]
  rfl
abbrev SQZ (O : Ora R) : Prop := ∀ (x : Nat), num x → ∀ (G : GH) (k : IV → GH → Option R), O zar [fL x] G k = k (fL (zw x)) G
theorem wQZ {F n : Nat} (hn : 1 ≤ n) : SQZ (runC (R := R) Tryz.prog lo0 F n) := by
  obtain ⟨n, rfl⟩ : ∃ j, n = j + 1 := ⟨n - 1, by omega⟩
  intro x hx G k
  have e : zar = 30 := rfl
  rw [e, znk, zno, zmB hx.1 hx.2]
  unfold zw
  by_cases h : rg dbl x = 0
  · rw [decide_eq_true h, cond_true, if_pos h]
  · rw [decide_eq_false h, cond_false, if_neg h]
abbrev zG1 (O : Ora R) : Prop := ∀ (G : GH) (k : IV → GH → Option R), O zaf [] G k = k (fL 9218868437227405312) G
theorem zEm {F n : Nat} (hn : 2 ≤ n) : zG1 (runC (R := R) Tryz.prog lo0 F n) := by
  obtain ⟨n, rfl⟩ : ∃ j, n = j + 1 := ⟨n - 1, by omega⟩
  intro G k
  have e : zaf = 13 := rfl
  have h := zxB (R := R) (F := F) (n := n) (by omega) 9218868437227405312 G
  have h' : ∀ k, runC (R := R) Tryz.prog lo0 F n zx [uL (9218868437227405312 : Int)] G k = k (fL 9218868437227405312) G := h
  rw [e, zuw, zuo, h', ivF]
abbrev zGZ (O : Ora R) : Prop := ∀ (x : Nat), ∃ b : Bool, ∀ (G : GH) (k : IV → GH → Option R), O zfT [fL x] G k = k (.bool b) G
theorem zIl {F n : Nat} (hn : 2 ≤ n) : zGZ (runC (R := R) Tryz.prog lo0 F n) := by
  obtain ⟨n, rfl⟩ : ∃ j, n = j + 1 := ⟨n - 1, by omega⟩
  intro x
  have e : zfT = 14 := rfl
  cases h : feq .f64 x (0 : Nat) with
  | false => exact ⟨false, fun G k => by rw [e, zp6, zqj, h, cond_false]⟩
  | true => exact ⟨((x : Int) != 0), fun G k => by rw [e, zp6, zqj, h, cond_true, zBA (by omega), ivU]⟩
theorem zq4 : Op.negFloat .f64 9218868437227405312 = 18442240474082181120 := by decide +kernel
abbrev zIR (O : Ora R) : Prop := ∀ (x y : Nat) (G : GH) (k : IV → GH → Option R), O zdQ [.agg [fL x, fL y], .agg [fL x, fL y]] G k = k (.bool true) G
theorem zGC (hB : zEr O) {F : Nat} (x y : Nat) (G : GH) (k : IV → GH → Option R) : zf Tryz.prog O [2, 3, 777777] F Tryz.f27 [.agg [fL x, fL y], .agg [fL x, fL y]] G k = k (.bool true) G := by
  rw [zxo]
  simp only [hB, ivU, beq_self_eq_true, cond_true]
abbrev zJS (O : Ora R) : Prop := ∀ (a b c d e f : Nat) (G : GH) (k : IV → GH → Option R), O zjR [.agg [fL a, fL b, fL c, fL d, fL e, fL f], .agg [fL a, fL b, fL c, fL d, fL e, fL f]] G k = k (.bool true) G
theorem zGz (h2 : zIR O) {F : Nat} (a b c d e f : Nat) (G : GH) (k : IV → GH → Option R) : zf Tryz.prog O [2, 3, 777777] F Tryz.f10 [.agg [fL a, fL b, fL c, fL d, fL e, fL f], .agg [fL a, fL b, fL c, fL d, fL e, fL f]] G k = k (.bool true) G := by
  rw [zwT]
  simp only [h2, ivB, cond_true]
end
end Go.LI.Film
