/- Spans and pixels of the reference: valid, alike. -/
import Derived.Test.YtmhoddmenfondaaRdV2
namespace Go.LI.Film
open Go.Proofs.Ytmhoddmenfondaa Go Go.Proofs Go.LI Go.LI.Fl
set_option linter.unusedVariables false
set_option linter.unusedSimpArgs false
set_option maxRecDepth 100000

def minusB (x : Nat) : Bool := bif feq .f64 x 0 then (x : Int) != 0 else false
def validS (lo hi : Nat) : Bool := bif fle .f64 lo hi then (bif !feq .f64 lo 9218868437227405312 then (bif !feq .f64 hi (Op.negFloat .f64 9218868437227405312) then (bif !minusB lo then !minusB hi else false) else false) else false) else false
def valid6 (a : Nat → Nat) : Bool := bif validS (a 0) (a 1) then (bif validS (a 2) (a 3) then validS (a 4) (a 5) else false) else false
section
variable {R : Type}
abbrev SRMinusB (O : Ora R) : Prop := ∀ (x : Nat) (G : GH) (k : IV → GH → Option R), O fn_zz1 [.float .f64 x] G k = k (.bool (minusB x)) G
abbrev SRValidS (O : Ora R) : Prop := ∀ (a b : Nat) (G : GH) (k : IV → GH → Option R), O fn_zr1 [.agg [.float .f64 a, .float .f64 b]] G k = k (.bool (validS a b)) G
abbrev SRValid (O : Ora R) : Prop := ∀ (a : Nat → Nat) (G : GH) (k : IV → GH → Option R), O fn_zE1 [F6 a] G k = k (.bool (valid6 a)) G
abbrev SRSame2 (O : Ora R) : Prop := ∀ (a b : Nat) (G : GH) (k : IV → GH → Option R), O fn_zo1 [.agg [.float .f64 a, .float .f64 b], .agg [.float .f64 a, .float .f64 b]] G k = k (.bool true) G
abbrev SRSame (O : Ora R) : Prop := ∀ (a : Nat → Nat) (G : GH) (k : IV → GH → Option R), O fn_zu1 [F6 a, F6 a] G k = k (.bool true) G
/-- A pixel is like itself. -/
abbrev SRSamePx (O : Ora R) : Prop := ∀ (a : Nat → Nat) (c d : Int) (G : GH) (k : IV → GH → Option R), O fn_zf1 [PX a c d, PX a c d] G k = k (.bool true) G

theorem minusB_body {O : Ora R} {F : Nat} (hB : SBits O) (x : Nat) (G : GH) (k : IV → GH → Option R) : bodyC Try.prog O [777777] F Try.f78 [.float .f64 x] G k = k (.bool (minusB x)) G := by
  rw [e_zz1]
  unfold minusB
  cases feq .f64 x 0 with
  | true => rw [cond_true, hB, ivU, cond_true]
  | false => rw [cond_false, cond_false]
theorem wRMinusB {F n : Nat} (hn : 2 ≤ n) : SRMinusB (runC (R := R) Try.prog lo0 F n) := by
  obtain ⟨n, rfl⟩ : ∃ j, n = j + 2 := ⟨n - 2, by omega⟩
  intro x G k
  rw [r_zz1]
  exact minusB_body (wBits (by omega)) x G k
theorem validS_body {O : Ora R} {F : Nat} (hI : SRInf O) (hM : SRMinusB O) (a b : Nat) (G : GH) (k : IV → GH → Option R) : bodyC Try.prog O [1, 777777] F Try.f62 [.agg [.float .f64 a, .float .f64 b]] G k = k (.bool (validS a b)) G := by
  rw [e_zr1]
  unfold validS
  cases fle .f64 a b with
  | false => rw [cond_false, cond_false]
  | true =>
    rw [cond_true, cond_true, hI, ivF]
    cases feq .f64 a 9218868437227405312 with
    | true => rw [Bool.not_true, cond_false, cond_false]
    | false =>
      rw [Bool.not_false, cond_true, cond_true, hI, ivF]
      cases feq .f64 b (Op.negFloat .f64 9218868437227405312) with
      | true => rw [Bool.not_true, cond_false, cond_false]
      | false =>
        rw [Bool.not_false, cond_true, cond_true, hM, ivB]
        cases minusB a with
        | true => rw [Bool.not_true, cond_false, cond_false]
        | false => rw [Bool.not_false, cond_true, cond_true, hM, ivB]
theorem wRValidS {F n : Nat} (hn : 3 ≤ n) : SRValidS (runC (R := R) Try.prog lo0 F n) := by
  obtain ⟨n, rfl⟩ : ∃ j, n = j + 3 := ⟨n - 3, by omega⟩
  intro a b G k
  rw [r_zr1]
  exact validS_body (wRInf (by omega)) (wRMinusB (by omega)) a b G k
theorem valid_body {O : Ora R} {F : Nat} (hV : SRValidS O) (a : Nat → Nat) (G : GH) (k : IV → GH → Option R) : bodyC Try.prog O [1, 777777] F Try.f43 [F6 a] G k = k (.bool (valid6 a)) G := by
  unfold F6
  rw [e_zE1, hV, ivB]
  unfold valid6
  cases validS (a 0) (a 1) with
  | false => rw [cond_false, cond_false]
  | true =>
    rw [cond_true, cond_true, hV, ivB]
    cases validS (a 2) (a 3) with
    | false => rw [cond_false, cond_false]
    | true => rw [cond_true, cond_true, hV, ivB]
theorem wRValid {F n : Nat} (hn : 4 ≤ n) : SRValid (runC (R := R) Try.prog lo0 F n) := by
  obtain ⟨n, rfl⟩ : ∃ j, n = j + 4 := ⟨n - 4, by omega⟩
  intro a G k
  have h := valid_body (F := F) (wRValidS (R := R) (F := F) (n := n + 3) (by omega)) a G k
  unfold F6 at h ⊢
  rw [r_zE1]
  exact h
theorem same2_body {O : Ora R} {F : Nat} (hB : SBits O) (a b : Nat) (G : GH) (k : IV → GH → Option R) : bodyC Try.prog O [2, 3, 777777] F Try.f56 [.agg [.float .f64 a, .float .f64 b], .agg [.float .f64 a, .float .f64 b]] G k = k (.bool true) G := by
  rw [e_zo1, hB, ivU, hB, ivU, show ((a : Int) == (a : Int)) = true by simp, cond_true, hB, ivU, hB, ivU, show ((b : Int) == (b : Int)) = true by simp]
theorem wRSame2 {F n : Nat} (hn : 2 ≤ n) : SRSame2 (runC (R := R) Try.prog lo0 F n) := by
  obtain ⟨n, rfl⟩ : ∃ j, n = j + 2 := ⟨n - 2, by omega⟩
  intro a b G k
  rw [r_zo1]
  exact same2_body (wBits (by omega)) a b G k
theorem same_body {O : Ora R} {F : Nat} (hS : SRSame2 O) (a : Nat → Nat) (G : GH) (k : IV → GH → Option R) : bodyC Try.prog O [2, 3, 777777] F Try.f29 [F6 a, F6 a] G k = k (.bool true) G := by
  unfold F6
  rw [e_zu1, hS, ivB, cond_true, hS, ivB, cond_true, hS, ivB]
theorem wRSame {F n : Nat} (hn : 3 ≤ n) : SRSame (runC (R := R) Try.prog lo0 F n) := by
  obtain ⟨n, rfl⟩ : ∃ j, n = j + 3 := ⟨n - 3, by omega⟩
  intro a G k
  have h := same_body (F := F) (wRSame2 (R := R) (F := F) (n := n + 2) (by omega)) a G k
  unfold F6 at h ⊢
  rw [r_zu1]
  exact h
theorem samePx_body {O : Ora R} {F : Nat} (hS : SRSame O) (a : Nat → Nat) (c d : Int) (G : GH) (k : IV → GH → Option R) : bodyC Try.prog O [2, 3, 777777] F Try.f24 [PX a c d, PX a c d] G k = k (.bool true) G := by
  have h := hS a
  unfold F6 at h
  unfold PX
  rw [e_zf1, show (c == c) = true by simp, cond_true, show (d == d) = true by simp, cond_true, h, ivB]
theorem wRSamePx {F n : Nat} (hn : 4 ≤ n) : SRSamePx (runC (R := R) Try.prog lo0 F n) := by
  obtain ⟨n, rfl⟩ : ∃ j, n = j + 4 := ⟨n - 4, by omega⟩
  intro a c d G k
  have h := samePx_body (F := F) (wRSame (R := R) (F := F) (n := n + 3) (by omega)) a c d G k
  unfold PX at h ⊢
  rw [r_zf1]
  exact h
end
end Go.LI.Film
