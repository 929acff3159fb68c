/- Spans: what is needed of products, floors and spans of one number. -/
import Derived.Test.YtbjcipikclbecaaGreatTxA
set_option linter.unusedVariables false
set_option maxRecDepth 100000
set_option exponentiation.threshold 2500
namespace Go.LI.Fl
open Go Go.LI Ieee
theorem zmy {n : Bool} {r : Nat} (h : r ≤ 9218868437227405312) : num (dbl.word n r) := by
  have hlt : r < dbl.signWeight := by rw [zbp]; omega
  refine ⟨?_, by rw [znx dbl hlt]; exact h⟩
  have := (zi1 dbl (neg := n) hlt).2.2
  rw [zbp] at this
  omega
theorem zdE (n : Bool) (m : Nat) (e : Int) : num (dbl.nearest n m e) := by
  unfold Format.nearest
  split
  · exact zmy (Nat.zero_le _)
  · refine zmy ?_
    rw [zek]
    exact Nat.min_le_right _ _
theorem zeD {x : Nat} (hx : x < 2 ^ 64) (hf : fin x = true) : num x := ⟨hx, Nat.le_of_lt (of_decide_eq_true hf)⟩
def zw (x : Nat) : Nat := if rg dbl x = 0 then 0 else x
theorem zwF {x : Nat} (hx : num x) : num (zw x) := by
  unfold zw; split
  · exact zDr
  · exact hx
theorem zGh : num 9218868437227405312 := zmy (n := false) (Nat.le_refl _)
theorem zDG : num 18442240474082181120 := zmy (n := true) (r := 9218868437227405312) (Nat.le_refl _)
theorem zvU : num 4845873199050653696 ∧ sv 4845873199050653696 = ((2 ^ 53 * 2 ^ 1074 : Nat) : Int) := by
  have h := zdm (q := 1075) (m := 2 ^ 52) (by decide) (.inr (by decide))
  have e : 1075 * 2 ^ 52 + 2 ^ 52 = 4845873199050653696 := by decide
  rw [e] at h
  obtain ⟨h1, h2⟩ := zdj (r := 4845873199050653696) (by decide)
  refine ⟨h1, ?_⟩
  rw [h2, h, ← Nat.pow_add]
theorem zyj : num 14069245235905429504 ∧ sv 14069245235905429504 = -((2 ^ 53 * 2 ^ 1074 : Nat) : Int) := by
  have e : (14069245235905429504 : Nat) = dbl.word true 4845873199050653696 := by decide +kernel
  have hlt : 4845873199050653696 < dbl.signWeight := by rw [zbp]; decide
  have h := zdm (q := 1075) (m := 2 ^ 52) (by decide) (.inr (by decide))
  have e2 : 1075 * 2 ^ 52 + 2 ^ 52 = 4845873199050653696 := by decide
  rw [e2] at h
  refine ⟨by rw [e]; exact zmy (by decide), ?_⟩
  rw [e, zgm, zyY dbl hlt, znx dbl hlt, h, ← Nat.pow_add]
  rfl
theorem zxO (neg : Bool) (n drop : Nat) : Toward.zero.cut neg n drop = n / 2 ^ drop := by
  unfold Toward.cut
  simp only [Bool.toNat_false, Nat.add_zero, Nat.one_shiftLeft]
  by_cases h : drop ≤ n.log2 + 2
  · rw [Nat.min_eq_left h]
  · rw [Nat.min_eq_right (by omega)]
    have h1 : n < 2 ^ (n.log2 + 2) := Nat.lt_of_lt_of_le Nat.lt_log2_self (Nat.pow_le_pow_right (by decide) (by omega))
    have h2 : n < 2 ^ drop := Nat.lt_of_lt_of_le h1 (Nat.pow_le_pow_right (by decide) (by omega))
    rw [Nat.div_eq_of_lt h1, Nat.div_eq_of_lt h2]
theorem zxf {x : Nat} (hx : num x) (h1 : -((2 ^ 53 * 2 ^ 1074 : Nat) : Int) ≤ sv x) (h2 : sv x ≤ ((2 ^ 53 * 2 ^ 1074 : Nat) : Int)) : ∃ n : Int, f2i .f64 x .i64 = some n := by
  have hm : mag dbl (rg dbl x) ≤ 2 ^ 53 * 2 ^ 1074 := by
    have h3 := zcx (sg dbl x) (mag dbl (rg dbl x))
    rw [← zgm] at h3
    generalize 2 ^ 53 * 2 ^ 1074 = T at h1 h2 ⊢
    omega
  have hf : rg dbl x < 9218868437227405312 := by
    rcases Nat.lt_or_ge (rg dbl x) 9218868437227405312 with h | h
    · exact h
    · exfalso
      have h3 := zlV (r := 4845873199050653696) (s := rg dbl x) (by omega)
      have h4 := zvU.2
      rw [(zdj (r := 4845873199050653696) (by decide)).2] at h4
      have h5 := Int.ofNat.inj h4
      rw [h5] at h3
      omega
  obtain ⟨i, m, q1, q2⟩ := zcG hf
  have hd : FloatKind.f64.decode x = .number (sg dbl x) m (-1074 + (i : Int)) := q1
  obtain ⟨n, hn, hb⟩ : ∃ n : Int, (FloatKind.f64.decode x).toInt .zero = some n ∧ n.natAbs ≤ 2 ^ 53 := by
    rw [hd]
    unfold Datum.toInt
    simp only [Datum.integral, zxO, Nat.shiftLeft_eq]
    refine ⟨_, rfl, ?_⟩
    have hs : ∀ M, (signed (sg dbl x) M 0).natAbs = M := by
      intro M
      have := zed (sg dbl x) M 0
      rw [Nat.pow_zero, Nat.mul_one] at this
      exact this
    rw [hs]
    have hP := Nat.two_pow_pos 1074
    by_cases hi : 1074 ≤ i
    · have p1 : (-1074 + (i : Int)).toNat = i - 1074 := by omega
      have p2 : (-(-1074 + (i : Int))).toNat = 0 := by omega
      have hp : 2 ^ i = 2 ^ (i - 1074) * 2 ^ 1074 := by rw [← Nat.pow_add]; congr 1; omega
      rw [p1, p2, Nat.pow_zero, Nat.div_one]
      rw [hp, ← Nat.mul_assoc] at q2
      rw [← q2] at hm
      exact Nat.le_of_mul_le_mul_right hm hP
    · have p1 : (-1074 + (i : Int)).toNat = 0 := by omega
      have p2 : (-(-1074 + (i : Int))).toNat = 1074 - i := by omega
      have hp : 2 ^ 1074 = 2 ^ (1074 - i) * 2 ^ i := by rw [← Nat.pow_add]; congr 1; omega
      rw [p1, p2, Nat.pow_zero, Nat.mul_one]
      rw [← q2, hp, ← Nat.mul_assoc] at hm
      have h6 := Nat.le_of_mul_le_mul_right hm (Nat.two_pow_pos i)
      exact Nat.div_le_of_le_mul (by rw [Nat.mul_comm]; exact h6)
  have e1 : IntKind.i64.min = -9223372036854775808 := by decide
  have e2 : IntKind.i64.max = 9223372036854775807 := by decide
  refine ⟨n, ?_⟩
  unfold f2i
  rw [hn]
  simp only [e1, e2]
  rw [if_pos ⟨by omega, by omega⟩]
end Go.LI.Fl
namespace Go.LI.Film
open Go.Proofs.YtbjcipikclbecaaGreat Go Go.Proofs Go.LI Go.LI.Fl
section
variable {R : Type} {O : Ora R}
theorem zfY {β : Type} (a b : Nat) (f : Nat → Nat → Option β) : ((zr 2 (.agg [fL a, fL b])).bind fun c => (zc .f64 (c.getD 0 za)).bind fun x => (zc .f64 (c.getD 1 za)).bind fun y => f x y) = f a b := rfl
theorem zkS {β : Type} (a : Nat) (b : Int) (f : Nat → Int → Option β) : ((zY 2 (.tuple [fL a, iL b])).bind fun c => (zc .f64 (c.getD 0 za)).bind fun x => (zk .i64 (c.getD 1 za)).bind fun y => f x y) = f a b := rfl
theorem zuB {β : Type} (a b : Int) (f : Int → Int → Option β) : ((zY 2 (.tuple [iL a, iL b])).bind fun c => (zk .i64 (c.getD 0 za)).bind fun x => (zk .i64 (c.getD 1 za)).bind fun y => f x y) = f a b := rfl
abbrev zJA (O : Ora R) : Prop := ∀ (G : GH) (k : IV → GH → Option R), O zhA [] G k = k (.agg [fL 18442240474082181120, fL 9218868437227405312]) G
theorem zEc (hI : zHW O) {F : Nat} (G : GH) (k : IV → GH → Option R) : zf Tryz.prog O [0, 777777] F Tryz.f57 [] G k = k (.agg [fL 18442240474082181120, fL 9218868437227405312]) G := by
  rw [zAM, (hI _ _).2, ivF, (hI _ _).1, ivF]
theorem x78 (O : Ora R) (F x : Nat) (G : GH) (k : IV → GH → Option R) : zf Tryz.prog O [] F Tryz.f94 [fL x] G k = (match FloatKind.f64.decode x with | .nan _ _ => none | d => k (fL (FloatKind.f64.encode (d.integral .down))) G) := by kernel_rfl
end
end Go.LI.Film
