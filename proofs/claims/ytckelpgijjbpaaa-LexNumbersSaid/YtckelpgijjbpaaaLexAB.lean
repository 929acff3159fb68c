/- A number's digits. -/
import Derived.Test.YtckelpgijjbpaaaLexAA
namespace Go.LI.Lex
open Go.Proofs.Ytckelpgijjbpaaa Go Go.Proofs Go.LI
set_option linter.unusedVariables false
set_option linter.unusedSimpArgs false
attribute [local irreducible] runC

/-- The digits of a number, ahead of 'acc'. -/
def decN : Nat → Nat → List UInt8 → List UInt8
  | 0, _, acc => acc
  | f + 1, v, acc => if v / 10 = 0 then UInt8.ofNat (48 + v % 10) :: acc else decN f (v / 10) (UInt8.ofNat (48 + v % 10) :: acc)

theorem l9_spec {R : Type} {O : Ora R} : ∀ (f v : Nat) (acc : List UInt8) (G : GH) (fuel : Nat), v < 10 ^ f → v < 10 ^ 15 → f < fuel → acc.length + f < 100 → ∃ G', ∀ K : List UInt8 → GH → Option R, l9_0 O K fuel (v : Int) acc G = K (decN f.succ v acc) G'
  | f, v, acc, G, 0, hv, hv2, hf, ha => by omega
  | f, v, acc, G, fuel + 1, hv, hv2, hf, ha => by
    have hm : Int.tmod (v : Int) 10 = ((v % 10 : Nat) : Int) := by rw [Int.tmod_eq_emod_of_nonneg (by omega)]; simp
    have hd : Int.tdiv (v : Int) 10 = ((v / 10 : Nat) : Int) := by rw [Int.tdiv_eq_ediv_of_nonneg (by omega)]; simp
    have hb : IntKind.wrap .u8 (IntKind.wrap .i64 (48 + Int.tmod (v : Int) 10)) = (((UInt8.ofNat (48 + v % 10)).toNat : Nat) : Int) := by
      rw [hm, IntWalk.i64_in _ (by omega), IntWalk.u8_in _ (by omega)]
      simp [UInt8.toNat_ofNat']
      omega
    have hq : IntKind.wrap .i64 (Int.tdiv (v : Int) 10) = ((v / 10 : Nat) : Int) := by rw [hd, IntWalk.i64_in _ (by omega)]
    have hg : ∀ c : UInt8, grd (gnew G [.int .u8 ((c.toNat : Nat) : Int)] 5) (gaddr G) 1 = some [.int .u8 ((c.toNat : Nat) : Int)] := fun c => grd_new _ _ _ _ rfl
    have hbs : ∀ c : UInt8, asBytes [.int .u8 ((c.toNat : Nat) : Int)] = some [c] := fun c => by simp [asBytes]
    have key : ∀ K : List UInt8 → GH → Option R, l9_0 O K (fuel + 1) (v : Int) acc G = bif ((v / 10 : Nat) : Int) == 0 then K (UInt8.ofNat (48 + v % 10) :: acc) (gnew G [.int .u8 (((UInt8.ofNat (48 + v % 10)).toNat : Nat) : Int)] 5)
        else l9_0 O K fuel ((v / 10 : Nat) : Int) (UInt8.ofNat (48 + v % 10) :: acc) (gnew G [.int .u8 (((UInt8.ofNat (48 + v % 10)).toNat : Nat) : Int)] 5) := by
      intro K
      simp only [l9_0, hb, hq, hg, hbs, Option.bind_some]
      rw [show decide (([UInt8.ofNat (48 + v % 10)] : List UInt8).length + acc.length ≤ roomI) = true by simp only [List.length_singleton, decide_eq_true_eq]; unfold roomI; omega]
      rfl
    by_cases h0 : v / 10 = 0
    · refine ⟨gnew G [.int .u8 (((UInt8.ofNat (48 + v % 10)).toNat : Nat) : Int)] 5, fun K => ?_⟩
      rw [key, h0]
      simp only [Nat.succ_eq_add_one, decN, h0, if_true]
      rfl
    · have hne : (((v / 10 : Nat) : Int) == 0) = false := by simp only [beq_eq_false_iff_ne]; omega
      match f, hv with
      | 0, hv => simp at hv; omega
      | f + 1, hv =>
        obtain ⟨G', h⟩ := l9_spec (R := R) (O := O) f (v / 10) (UInt8.ofNat (48 + v % 10) :: acc) (gnew G [.int .u8 (((UInt8.ofNat (48 + v % 10)).toNat : Nat) : Int)] 5) fuel (by rw [Nat.pow_succ] at hv; omega) (by omega) (by omega) (by simp; omega)
        refine ⟨G', fun K => ?_⟩
        rw [key, hne, cond_false, h]
        rw [show decN (f + 1).succ v acc = decN f.succ (v / 10) (UInt8.ofNat (48 + v % 10) :: acc) by rw [decN.eq_2]; rw [if_neg h0]]

/-- 'decimal'. -/
theorem s9 {R : Type} (n v : Nat) (hv : v < 10 ^ 15) (G : GH) (k : IV → GH → Option R) : runC Try.prog lo0 1000000 (n + 1) 9 [.int .i64 (v : Int)] G k = k (.str (decN 16 v [])) G := by
  obtain ⟨G', h⟩ := l9_spec (R := R) (O := runC Try.prog lo0 1000000 n) 15 v [] [] 1000000 hv hv (by omega) (by simp)
  rw [r9, e9, h]
  rfl
end Go.LI.Lex
