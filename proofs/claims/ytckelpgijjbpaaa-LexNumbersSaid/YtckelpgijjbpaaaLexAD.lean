/- Numbers' texts: the reader reads them. -/
import Derived.Test.YtckelpgijjbpaaaLexAC
namespace Go.LI.Lex
open Go.Proofs.Ytckelpgijjbpaaa Go Go.Proofs Go.LI
set_option linter.unusedVariables false
set_option linter.unusedSimpArgs false
attribute [local irreducible] runC

theorem takeWhile_app (p : UInt8 → Bool) : ∀ (ds : List UInt8) (c : UInt8) (tl : List UInt8), (∀ d ∈ ds, p d = true) → p c = false → (ds ++ c :: tl).takeWhile p = ds ∧ (ds ++ c :: tl).dropWhile p = c :: tl
  | [], c, tl, _, hc => by simp [List.takeWhile_cons, List.dropWhile_cons, hc]
  | d :: ds, c, tl, h, hc => by
    have hd := h d (by simp)
    obtain ⟨h1, h2⟩ := takeWhile_app p ds c tl (fun x hx => h x (by simp [hx])) hc
    simp [List.takeWhile_cons, List.dropWhile_cons, hd, h1, h2]

/-- A number's text behind its sign. -/
def numT (w p : List UInt8) : List UInt8 := bif p == [] then w else w ++ 46 :: p

theorem numM_text (neg : Bool) (w p : List UInt8) (hw : ∀ c ∈ w, digB c = true) (hp : ∀ c ∈ p, digB c = true) (hne : w ≠ []) (hlen : w.length + p.length ≤ 15) :
    numM neg (numT w p ++ [10]) = ([10], some (numW neg w p), w ++ p) := by
  have hbad : numBad w p [10] = false := by
    unfold numBad
    rw [show (w == []) = false by simpa using hne, show decide (w.length + p.length > 15) = false by simp; omega]
    decide
  cases p with
  | nil =>
    obtain ⟨h1, h2⟩ := takeWhile_app digB w 10 [] hw (by decide)
    simp only [numT, show (([] : List UInt8) == []) = true from rfl, cond_true, numM, h1, h2]
    rw [show (((10 : UInt8).toNat : Int) == 46) = false by decide, cond_false]
    simp [numE, hbad]
  | cons a p =>
    obtain ⟨h1, h2⟩ := takeWhile_app digB w 46 ((a :: p) ++ [10]) hw (by decide)
    obtain ⟨h3, h4⟩ := takeWhile_app digB (a :: p) 10 [] hp (by decide)
    have ht : numT w (a :: p) ++ [10] = w ++ 46 :: ((a :: p) ++ [10]) := by simp [numT]
    rw [ht]
    simp only [numM, h1, h2]
    rw [show (((46 : UInt8).toNat : Int) == 46) = true by decide, cond_true, h3, h4]
    rw [show ((a :: p) == []) = false by rfl, cond_false]
    simp [numE, hbad]

/-- A number's text with its sign. -/
def sgnT (neg : Bool) (w p : List UInt8) : List UInt8 := bif neg then 45 :: numT w p else numT w p

theorem dig_not {c : UInt8} (h : digB c = true) : nlB c = false ∧ blB c = false ∧ reB c = false ∧ letterB (c.toNat : Int) = false ∧ ((c.toNat : Int) == 45) = false := by
  have hr : 48 ≤ (c.toNat : Int) ∧ (c.toNat : Int) ≤ 57 := by simpa [digB, digitB] using h
  refine ⟨?_, ?_, ?_, ?_, ?_⟩
  · simp [nlB]; omega
  · simp [blB]; omega
  · simp [reB]; omega
  · simp [letterB]; omega
  · simp; omega

theorem numT_head (w p : List UInt8) (hw : ∀ c ∈ w, digB c = true) (hne : w ≠ []) : ∃ c cs, numT w p ++ [10] = c :: cs ∧ digB c = true := by
  cases w with
  | nil => exact absurd rfl hne
  | cons c w =>
    refine ⟨c, (w ++ (bif p == [] then [] else 46 :: p)) ++ [10], ?_, hw c (by simp)⟩
    unfold numT
    cases p == [] <;> simp

theorem numR_text (neg : Bool) (w p : List UInt8) (hw : ∀ c ∈ w, digB c = true) (hp : ∀ c ∈ p, digB c = true) (hne : w ≠ []) (hlen : w.length + p.length ≤ 15) :
    ∃ c cs, sgnT neg w p ++ [10] = c :: cs ∧ nlB c = false ∧ blB c = false ∧ reB c = false ∧ letterB (c.toNat : Int) = false ∧ (digitB (c.toNat : Int) || (c.toNat : Int) == 45) = true ∧
      numR (c :: cs) = ([10], some (numW neg w p), w ++ p) := by
  cases neg with
  | true =>
    refine ⟨45, numT w p ++ [10], rfl, by decide, by decide, by decide, by decide, by decide, ?_⟩
    simp only [numR]
    rw [show (((45 : UInt8).toNat : Int) == 45) = true by decide, cond_true]
    exact numM_text true w p hw hp hne hlen
  | false =>
    obtain ⟨c, cs, h1, h2⟩ := numT_head w p hw hne
    obtain ⟨a1, a2, a3, a4, a5⟩ := dig_not h2
    refine ⟨c, cs, h1, a1, a2, a3, a4, ?_, ?_⟩
    · unfold digB at h2; rw [h2]; rfl
    · simp only [numR]
      rw [a5, cond_false, ← h1]
      exact numM_text false w p hw hp hne hlen

/-- All tokens of a number's text with a blank ahead and a line's end behind. -/
theorem allR_num (f : Nat) (neg : Bool) (w p : List UInt8) (hw : ∀ c ∈ w, digB c = true) (hp : ∀ c ∈ p, digB c = true) (hne : w ≠ []) (hlen : w.length + p.length ≤ 15) :
    allR (f + 2) (32 :: (sgnT neg w p ++ [10])) 1 0 = some ([⟨2, [], numW neg w p, 1⟩], 0, 0) := by
  obtain ⟨c, cs, h1, a1, a2, a3, a4, a5, a6⟩ := numR_text neg w p hw hp hne hlen
  have hn1 : nextR (32 :: (sgnT neg w p ++ [10])) 1 0 = ⟨2, [], numW neg w p, 1, 0, [10], 1, 1, 0, [⟨bytesI (w ++ p), 5, 1⟩]⟩ := by
    rw [h1]
    unfold nextR
    have hsk : skipR false (32 :: c :: cs) 1 = (c :: cs, 1) := by
      simp [skipR, show nlB 32 = false from rfl, show blB 32 = true from rfl, a1, a2, a3]
    rw [hsk]
    dsimp only
    rw [show decide ((0 : Int) + 1 > 16384) = false by decide, cond_false, a4, cond_false, a5, cond_true, a6]
    rfl
  have hn2 : nextR [10] 1 1 = ⟨4, [], 0, 2, 0, [], 2, 1, 0, []⟩ := by
    unfold nextR
    rw [show skipR false [10] 1 = ([], 2) by simp [skipR, show nlB 10 = true from rfl]]
  simp only [allR, hn1, hn2]
  rfl
end Go.LI.Lex
