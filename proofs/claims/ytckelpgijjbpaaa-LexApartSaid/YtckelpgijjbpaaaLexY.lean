/- The reader of a text: all tokens. -/
import Derived.Test.YtckelpgijjbpaaaLexX
namespace Go.LI.Lex
open Go.Proofs.Ytckelpgijjbpaaa Go Go.Proofs Go.LI
set_option linter.unusedVariables false
set_option linter.unusedSimpArgs false
attribute [local irreducible] runL

theorem skipR_line : ∀ (m : Bool) (cs : List UInt8) (l : Int), l ≤ (skipR m cs l).2 ∧ (skipR m cs l).2 + (skipR m cs l).1.length ≤ l + cs.length
  | m, [], l => by cases m <;> simp [skipR]
  | true, c :: cs, l => by
    simp only [skipR]
    split
    · have := skipR_line false cs (l + 1); simp only [List.length_cons]; omega
    · have := skipR_line true cs l; simp only [List.length_cons]; omega
  | false, c :: cs, l => by
    simp only [skipR]
    split
    · have := skipR_line false cs (l + 1); simp only [List.length_cons]; omega
    · split
      · have := skipR_line false cs l; simp only [List.length_cons]; omega
      · split
        · have := skipR_line true cs l; simp only [List.length_cons]; omega
        · simp

theorem numM_suffix (neg : Bool) (cs : List UInt8) : (numM neg cs).1 <:+ cs := by
  unfold numM
  have h0 := List.dropWhile_suffix digB (l := cs)
  split
  · rename_i h; simp [numE]
  · rename_i c ds h
    rw [h] at h0
    have h1 : ds <:+ cs := (List.suffix_cons c ds).trans h0
    have h2 := (List.dropWhile_suffix digB (l := ds)).trans h1
    cases ((c.toNat : Int) == 46)
    · exact h0
    · cases (ds.takeWhile digB == []) <;> exact h2

theorem numR_suffix : ∀ cs : List UInt8, (numR cs).1 <:+ cs
  | [] => List.suffix_refl _
  | c :: cs => by
    simp only [numR]
    cases ((c.toNat : Int) == 45)
    · exact numM_suffix false (c :: cs)
    · exact (numM_suffix true cs).trans (List.suffix_cons c cs)

/-- How the reader stands behind a token. -/
theorem nextR_inv (rest : List UInt8) (l n : Int) : (nextR rest l n).rest <:+ rest ∧ l ≤ (nextR rest l n).l ∧ (nextR rest l n).l + (nextR rest l n).rest.length ≤ l + rest.length ∧ n ≤ (nextR rest l n).n ∧ (nextR rest l n).n ≤ n + 1 ∧ ((nextR rest l n).e = 0 → (nextR rest l n).b = 0) := by
  have h1 := skipR_suffix false rest l
  have h2 := skipR_line false rest l
  unfold nextR
  generalize skipR false rest l = s at h1 h2 ⊢
  obtain ⟨r1, l1⟩ := s
  simp only at h1 h2
  have gen : ∀ y : List UInt8, y <:+ r1 → y <:+ rest ∧ l1 + y.length ≤ l + rest.length := fun y hy => ⟨hy.trans h1, by have := hy.length_le; omega⟩
  cases r1 with
  | nil => exact ⟨h1, h2.1, h2.2, by simp, by simp; omega, by simp⟩
  | cons c cs =>
    have e : ∀ (e : Int) (y : List UInt8), y <:+ c :: cs → e ≠ 0 → (errX e y l1 (n + 1)).rest <:+ rest ∧ l ≤ (errX e y l1 (n + 1)).l ∧ (errX e y l1 (n + 1)).l + (errX e y l1 (n + 1)).rest.length ≤ l + rest.length ∧ n ≤ (errX e y l1 (n + 1)).n ∧ (errX e y l1 (n + 1)).n ≤ n + 1 ∧ ((errX e y l1 (n + 1)).e = 0 → (errX e y l1 (n + 1)).b = 0) :=
      fun e y hy he => ⟨(gen y hy).1, h2.1, (gen y hy).2, by simp [errX]; omega, by simp [errX], fun h => absurd h he⟩
    have g : ∀ (k : Int) (w : List UInt8) (x : Nat) (tl : Int) (y : List UInt8) (gb : List Blk), y <:+ c :: cs → (y <:+ rest ∧ l ≤ l1 ∧ l1 + y.length ≤ l + rest.length ∧ n ≤ n + 1 ∧ n + 1 ≤ n + 1 ∧ ((0 : Int) = 0 → (0 : Int) = 0)) :=
      fun k w x tl y gb hy => ⟨(gen y hy).1, h2.1, (gen y hy).2, by omega, by omega, fun _ => rfl⟩
    dsimp only
    cases decide (n + 1 > 16384)
    · cases letterB (c.toNat : Int)
      · cases (digitB (c.toNat : Int) || (c.toNat : Int) == 45)
        · cases ((c.toNat : Int) == 34)
          · simp only [cond_false]
            exact e 160 _ (List.suffix_refl _) (by omega)
          · have hq := (List.dropWhile_suffix quoB (l := cs)).trans (List.suffix_cons c cs)
            simp only [cond_false, cond_true]
            split
            · exact e 161 [] (List.nil_suffix) (by omega)
            · rename_i d ds hd
              rw [hd] at hq
              cases ((d.toNat : Int) != 34)
              · simp only [cond_false]
                simpa using g 3 [] 0 0 ds [] ((List.suffix_cons d ds).trans hq)
              · simp only [cond_true]
                exact e 161 _ hq (by omega)
        · simp only [cond_false, cond_true]
          have hx := numR_suffix (c :: cs)
          split
          · exact e 162 _ hx (by omega)
          · exact g 3 [] 0 0 _ [] hx
      · simp only [cond_false, cond_true]
        simpa using g 3 [] 0 0 _ [] (List.dropWhile_suffix wordB)
    · simp only [cond_true]
      exact e 163 _ (List.suffix_refl _) (by omega)
/-- A token takes something, or is the end or an error. -/
theorem nextR_less (rest : List UInt8) (l n : Int) (he : (nextR rest l n).e = 0) (hk : (nextR rest l n).k ≠ 4) : (nextR rest l n).n = n + 1 ∧ n + 1 ≤ 16384 := by
  unfold nextR at he hk ⊢
  generalize skipR false rest l = s at he hk ⊢
  obtain ⟨r1, l1⟩ := s
  cases r1 with
  | nil => exact absurd rfl hk
  | cons c cs =>
    dsimp only at he hk ⊢
    by_cases hm : decide (n + 1 > 16384) = true
    · rw [hm, cond_true] at he; simp [errX] at he
    · have hm' : decide (n + 1 > 16384) = false := by simpa using hm
      rw [hm'] at he hk ⊢
      simp only [cond_false] at he hk ⊢
      refine ⟨?_, by simpa using hm⟩
      revert he
      cases letterB (c.toNat : Int) <;> simp only [cond_false, cond_true]
      · cases (digitB (c.toNat : Int) || (c.toNat : Int) == 45) <;> simp only [cond_false, cond_true]
        · cases ((c.toNat : Int) == 34) <;> simp only [cond_false, cond_true]
          · simp [errX]
          · split
            · simp [errX]
            · rename_i d ds _
              cases ((d.toNat : Int) != 34) <;> simp [errX]
        · split <;> simp [errX]
      · intro _; trivial

end Go.LI.Lex
