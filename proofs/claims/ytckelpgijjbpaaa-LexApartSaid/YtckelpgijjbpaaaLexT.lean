/- The reader of a text: blanks, remarks; what is left of the text. -/
import Derived.Test.YtckelpgijjbpaaaLexS
namespace Go.LI.Lex
open Go.Proofs.Ytckelpgijjbpaaa Go Go.Proofs Go.LI
set_option linter.unusedVariables false
set_option linter.unusedSimpArgs false

/-- A reader's block: what is left of the text. -/
def rs (t rest : List UInt8) (l n b : Int) : Blk := rd t ((t.length - rest.length : Nat) : Int) l n b

theorem rs_pre (pre rest : List UInt8) (l n b : Int) : rs (pre ++ rest) rest l n b = rd (pre ++ rest) (pre.length : Int) l n b := by
  unfold rs; congr 1; simp

def nlB (c : UInt8) : Bool := (c.toNat : Int) == 10
def blB (c : UInt8) : Bool := ((c.toNat : Int) == 32) || (((c.toNat : Int) == 9) || ((c.toNat : Int) == 13))
def reB (c : UInt8) : Bool := (c.toNat : Int) == 35

/-- Blanks, lines' ends and remarks are passed over ('true': within a remark): what is left, and the line. -/
def skipR : Bool → List UInt8 → Int → List UInt8 × Int
  | _, [], l => ([], l)
  | true, c :: cs, l => if nlB c then skipR false cs (l + 1) else skipR true cs l
  | false, c :: cs, l => if nlB c then skipR false cs (l + 1) else if blB c then skipR false cs l else if reB c then skipR true cs l else (c :: cs, l)

theorem skipR_drop : ∀ (cs : List UInt8) (l : Int), skipR true cs l = skipR false (cs.dropWhile fun c => !nlB c) l
  | [], l => by simp [skipR]
  | c :: cs, l => by
    by_cases h : nlB c = true
    · simp [skipR, List.dropWhile_cons, h]
    · simp [skipR, List.dropWhile_cons, h, skipR_drop cs l]

theorem skipR_suffix : ∀ (m : Bool) (cs : List UInt8) (l : Int), (skipR m cs l).1 <:+ cs
  | m, [], l => by cases m <;> simp [skipR]
  | true, c :: cs, l => by
    simp only [skipR]
    split
    · exact (skipR_suffix false cs _).trans (List.suffix_cons c cs)
    · exact (skipR_suffix true cs _).trans (List.suffix_cons c cs)
  | false, c :: cs, l => by
    simp only [skipR]
    split
    · exact (skipR_suffix false cs _).trans (List.suffix_cons c cs)
    · split
      · exact (skipR_suffix false cs _).trans (List.suffix_cons c cs)
      · split
        · exact (skipR_suffix true cs _).trans (List.suffix_cons c cs)
        · exact List.suffix_refl _

section
variable {R : Type} {r : Nat} {nn b : Int} {O : Ora R}

theorem l21_3_spec (K : GA → GH → Option R) (l : Int) : ∀ (rest pre : List UInt8) (fuel : Nat) (G : GH), G[r]? = some (rd (pre ++ rest) pre.length l nn b) → rest.length < fuel → (pre ++ rest).length < 2 ^ 62 →
    l21_3 O K 1152921504606846976 fuel ⟨r, 0⟩ G = K ⟨r, 0⟩ (G.set r (rs (pre ++ rest) (rest.dropWhile fun c => !nlB c) l nn b))
  | [], pre, 0, G, h, hf, _ => by simp at hf
  | [], pre, f + 1, G, h, hf, _ => by
    simp only [l21_3, stepN_big, c21_4, ld_a h, ld_t h, Option.bind_some, end_pre, cond_false, List.dropWhile_nil]
    rw [rs_pre, set_self h]
  | c :: cs, pre, 0, G, h, hf, _ => by simp at hf
  | c :: cs, pre, f + 1, G, h, hf, hl => by
    simp only [l21_3, stepN_big, c21_4, ld_a h, ld_t h, Option.bind_some, lt_pre, in_pre, cond_true, at_pre]
    by_cases hc : nlB c = true
    · have h' : ((c.toNat : Int) != 10) = false := by unfold nlB at hc; simpa [bne] using hc
      rw [h']
      simp only [cond_false, List.dropWhile_cons, hc, Bool.not_true, Bool.false_eq_true, if_false]
      rw [rs_pre, set_self h]
    · have hc' : nlB c = false := by simpa using hc
      have h' : ((c.toNat : Int) != 10) = true := by unfold nlB at hc; simpa [bne] using hc
      rw [h']
      simp only [cond_true, ld_a h, st_a h, Option.bind_some, List.dropWhile_cons, hc', Bool.not_false, if_true]
      rw [next_pre pre c (by simp at hl; omega)]
      have hs : (pre ++ c :: cs) = ((pre ++ [c]) ++ cs) := by simp
      rw [hs]
      rw [l21_3_spec K l cs (pre ++ [c]) f _ (at_set h) (by simp at hf; omega) (by rw [← hs]; exact hl)]
      simp

theorem l21_0_spec (K : GH → Option R) : ∀ (fuel : Nat) (rest pre : List UInt8) (l : Int) (G : GH), G[r]? = some (rd (pre ++ rest) pre.length l nn b) → rest.length < fuel → (pre ++ rest).length < 1152921504606846976 → 0 ≤ l → l + rest.length < 2 ^ 62 →
    l21_0 O K K 1152921504606846976 fuel ⟨r, 0⟩ G = K (G.set r (rs (pre ++ rest) (skipR false rest l).1 (skipR false rest l).2 nn b))
  | 0, rest, pre, l, G, h, hf, _, _, _ => by simp at hf
  | f + 1, [], pre, l, G, h, hf, _, _, _ => by
    simp only [l21_0, ld_a h, ld_t h, Option.bind_some, end_pre, cond_false, skipR]
    rw [rs_pre, set_self h]
  | f + 1, c :: cs, pre, l, G, h, hf, hl, hl0, hl1 => by
    have hs : (pre ++ c :: cs) = ((pre ++ [c]) ++ cs) := by simp
    simp only [l21_0, stepN_big, c21_1, c21_2, ld_a h, ld_t h, Option.bind_some, lt_pre, in_pre, cond_true, at_pre]
    by_cases h1 : nlB c = true
    · have h1' := h1
      unfold nlB at h1'
      rw [h1']
      simp only [cond_true, ld_l h, st_l h, Option.bind_some, ld_a (at_set h), st_a (at_set h), skipR, h1, if_true]
      rw [next_pre pre c (by simp at hl; omega), IntWalk.i64_in _ (by simp at hl1; omega), List.set_set, hs]
      rw [l21_0_spec K f cs (pre ++ [c]) (l + 1) _ (at_set h) (by simp at hf; omega) (by rw [← hs]; exact hl) (by omega) (by simp at hl1; omega)]
      simp
    · have h1' : nlB c = false := by simpa using h1
      have h1'' := h1'
      unfold nlB at h1''
      rw [h1'']
      simp only [cond_false, skipR, h1', Bool.false_eq_true, if_false]
      by_cases h2 : blB c = true
      · have go : ((gst G (GA.add ⟨r, 0⟩ 1) [.int .i64 (IntKind.wrap .i64 ((pre.length : Int) + (1 : Int)))]).bind fun G4 => l21_0 O K K 1152921504606846976 f ⟨r, 0⟩ G4) =
            K (G.set r (rs (pre ++ c :: cs) (skipR false cs l).1 (skipR false cs l).2 nn b)) := by
          simp only [st_a h, Option.bind_some]
          rw [next_pre pre c (by simp at hl; omega), hs]
          rw [l21_0_spec K f cs (pre ++ [c]) l _ (at_set h) (by simp at hf; omega) (by rw [← hs]; exact hl) hl0 (by simp at hl1; omega)]
          simp
        simp only [h2, if_true]
        unfold blB at h2
        by_cases a1 : ((c.toNat : Int) == 32) = true
        · simp only [a1, cond_true]; exact go
        · simp only [show ((c.toNat : Int) == 32) = false by simpa using a1, cond_false]
          by_cases a2 : ((c.toNat : Int) == 9) = true
          · simp only [a2, cond_true]; exact go
          · simp only [show ((c.toNat : Int) == 9) = false by simpa using a2, cond_false]
            have a3 : ((c.toNat : Int) == 13) = true := by
              rw [show ((c.toNat : Int) == 32) = false by simpa using a1, show ((c.toNat : Int) == 9) = false by simpa using a2] at h2
              simpa using h2
            simp only [a3, cond_true]; exact go
      · have h2' : blB c = false := by simpa using h2
        simp only [h2', Bool.false_eq_true, if_false]
        unfold blB at h2'
        have a1 : ((c.toNat : Int) == 32) = false := by revert h2'; cases ((c.toNat : Int) == 32) <;> simp
        have a2 : ((c.toNat : Int) == 9) = false := by revert h2'; rw [a1]; cases ((c.toNat : Int) == 9) <;> simp
        have a3 : ((c.toNat : Int) == 13) = false := by revert h2'; rw [a1, a2]; cases ((c.toNat : Int) == 13) <;> simp
        simp only [a1, a2, a3, cond_false]
        by_cases h3 : reB c = true
        · have h3' := h3
          unfold reB at h3'
          simp only [h3', cond_true, h3, if_true]
          rw [l21_3_spec _ l (c :: cs) pre 1152921504606846976 G h (by simp at hl ⊢; omega) (by omega)]
          simp only [List.dropWhile_cons, h1', Bool.not_false, if_true]
          obtain ⟨q, hq⟩ := List.dropWhile_suffix (fun c => !nlB c) (l := cs)
          have hs2 : (pre ++ c :: cs) = ((pre ++ (c :: q)) ++ cs.dropWhile fun c => !nlB c) := by
            rw [List.append_assoc, List.cons_append, hq]
          have hq' : q.length + (cs.dropWhile fun c => !nlB c).length = cs.length := by rw [← List.length_append, hq]
          rw [hs2, rs_pre]
          rw [l21_0_spec K f (cs.dropWhile fun c => !nlB c) (pre ++ (c :: q)) l _ (at_set h) (by simp at hf; omega) (by rw [← hs2]; exact hl) hl0 (by simp at hl1; omega)]
          rw [skipR_drop]
          simp
        · have h3' : reB c = false := by simpa using h3
          simp only [h3', Bool.false_eq_true, if_false]
          unfold reB at h3'
          simp only [h3', cond_false]
          rw [rs_pre, set_self h]
end
end Go.LI.Lex
