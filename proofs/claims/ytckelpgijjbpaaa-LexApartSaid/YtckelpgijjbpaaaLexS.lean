/- The reader of a text: what its functions do, in plain Lean. -/
import Derived.Test.YtckelpgijjbpaaaLexB
import Derived.IntWalk
namespace Go.LI.Lex
open Go.Proofs.Ytckelpgijjbpaaa Go Go.Proofs Go.LI
set_option linter.unusedVariables false
set_option linter.unusedSimpArgs false

/-- A reader's block. -/
def rd (t : List UInt8) (a l n b : Int) : Blk := ⟨[.str t, .int .i64 a, .int .i64 l, .int .i64 n, .int .i64 b], 58, 1⟩

section
variable {G : GH} {r : Nat} {t : List UInt8} {a l n b : Int}
theorem ld_t (h : G[r]? = some (rd t a l n b)) : ldStr G (GA.add ⟨r, 0⟩ 0) = some t := by simp [ldStr, gld, GA.add, h, rd]
theorem ld_a (h : G[r]? = some (rd t a l n b)) : ldInt G .i64 (GA.add ⟨r, 0⟩ 1) = some a := by simp [ldInt, gld, GA.add, h, rd]
theorem ld_l (h : G[r]? = some (rd t a l n b)) : ldInt G .i64 (GA.add ⟨r, 0⟩ 2) = some l := by simp [ldInt, gld, GA.add, h, rd]
theorem ld_n (h : G[r]? = some (rd t a l n b)) : ldInt G .i64 (GA.add ⟨r, 0⟩ 3) = some n := by simp [ldInt, gld, GA.add, h, rd]
theorem ld_b (h : G[r]? = some (rd t a l n b)) : ldInt G .i64 (GA.add ⟨r, 0⟩ 4) = some b := by simp [ldInt, gld, GA.add, h, rd]
theorem st_a {v : Int} (h : G[r]? = some (rd t a l n b)) : gst G (GA.add ⟨r, 0⟩ 1) [.int .i64 v] = some (G.set r (rd t v l n b)) := by simp [gst, GA.add, h, rd, splice]
theorem st_l {v : Int} (h : G[r]? = some (rd t a l n b)) : gst G (GA.add ⟨r, 0⟩ 2) [.int .i64 v] = some (G.set r (rd t a v n b)) := by simp [gst, GA.add, h, rd, splice]
theorem st_n {v : Int} (h : G[r]? = some (rd t a l n b)) : gst G (GA.add ⟨r, 0⟩ 3) [.int .i64 v] = some (G.set r (rd t a l v b)) := by simp [gst, GA.add, h, rd, splice]
theorem st_b {v : Int} (h : G[r]? = some (rd t a l n b)) : gst G (GA.add ⟨r, 0⟩ 4) [.int .i64 v] = some (G.set r (rd t a l n v)) := by simp [gst, GA.add, h, rd, splice]
theorem at_set {x y : Blk} (h : G[r]? = some x) : (G.set r y)[r]? = some y := by
  have : r < G.length := (List.getElem?_eq_some_iff.1 h).1
  simp [this]
theorem at_freeze (h : G[r]? = some (rd t a l n b)) : (gfreeze G)[r]? = some { rd t a l n b with mode := 0 } := by simp [gfreeze, h, rd]
end

/-! ### Letters and digits -/
def letterB (c : Int) : Bool := decide (97 ≤ c ∧ c ≤ 122) || decide (65 ≤ c ∧ c ≤ 90)
def digitB (c : Int) : Bool := decide (48 ≤ c ∧ c ≤ 57)
section
variable {R : Type} (fuel n : Nat) (c : Int) (G : GH) (k : IV → GH → Option R)
theorem s23 : runL Try.prog lexLib lo0 fuel (n + 1) 23 [.int .u8 c] G k = k (.bool (letterB c)) G := by
  rw [r23, e23]
  unfold letterB
  by_cases h1 : (97 : Int) ≤ c <;> by_cases h2 : c ≤ 122 <;> by_cases h3 : (65 : Int) ≤ c <;> by_cases h4 : c ≤ 90 <;> simp [h1, h2, h3, h4, isFlat] <;> omega
theorem s26 : runL Try.prog lexLib lo0 fuel (n + 1) 26 [.int .u8 c] G k = k (.bool (digitB c)) G := by
  rw [r26, e26]
  unfold digitB
  by_cases h1 : (48 : Int) ≤ c <;> by_cases h2 : c ≤ 57 <;> simp [h1, h2, isFlat]
theorem s25 : runL Try.prog lexLib lo0 fuel (n + 2) 25 [.int .u8 c] G k = k (.bool (letterB c || (digitB c || c == 45))) G := by
  rw [r25, e25, s23]
  simp only [ivBool, Option.bind_some]
  cases letterB c
  · simp only [cond_false]
    rw [s26]
    simp only [ivBool, Option.bind_some]
    cases digitB c <;> simp [isFlat]
  · simp [isFlat]
theorem s28 : runL Try.prog lexLib lo0 fuel (n + 1) 28 [.int .u8 c] G k = k (.bool (c != 34 && c != 10)) G := by
  rw [r28, e28]
  cases h : (c != (34 : Int)) <;> simp [isFlat]
end


/-! ### As long as the bytes are so -/
def wordB (c : UInt8) : Bool := letterB (c.toNat : Int) || (digitB (c.toNat : Int) || ((c.toNat : Int) == 45))
def digB (c : UInt8) : Bool := digitB (c.toNat : Int)
def quoB (c : UInt8) : Bool := ((c.toNat : Int) != 34) && ((c.toNat : Int) != 10)

theorem take_takeWhile (p : UInt8 → Bool) : ∀ l : List UInt8, l.take (l.takeWhile p).length = l.takeWhile p
  | [] => by simp
  | c :: cs => by
    by_cases h : p c = true
    · simp [List.takeWhile_cons, h, take_takeWhile p cs]
    · simp [List.takeWhile_cons, h]

theorem set_self {G : GH} {r : Nat} {x : Blk} (h : G[r]? = some x) : G.set r x = G := by
  obtain ⟨hlt, he⟩ := List.getElem?_eq_some_iff.1 h
  rw [← he]; exact List.set_getElem_self hlt

theorem at_pre (pre cs : List UInt8) (c : UInt8) : (pre ++ c :: cs).getD (Int.toNat (pre.length : Int)) 0 = c := by simp [List.getD]
theorem lt_pre (pre cs : List UInt8) (c : UInt8) : decide ((pre.length : Int) < ((pre ++ c :: cs).length : Int)) = true := by simp; omega
theorem in_pre (pre cs : List UInt8) (c : UInt8) : decide (0 ≤ (pre.length : Int) ∧ (pre.length : Int) < ((pre ++ c :: cs).length : Int)) = true := by simp; omega
theorem end_pre (pre : List UInt8) : decide ((pre.length : Int) < ((pre ++ []).length : Int)) = false := by simp
theorem next_pre (pre : List UInt8) (c : UInt8) (h : pre.length + 1 ≤ 2 ^ 62) : IntKind.wrap .i64 ((pre.length : Int) + 1) = ((pre ++ [c]).length : Int) := by
  rw [IntWalk.i64_in _ (by omega)]; simp

section
variable {R : Type} {r : Nat} {l nn b : Int}

theorem stepN_big {x : Option R} : stepN 1152921504606846976 x = x := rfl

theorem l24a_spec (n : Nat) (s5 : Int) (K : GA → Int → GH → Option R) : ∀ (rest pre : List UInt8) (fuel : Nat) (G : GH), G[r]? = some (rd (pre ++ rest) pre.length l nn b) → rest.length < fuel → (pre ++ rest).length < 2 ^ 62 →
    l24a_0 (runL Try.prog lexLib lo0 1152921504606846976 (n + 2)) K 1152921504606846976 fuel ⟨r, 0⟩ s5 G = K ⟨r, 0⟩ s5 (G.set r (rd (pre ++ rest) (pre.length + (rest.takeWhile wordB).length : Nat) l nn b))
  | [], pre, 0, G, h, hf, _ => by simp at hf
  | [], pre, f + 1, G, h, hf, _ => by
    simp only [l24a_0, stepN_big, c24a_1, ld_a h, ld_t h, Option.bind_some, end_pre, cond_false, List.takeWhile_nil, List.length_nil, Nat.add_zero]
    rw [set_self h]
  | c :: cs, pre, 0, G, h, hf, _ => by simp at hf
  | c :: cs, pre, f + 1, G, h, hf, hl => by
    simp only [l24a_0, stepN_big, c24a_1, ld_a h, ld_t h, Option.bind_some, lt_pre, in_pre, cond_true, at_pre, s25, ivBool]
    by_cases hc : wordB c = true
    · have h' := hc
      unfold wordB at h'
      rw [h']
      simp only [cond_true, ld_a h, st_a h, Option.bind_some]
      rw [next_pre pre c (by simp at hl; omega)]
      have hs : (pre ++ c :: cs) = ((pre ++ [c]) ++ cs) := by simp
      rw [hs]
      rw [l24a_spec n s5 K cs (pre ++ [c]) f _ (at_set h) (by simp at hf; omega) (by rw [← hs]; exact hl)]
      simp [List.takeWhile_cons, hc, Nat.add_assoc, Nat.add_comm 1]
    · have h' : wordB c = false := by simpa using hc
      have h2 := h'
      unfold wordB at h2
      rw [h2]
      simp only [cond_false, List.takeWhile_cons, h', Bool.false_eq_true, if_false, List.length_nil, Nat.add_zero]
      rw [set_self h]

/-- 'run', as far as the bytes are so. -/
theorem s24a (n : Nat) {G : GH} {pre rest : List UInt8} (h : G[r]? = some (rd (pre ++ rest) pre.length l nn b)) (hf : rest.length < 1152921504606846976) (hl : (pre ++ rest).length < 2 ^ 62) (k : IV → GH → Option R) :
    runL Try.prog lexLib lo0 1152921504606846976 (n + 3) 24 [.ptr (some ⟨r, 0⟩), .func 25 []] G k = k (.str (rest.takeWhile wordB)) (G.set r (rd (pre ++ rest) (pre.length + (rest.takeWhile wordB).length : Nat) l nn b)) := by
  rw [r24a, e24a]
  simp only [ld_a h, Option.bind_some]
  rw [l24a_spec n _ _ rest pre 1152921504606846976 G h hf hl]
  simp only [ld_a (at_set h), ld_t (at_set h), Option.bind_some]
  have hle : (rest.takeWhile wordB).length ≤ rest.length := (List.takeWhile_prefix wordB).length_le
  have hd : decide (0 ≤ (pre.length : Int) ∧ (pre.length : Int) ≤ ((pre.length + (rest.takeWhile wordB).length : Nat) : Int) ∧ ((pre.length + (rest.takeWhile wordB).length : Nat) : Int) ≤ ((pre ++ rest).length : Int)) = true := by
    simp only [List.length_append, decide_eq_true_eq]; omega
  rw [hd]
  simp only [cond_true, Int.toNat_natCast]
  rw [List.drop_left, Nat.add_sub_cancel_left]
  congr 2
  exact take_takeWhile _ _

theorem l24b_spec (n : Nat) (s5 : Int) (K : GA → Int → GH → Option R) : ∀ (rest pre : List UInt8) (fuel : Nat) (G : GH), G[r]? = some (rd (pre ++ rest) pre.length l nn b) → rest.length < fuel → (pre ++ rest).length < 2 ^ 62 →
    l24b_0 (runL Try.prog lexLib lo0 1152921504606846976 (n + 1)) K 1152921504606846976 fuel ⟨r, 0⟩ s5 G = K ⟨r, 0⟩ s5 (G.set r (rd (pre ++ rest) (pre.length + (rest.takeWhile digB).length : Nat) l nn b))
  | [], pre, 0, G, h, hf, _ => by simp at hf
  | [], pre, f + 1, G, h, hf, _ => by
    simp only [l24b_0, stepN_big, c24b_1, ld_a h, ld_t h, Option.bind_some, end_pre, cond_false, List.takeWhile_nil, List.length_nil, Nat.add_zero]
    rw [set_self h]
  | c :: cs, pre, 0, G, h, hf, _ => by simp at hf
  | c :: cs, pre, f + 1, G, h, hf, hl => by
    simp only [l24b_0, stepN_big, c24b_1, ld_a h, ld_t h, Option.bind_some, lt_pre, in_pre, cond_true, at_pre, s26, ivBool]
    by_cases hc : digB c = true
    · have h' := hc
      unfold digB at h'
      rw [h']
      simp only [cond_true, ld_a h, st_a h, Option.bind_some]
      rw [next_pre pre c (by simp at hl; omega)]
      have hs : (pre ++ c :: cs) = ((pre ++ [c]) ++ cs) := by simp
      rw [hs]
      rw [l24b_spec n s5 K cs (pre ++ [c]) f _ (at_set h) (by simp at hf; omega) (by rw [← hs]; exact hl)]
      simp [List.takeWhile_cons, hc, Nat.add_assoc, Nat.add_comm 1]
    · have h' : digB c = false := by simpa using hc
      have h2 := h'
      unfold digB at h2
      rw [h2]
      simp only [cond_false, List.takeWhile_cons, h', Bool.false_eq_true, if_false, List.length_nil, Nat.add_zero]
      rw [set_self h]

/-- 'run', as far as the bytes are so. -/
theorem s24b (n : Nat) {G : GH} {pre rest : List UInt8} (h : G[r]? = some (rd (pre ++ rest) pre.length l nn b)) (hf : rest.length < 1152921504606846976) (hl : (pre ++ rest).length < 2 ^ 62) (k : IV → GH → Option R) :
    runL Try.prog lexLib lo0 1152921504606846976 (n + 2) 24 [.ptr (some ⟨r, 0⟩), .func 26 []] G k = k (.str (rest.takeWhile digB)) (G.set r (rd (pre ++ rest) (pre.length + (rest.takeWhile digB).length : Nat) l nn b)) := by
  rw [r24b, e24b]
  simp only [ld_a h, Option.bind_some]
  rw [l24b_spec n _ _ rest pre 1152921504606846976 G h hf hl]
  simp only [ld_a (at_set h), ld_t (at_set h), Option.bind_some]
  have hle : (rest.takeWhile digB).length ≤ rest.length := (List.takeWhile_prefix digB).length_le
  have hd : decide (0 ≤ (pre.length : Int) ∧ (pre.length : Int) ≤ ((pre.length + (rest.takeWhile digB).length : Nat) : Int) ∧ ((pre.length + (rest.takeWhile digB).length : Nat) : Int) ≤ ((pre ++ rest).length : Int)) = true := by
    simp only [List.length_append, decide_eq_true_eq]; omega
  rw [hd]
  simp only [cond_true, Int.toNat_natCast]
  rw [List.drop_left, Nat.add_sub_cancel_left]
  congr 2
  exact take_takeWhile _ _

theorem l24c_spec (n : Nat) (s5 : Int) (K : GA → Int → GH → Option R) : ∀ (rest pre : List UInt8) (fuel : Nat) (G : GH), G[r]? = some (rd (pre ++ rest) pre.length l nn b) → rest.length < fuel → (pre ++ rest).length < 2 ^ 62 →
    l24c_0 (runL Try.prog lexLib lo0 1152921504606846976 (n + 1)) K 1152921504606846976 fuel ⟨r, 0⟩ s5 G = K ⟨r, 0⟩ s5 (G.set r (rd (pre ++ rest) (pre.length + (rest.takeWhile quoB).length : Nat) l nn b))
  | [], pre, 0, G, h, hf, _ => by simp at hf
  | [], pre, f + 1, G, h, hf, _ => by
    simp only [l24c_0, stepN_big, c24c_1, ld_a h, ld_t h, Option.bind_some, end_pre, cond_false, List.takeWhile_nil, List.length_nil, Nat.add_zero]
    rw [set_self h]
  | c :: cs, pre, 0, G, h, hf, _ => by simp at hf
  | c :: cs, pre, f + 1, G, h, hf, hl => by
    simp only [l24c_0, stepN_big, c24c_1, ld_a h, ld_t h, Option.bind_some, lt_pre, in_pre, cond_true, at_pre, s28, ivBool]
    by_cases hc : quoB c = true
    · have h' := hc
      unfold quoB at h'
      rw [h']
      simp only [cond_true, ld_a h, st_a h, Option.bind_some]
      rw [next_pre pre c (by simp at hl; omega)]
      have hs : (pre ++ c :: cs) = ((pre ++ [c]) ++ cs) := by simp
      rw [hs]
      rw [l24c_spec n s5 K cs (pre ++ [c]) f _ (at_set h) (by simp at hf; omega) (by rw [← hs]; exact hl)]
      simp [List.takeWhile_cons, hc, Nat.add_assoc, Nat.add_comm 1]
    · have h' : quoB c = false := by simpa using hc
      have h2 := h'
      unfold quoB at h2
      rw [h2]
      simp only [cond_false, List.takeWhile_cons, h', Bool.false_eq_true, if_false, List.length_nil, Nat.add_zero]
      rw [set_self h]

/-- 'run', as far as the bytes are so. -/
theorem s24c (n : Nat) {G : GH} {pre rest : List UInt8} (h : G[r]? = some (rd (pre ++ rest) pre.length l nn b)) (hf : rest.length < 1152921504606846976) (hl : (pre ++ rest).length < 2 ^ 62) (k : IV → GH → Option R) :
    runL Try.prog lexLib lo0 1152921504606846976 (n + 2) 24 [.ptr (some ⟨r, 0⟩), .func 28 []] G k = k (.str (rest.takeWhile quoB)) (G.set r (rd (pre ++ rest) (pre.length + (rest.takeWhile quoB).length : Nat) l nn b)) := by
  rw [r24c, e24c]
  simp only [ld_a h, Option.bind_some]
  rw [l24c_spec n _ _ rest pre 1152921504606846976 G h hf hl]
  simp only [ld_a (at_set h), ld_t (at_set h), Option.bind_some]
  have hle : (rest.takeWhile quoB).length ≤ rest.length := (List.takeWhile_prefix quoB).length_le
  have hd : decide (0 ≤ (pre.length : Int) ∧ (pre.length : Int) ≤ ((pre.length + (rest.takeWhile quoB).length : Nat) : Int) ∧ ((pre.length + (rest.takeWhile quoB).length : Nat) : Int) ≤ ((pre ++ rest).length : Int)) = true := by
    simp only [List.length_append, decide_eq_true_eq]; omega
  rw [hd]
  simp only [cond_true, Int.toNat_natCast]
  rw [List.drop_left, Nat.add_sub_cancel_left]
  congr 2
  exact take_takeWhile _ _
end
end Go.LI.Lex
