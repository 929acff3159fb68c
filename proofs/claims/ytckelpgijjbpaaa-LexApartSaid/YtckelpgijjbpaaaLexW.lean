/- The reader of a text: numbers. -/
import Derived.Test.YtckelpgijjbpaaaLexV
namespace Go.LI.Lex
open Go.Proofs.Ytckelpgijjbpaaa Go Go.Proofs Go.LI
set_option linter.unusedVariables false
set_option linter.unusedSimpArgs false

theorem ivStr_str (s : List UInt8) : ivStr (.str s) = some s := rfl
theorem ivBool_bool (s : Bool) : ivBool (.bool s) = some s := rfl
theorem ivInt_i64 (x : Int) : ivInt .i64 (.int .i64 x) = some x := rfl
theorem ivFloat_f64 (x : Nat) : ivFloat .f64 (.float .f64 x) = some x := rfl
theorem ivTup2 (a b : IV) : ivTup 2 (.tuple [a, b]) = some [a, b] := rfl
theorem ivTup0 : ivTup 0 (.tuple []) = some [] := rfl
theorem ivAgg4 (a b c d : IV) : ivAgg 4 (.agg [a, b, c, d]) = some [a, b, c, d] := rfl
theorem getD0 (a : IV) (l : List IV) : (a :: l).getD 0 undefI = a := rfl
theorem getD1 (a b : IV) (l : List IV) : (a :: b :: l).getD 1 undefI = b := rfl
theorem getD2 (a b c : IV) (l : List IV) : (a :: b :: c :: l).getD 2 undefI = c := rfl
theorem getD3 (a b c d : IV) (l : List IV) : (a :: b :: c :: d :: l).getD 3 undefI = d := rfl

def numE (neg : Bool) (whole part rest : List UInt8) : List UInt8 × Option Nat × List UInt8 :=
  (rest, bif numBad whole part rest then none else some (numW neg whole part), whole ++ part)
/-- A number's digits, and perhaps a point and digits: what is left, its word, its digits. -/
def numM (neg : Bool) (rest : List UInt8) : List UInt8 × Option Nat × List UInt8 :=
  match rest.dropWhile digB with
  | [] => numE neg (rest.takeWhile digB) [] []
  | c :: cs => bif (c.toNat : Int) == 46 then (bif cs.takeWhile digB == [] then (cs.dropWhile digB, none, []) else numE neg (rest.takeWhile digB) (cs.takeWhile digB) (cs.dropWhile digB))
    else numE neg (rest.takeWhile digB) [] (c :: cs)

/-- What a number's end leaves. -/
def numOut {R : Type} (t : List UInt8) (l nb b : Int) (r : Nat) (G : GH) (k : IV → GH → Option R) (x : List UInt8 × Option Nat × List UInt8) : Option R :=
  match x.2.1 with
  | none => k (.tuple [.agg [.int .i64 0, .str [], .float .f64 0, .int .i64 0], .int .i64 162]) (G.set r (rs t x.1 l nb 162))
  | some w => k (.tuple [.agg [.int .i64 2, .str [], .float .f64 w, .int .i64 l], .int .i64 0]) (gnew (G.set r (rs t x.1 l nb b)) (bytesI x.2.2) 5)

theorem takeWhile_all (p : UInt8 → Bool) : ∀ (l : List UInt8), ∀ c ∈ l.takeWhile p, p c = true
  | [], c, h => by simp at h
  | x :: xs, c, h => by
    rw [List.takeWhile_cons] at h
    split at h
    · rename_i hx
      rcases List.mem_cons.1 h with rfl | h
      · exact hx
      · exact takeWhile_all p xs c h
    · simp at h

section
variable {R : Type} {r : Nat} {l nb b : Int}

theorem numOut_E {G0 G : GH} {t : List UInt8} {k : IV → GH → Option R} (neg : Bool) (whole part rest : List UInt8) (pre : List UInt8) (ht : t = pre ++ rest) (hG : G = G0.set r (rd (pre ++ rest) pre.length l nb b)) :
    (bif numBad whole part rest then k (.tuple [.agg [.int .i64 0, .str [], .float .f64 0, .int .i64 0], .int .i64 162]) (G.set r (rd (pre ++ rest) pre.length l nb 162))
      else k (.tuple [.agg [.int .i64 2, .str [], .float .f64 (numW neg whole part), .int .i64 l], .int .i64 0]) (gnew G (bytesI (whole ++ part)) 5)) = numOut t l nb b r G0 k (numE neg whole part rest) := by
  subst ht; subst hG
  unfold numOut numE
  cases numBad whole part rest <;> simp [rs_pre]

theorem num_mid (n : Nat) (s4 : Bool) (b0_0 : Int) (b0_1 : List UInt8) (b0_2 : Nat) (b0_3 : Int) {G : GH} {pre rest : List UInt8} (h : G[r]? = some (rd (pre ++ rest) pre.length l nb b)) (hlen : (pre ++ rest).length < 1152921504606846976) (k : IV → GH → Option R) :
    (fun (O : Ora R) (s0 : GA) => O 24 [.ptr (some s0), .func 26 []] G fun v3 G4 =>
  (ivStr v3).bind fun x5 =>
  stepN 1152921504606846976 (c27_1 O (fun (s3 : Int) (b0_0 : Int) (b0_1 : List UInt8) (b0_2 : Nat) (b0_3 : Int) G => k (.tuple [.agg [.int .i64 b0_0, .str b0_1, .float .f64 b0_2, .int .i64 b0_3], .int .i64 s3]) G) (fun (s0 : GA) (s4 : Bool) (s5 : List UInt8) (s6 : List UInt8) (b0_0 : Int) (b0_1 : List UInt8) (b0_2 : Nat) (b0_3 : Int) G => stepN 1152921504606846976 (c27_3 O (fun (s0 : GA) (s4 : Bool) (s5 : List UInt8) (s6 : List UInt8) (s7 : Bool) (b0_0 : Int) (b0_1 : List UInt8) (b0_2 : Nat) (b0_3 : Int) G => stepN 1152921504606846976 (c27_4 O (fun (s0 : GA) (s4 : Bool) (s5 : List UInt8) (s6 : List UInt8) (s128 : Bool) (b0_0 : Int) (b0_1 : List UInt8) (b0_2 : Nat) (b0_3 : Int) G => bif s128 then
  O 22 [.ptr (some s0), .int .i64 (162 : Int)] G fun v6 G7 =>
  (ivTup 2 v6).bind fun c8 =>
  (ivAgg 4 (c8.getD 0 undefI)).bind fun c9 =>
  (ivInt .i64 (c9.getD 0 undefI)).bind fun x10 =>
  (ivStr (c9.getD 1 undefI)).bind fun x11 =>
  (ivFloat .f64 (c9.getD 2 undefI)).bind fun x12 =>
  (ivInt .i64 (c9.getD 3 undefI)).bind fun x13 =>
  (ivInt .i64 (c8.getD 1 undefI)).bind fun x14 =>
  k (.tuple [.agg [.int .i64 x10, .str x11, .float .f64 x12, .int .i64 x13], .int .i64 x14]) G7
  else
  bif decide (s5.length + s6.length ≤ roomS) then
  l27_5 O (fun (s0 : GA) (s4 : Bool) (s6 : List UInt8) (s8 : Int) (s9 : Int) (b0_0 : Int) (b0_1 : List UInt8) (b0_2 : Nat) (b0_3 : Int) G => l27_6 O (fun (s0 : GA) (s4 : Bool) (s8 : Int) (s9 : Int) (b0_0 : Int) (b0_1 : List UInt8) (b0_2 : Nat) (b0_3 : Int) G => ((FloatKind.format .f64).div (FloatKind.nearest .f64 s8) (FloatKind.nearest .f64 s9)).bind fun r15 =>
  stepN 1152921504606846976 (c27_7 O (fun (s0 : GA) (s12 : Nat) (b0_0 : Int) (b0_1 : List UInt8) (b0_2 : Nat) (b0_3 : Int) G => (ldInt G .i64 (GA.add s0 2)).bind fun x16 =>
  k (.tuple [.agg [.int .i64 (2 : Int), .str ([] : List UInt8), .float .f64 s12, .int .i64 x16], .int .i64 (0 : Int)]) G) s0 s4 r15 b0_0 b0_1 b0_2 b0_3 G)) 1152921504606846976 s0 s4 s8 s9 (s6.length : Int) (0 : Int) b0_0 b0_1 b0_2 b0_3 G) 1152921504606846976 s0 s4 s6 (0 : Int) (1 : Int) (some (gaddr G)) ((s5 ++ s6).length) (((s5 ++ s6).length) : Int) (0 : Int) b0_0 b0_1 b0_2 b0_3 (gnew G (bytesI (s5 ++ s6)) 5)
  else none) s0 s4 s5 s6 s7 b0_0 b0_1 b0_2 b0_3 G)) s0 s4 s5 s6 b0_0 b0_1 b0_2 b0_3 G)) 1152921504606846976 s0 s4 x5 ([] : List UInt8) b0_0 b0_1 b0_2 b0_3 G4)) (runL Try.prog lexLib lo0 1152921504606846976 (n + 2)) ⟨r, 0⟩ = numOut (pre ++ rest) l nb b r G k (numM s4 rest) := by
  have hl1 : rest.length < 1152921504606846976 := by simp at hlen; omega
  have hl2 : (pre ++ rest).length < 2 ^ 62 := by omega
  have ht0 : (rest.takeWhile digB).length ≤ rest.length := (List.takeWhile_prefix digB).length_le
  have hsp : pre ++ rest = (pre ++ rest.takeWhile digB) ++ rest.dropWhile digB := by rw [List.append_assoc, List.takeWhile_append_dropWhile]
  dsimp only
  rw [s24b n h hl1 hl2]
  simp only [ivStr_str, Option.bind_some, stepN_big, c27_1, c27_2]
  have h1 : (G.set r (rd (pre ++ rest) (pre.length + (rest.takeWhile digB).length : Nat) l nb b))[r]? = some (rd ((pre ++ rest.takeWhile digB) ++ rest.dropWhile digB) ((pre ++ rest.takeWhile digB).length : Int) l nb b) := by
    rw [at_set h, ← hsp]; simp
  have hG1 : (G.set r (rd (pre ++ rest) (pre.length + (rest.takeWhile digB).length : Nat) l nb b)) = G.set r (rd ((pre ++ rest.takeWhile digB) ++ rest.dropWhile digB) ((pre ++ rest.takeWhile digB).length : Int) l nb b) := by
    rw [← hsp]; simp
  rw [hG1] at h1 ⊢
  have hlen' := hlen
  rw [hsp] at hlen'
  unfold numM
  cases hr : rest.dropWhile digB with
  | nil =>
    rw [hr] at h1 hsp hlen'
    simp only [hr, ld_a h1, ld_t h1, Option.bind_some, end_pre, cond_false]
    have := num_tail (n + 1) s4 (rest.takeWhile digB) [] b0_0 b0_1 b0_2 b0_3 h1 (takeWhile_all digB rest) (by simp) hlen' (by omega) (by simp) k
    simp only [stepN_big, show n + 1 + 1 = n + 2 from rfl] at this
    rw [this]
    exact numOut_E s4 _ _ _ _ hsp rfl
  | cons c cs =>
    rw [hr] at h1 hsp hlen'
    simp only [hr, ld_a h1, ld_t h1, Option.bind_some, lt_pre, in_pre, at_pre, cond_true]
    by_cases hc : ((c.toNat : Int) == 46) = true
    · have hpre2 : (pre ++ rest.takeWhile digB) ++ c :: cs = ((pre ++ rest.takeWhile digB) ++ [c]) ++ cs := by simp
      have hl3 : (pre ++ rest.takeWhile digB).length + 1 ≤ 2 ^ 62 := by simp at hlen' ⊢; omega
      simp only [hc, cond_true, st_a h1, Option.bind_some, List.set_set]
      rw [next_pre _ c hl3, hpre2]
      have h2 : (G.set r (rd (((pre ++ rest.takeWhile digB) ++ [c]) ++ cs) (((pre ++ rest.takeWhile digB) ++ [c]).length : Int) l nb b))[r]? = some (rd (((pre ++ rest.takeWhile digB) ++ [c]) ++ cs) (((pre ++ rest.takeWhile digB) ++ [c]).length : Int) l nb b) := at_set h
      have hl4 : (((pre ++ rest.takeWhile digB) ++ [c]) ++ cs).length < 1152921504606846976 := by rw [← hpre2]; exact hlen'
      rw [s24b n h2 (by simp at hl4; omega) (by omega)]
      simp only [ivStr_str, Option.bind_some, List.set_set]
      have hsp2 : ((pre ++ rest.takeWhile digB) ++ [c]) ++ cs = (((pre ++ rest.takeWhile digB) ++ [c]) ++ cs.takeWhile digB) ++ cs.dropWhile digB := by
        rw [List.append_assoc _ (cs.takeWhile digB), List.takeWhile_append_dropWhile]
      have hG3 : (G.set r (rd (((pre ++ rest.takeWhile digB) ++ [c]) ++ cs) ((((pre ++ rest.takeWhile digB) ++ [c]).length + (cs.takeWhile digB).length : Nat) : Int) l nb b)) =
          G.set r (rd ((((pre ++ rest.takeWhile digB) ++ [c]) ++ cs.takeWhile digB) ++ cs.dropWhile digB) ((((pre ++ rest.takeWhile digB) ++ [c]) ++ cs.takeWhile digB).length : Int) l nb b) := by
        rw [← hsp2]; congr 2; simp; omega
      rw [hG3]
      have h3 : (G.set r (rd ((((pre ++ rest.takeWhile digB) ++ [c]) ++ cs.takeWhile digB) ++ cs.dropWhile digB) ((((pre ++ rest.takeWhile digB) ++ [c]) ++ cs.takeWhile digB).length : Int) l nb b))[r]? =
          some (rd ((((pre ++ rest.takeWhile digB) ++ [c]) ++ cs.takeWhile digB) ++ cs.dropWhile digB) ((((pre ++ rest.takeWhile digB) ++ [c]) ++ cs.takeWhile digB).length : Int) l nb b) := at_set h
      have hte : pre ++ rest = (((pre ++ rest.takeWhile digB) ++ [c]) ++ cs.takeWhile digB) ++ cs.dropWhile digB := by rw [hsp, hpre2, hsp2]
      by_cases he : (cs.takeWhile digB == []) = true
      · simp only [he, cond_true]
        rw [s22 (n + 1) h3]
        simp only [ivTup2, ivAgg4, ivInt_i64, ivStr_str, ivFloat_f64, getD0, getD1, getD2, getD3, Option.bind_some, numOut, List.set_set]
        rw [hte, rs_pre]
      · have he' : (cs.takeWhile digB == []) = false := by simpa using he
        simp only [he', cond_false]
        have := num_tail (n + 1) s4 (rest.takeWhile digB) (cs.takeWhile digB) b0_0 b0_1 b0_2 b0_3 h3 (takeWhile_all digB rest) (takeWhile_all digB cs) (by rw [← hte]; exact hlen) (by omega)
          (by have := (List.takeWhile_prefix digB (l := cs)).length_le; simp at hl4; omega) k
        simp only [stepN_big, show n + 1 + 1 = n + 2 from rfl] at this
        rw [this]
        exact numOut_E s4 _ _ _ _ hte rfl
    · have hc' : ((c.toNat : Int) == 46) = false := by simpa using hc
      simp only [hc', cond_false]
      have := num_tail (n + 1) s4 (rest.takeWhile digB) [] b0_0 b0_1 b0_2 b0_3 h1 (takeWhile_all digB rest) (by simp) hlen' (by omega) (by simp) k
      simp only [stepN_big, show n + 1 + 1 = n + 2 from rfl] at this
      rw [this]
      exact numOut_E s4 _ _ _ _ hsp rfl

/-- A number, from its sign on. -/
def numR : List UInt8 → List UInt8 × Option Nat × List UInt8
  | [] => ([], none, [])
  | c :: cs => bif (c.toNat : Int) == 45 then numM true cs else numM false (c :: cs)

theorem s27 (n : Nat) {G : GH} {pre cs : List UInt8} {c : UInt8} (h : G[r]? = some (rd (pre ++ c :: cs) pre.length l nb b)) (hlen : (pre ++ c :: cs).length < 1152921504606846976) (k : IV → GH → Option R) :
    runL Try.prog lexLib lo0 1152921504606846976 (n + 3) 27 [.ptr (some ⟨r, 0⟩)] G k = numOut (pre ++ c :: cs) l nb b r G k (numR (c :: cs)) := by
  rw [r27, e27]
  simp only [ld_t h, ld_a h, Option.bind_some, in_pre, cond_true, at_pre, stepN_big, c27_0, numR]
  by_cases hc : ((c.toNat : Int) == 45) = true
  · simp only [hc, cond_true, ld_a h, st_a h, Option.bind_some]
    have hs : pre ++ c :: cs = (pre ++ [c]) ++ cs := by simp
    rw [next_pre pre c (by simp at hlen; omega), hs]
    have := num_mid n true 0 [] 0 0 (at_set (y := rd ((pre ++ [c]) ++ cs) ((pre ++ [c]).length : Int) l nb b) h) (by rw [← hs]; exact hlen) k
    simp only [stepN_big] at this
    rw [this]
    unfold numOut
    split <;> simp [List.set_set]
  · have hc' : ((c.toNat : Int) == 45) = false := by simpa using hc
    simp only [hc', cond_false]
    have := num_mid n false 0 [] 0 0 h hlen k
    simp only [stepN_big] at this
    exact this
end
end Go.LI.Lex
