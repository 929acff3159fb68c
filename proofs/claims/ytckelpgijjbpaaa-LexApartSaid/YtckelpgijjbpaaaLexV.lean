/- The reader of a text: a number. -/
import Derived.Test.YtckelpgijjbpaaaLexU
import Derived.Test.YtckelpgijjbpaaaLiAll2
namespace Go.LI.Lex
open Go.Proofs.Ytckelpgijjbpaaa Go Go.Proofs Go.LI
set_option linter.unusedVariables false
set_option linter.unusedSimpArgs false

/-- Does a number's end stand against something that may not follow? -/
def nextB : List UInt8 → Bool
  | [] => false
  | c :: _ => letterB (c.toNat : Int) || (((c.toNat : Int) == 46) || ((c.toNat : Int) == 45))

/-- The word of a number's text. -/
def numW (neg : Bool) (whole part : List UInt8) : Nat :=
  let x := ((FloatKind.format .f64).div (FloatKind.nearest .f64 (valN (whole ++ part) 0)) (FloatKind.nearest .f64 (10 ^ part.length))).getD 0
  bif neg then ((FloatKind.format .f64).sub 0 x).getD 0 else x
def numBad (whole part rest : List UInt8) : Bool := whole == [] || (decide (whole.length + part.length > 15) || nextB rest)

theorem ten_reads : ∀ j : Nat, j ≤ 15 → ∃ m e, (FloatKind.format .f64).read (FloatKind.nearest .f64 (10 ^ j)) = .number false m e ∧ m ≠ 0 := by
  intro j hj
  have : ∀ j : Fin 16, (match (FloatKind.format .f64).read (FloatKind.nearest .f64 (10 ^ j.val)) with | .number false m _ => decide (m ≠ 0) | _ => false) = true := by decide +kernel
  have := this ⟨j, by omega⟩
  simp only at this
  split at this
  · rename_i m e h; exact ⟨m, e, h, by simpa using this⟩
  · cases this

theorem num_div {v : Int} {j : Nat} (hj : j ≤ 15) : ∃ x, (FloatKind.format .f64).div (FloatKind.nearest .f64 v) (FloatKind.nearest .f64 (10 ^ j)) = some x ∧ nn (FloatKind.format .f64) x := by
  obtain ⟨m, e, h, hm⟩ := ten_reads j hj
  exact div_some _ (nn_nearest _ _ _ _) h hm
theorem zero_reads : (FloatKind.format .f64).read 0 = .number false 0 (-1074) := by decide +kernel
theorem num_sub {x : Nat} (hx : nn (FloatKind.format .f64) x) : ∃ y, (FloatKind.format .f64).sub 0 x = some y ∧ nn (FloatKind.format .f64) y := sub_some _ zero_reads hx

section
variable {R : Type} {r : Nat} {l nb b : Int}

theorem c27_3_val (n : Nat) (KN : GA → Bool → List UInt8 → List UInt8 → Bool → Int → List UInt8 → Nat → Int → GH → Option R) (s4 : Bool) (s5 s6 : List UInt8) (b0 : Int) (b1 : List UInt8) (b2 : Nat) (b3 : Int) {G : GH} {pre rest : List UInt8} (h : G[r]? = some (rd (pre ++ rest) pre.length l nb b)) :
    c27_3 (runL Try.prog lexLib lo0 1152921504606846976 (n + 1)) KN ⟨r, 0⟩ s4 s5 s6 b0 b1 b2 b3 G = KN ⟨r, 0⟩ s4 s5 s6 (nextB rest) b0 b1 b2 b3 G := by
  cases rest with
  | nil => simp only [c27_3, ld_a h, ld_t h, Option.bind_some, end_pre, cond_false, nextB]
  | cons c cs =>
    simp only [c27_3, ld_a h, ld_t h, Option.bind_some, lt_pre, in_pre, at_pre, cond_true, s23, ivBool, nextB]
    cases letterB (c.toNat : Int)
    · cases h2 : ((c.toNat : Int) == 46) <;> simp [h2]
    · simp

theorem num_tail (n : Nat) (s4 : Bool) (s5 s6 : List UInt8) (b0_0 : Int) (b0_1 : List UInt8) (b0_2 : Nat) (b0_3 : Int) {G : GH} {pre rest : List UInt8} (h : G[r]? = some (rd (pre ++ rest) pre.length l nb b))
    (hd5 : ∀ c ∈ s5, digB c = true) (hd6 : ∀ c ∈ s6, digB c = true) (hlen : (pre ++ rest).length < 1152921504606846976) (h5 : s5.length ≤ 1152921504606846976) (h6 : s6.length ≤ 1152921504606846976) (k : IV → GH → Option R) :
    (fun (O : Ora R) (s0 : GA) => stepN 1152921504606846976 (c27_3 O (fun (s0 : GA) (s4 : Bool) (s5 : List UInt8) (s6 : List UInt8) (s7 : Bool) (b0_0 : Int) (b0_1 : List UInt8) (b0_2 : Nat) (b0_3 : Int) G => stepN 1152921504606846976 (c27_4 O (fun (s0 : GA) (s4 : Bool) (s5 : List UInt8) (s6 : List UInt8) (s128 : Bool) (b0_0 : Int) (b0_1 : List UInt8) (b0_2 : Nat) (b0_3 : Int) G => bif s128 then
  O 22 [.ptr (some s0), .int .i64 (162 : Int)] G fun v6 G7 =>
  (ivTup 2 v6).bind fun c8 =>
  (ivAgg 4 (c8.getD 0 undefI)).bind fun c9 =>
  (ivInt .i64 (c9.getD 0 undefI)).bind fun x10 =>
  (ivStr (c9.getD 1 undefI)).bind fun x11 =>
  (ivFloat .f64 (c9.getD 2 undefI)).bind fun x12 =>
  (ivInt .i64 (c9.getD 3 undefI)).bind fun x13 =>
  (ivInt .i64 (c8.getD 1 undefI)).bind fun x14 =>
  k (.tuple [.agg [.int .i64 x10, .str x11, .float .f64 x12, .int .i64 x13], .int .i64 x14]) G7
  else
  bif decide (s5.length + s6.length ≤ roomS) then
  l27_5 O (fun (s0 : GA) (s4 : Bool) (s6 : List UInt8) (s8 : Int) (s9 : Int) (b0_0 : Int) (b0_1 : List UInt8) (b0_2 : Nat) (b0_3 : Int) G => l27_6 O (fun (s0 : GA) (s4 : Bool) (s8 : Int) (s9 : Int) (b0_0 : Int) (b0_1 : List UInt8) (b0_2 : Nat) (b0_3 : Int) G => ((FloatKind.format .f64).div (FloatKind.nearest .f64 s8) (FloatKind.nearest .f64 s9)).bind fun r15 =>
  stepN 1152921504606846976 (c27_7 O (fun (s0 : GA) (s12 : Nat) (b0_0 : Int) (b0_1 : List UInt8) (b0_2 : Nat) (b0_3 : Int) G => (ldInt G .i64 (GA.add s0 2)).bind fun x16 =>
  k (.tuple [.agg [.int .i64 (2 : Int), .str ([] : List UInt8), .float .f64 s12, .int .i64 x16], .int .i64 (0 : Int)]) G) s0 s4 r15 b0_0 b0_1 b0_2 b0_3 G)) 1152921504606846976 s0 s4 s8 s9 (s6.length : Int) (0 : Int) b0_0 b0_1 b0_2 b0_3 G) 1152921504606846976 s0 s4 s6 (0 : Int) (1 : Int) (some (gaddr G)) ((s5 ++ s6).length) (((s5 ++ s6).length) : Int) (0 : Int) b0_0 b0_1 b0_2 b0_3 (gnew G (bytesI (s5 ++ s6)) 5)
  else none) s0 s4 s5 s6 s7 b0_0 b0_1 b0_2 b0_3 G)) s0 s4 s5 s6 b0_0 b0_1 b0_2 b0_3 G)) (runL Try.prog lexLib lo0 1152921504606846976 (n + 1)) ⟨r, 0⟩ =
    bif numBad s5 s6 rest then k (.tuple [.agg [.int .i64 0, .str [], .float .f64 0, .int .i64 0], .int .i64 162]) (G.set r (rd (pre ++ rest) pre.length l nb 162))
    else k (.tuple [.agg [.int .i64 2, .str [], .float .f64 (numW s4 s5 s6), .int .i64 l], .int .i64 0]) (gnew G (bytesI (s5 ++ s6)) 5) := by
  simp only [stepN_big, c27_3_val n _ s4 s5 s6 b0_0 b0_1 b0_2 b0_3 h, c27_4]
  have bad : ∀ KN : Int → Int → List UInt8 → Nat → Int → GH → Option R, True := fun _ => trivial
  have hw : IntKind.wrap .i64 ((s5.length : Int) + (s6.length : Int)) = (s5.length : Int) + (s6.length : Int) := IntWalk.i64_in _ (by omega)
  rw [hw]
  simp only [s22 n h]
  by_cases hb : numBad s5 s6 rest = true
  · rw [hb]
    simp only [cond_true]
    unfold numBad at hb
    by_cases e1 : (s5 == []) = true
    · simp [e1, ivTup, ivAgg, ivInt, ivStr, ivFloat]
    · have e1' : (s5 == []) = false := by simpa using e1
      rw [e1'] at hb
      simp only [e1', cond_false]
      by_cases e2 : s5.length + s6.length > 15
      · rw [show decide ((s5.length : Int) + (s6.length : Int) > 15) = true by simp; omega]
        simp [ivTup, ivAgg, ivInt, ivStr, ivFloat]
      · rw [show decide (s5.length + s6.length > 15) = false by simp; omega] at hb
        rw [show decide ((s5.length : Int) + (s6.length : Int) > 15) = false by simp; omega]
        have e3 : nextB rest = true := by simpa using hb
        simp [e3, ivTup, ivAgg, ivInt, ivStr, ivFloat]
  · have hb' : numBad s5 s6 rest = false := by simpa using hb
    rw [hb']
    unfold numBad at hb'
    simp only [Bool.or_eq_false_iff] at hb'
    obtain ⟨e1, e2, e3⟩ := hb'
    have e2' : s5.length + s6.length ≤ 15 := by simpa using e2
    rw [e1, e3, show decide ((s5.length : Int) + (s6.length : Int) > 15) = false by simp; omega]
    simp only [cond_false]
    rw [show decide (s5.length + s6.length ≤ roomS) = true by simp only [decide_eq_true_eq]; unfold roomS; omega]
    simp only [cond_true]
    have hg : (gnew G (bytesI (s5 ++ s6)) 5)[G.length]? = some ⟨bytesI (s5 ++ s6), 5, 1⟩ := by simp [gnew]
    have hdig : ∀ c ∈ s5 ++ s6, digB c = true := fun c hc => by
      rcases List.mem_append.1 hc with h | h
      · exact hd5 c h
      · exact hd6 c h
    have hr : (gnew G (bytesI (s5 ++ s6)) 5)[r]? = some (rd (pre ++ rest) pre.length l nb b) := by
      have : r < G.length := (List.getElem?_eq_some_iff.1 h).1
      simp [gnew, List.getElem?_append_left this, h]
    obtain ⟨x, hx, hxn⟩ := num_div (v := valN (s5 ++ s6) 0) (j := s6.length) (by omega)
    obtain ⟨y, hy, hyn⟩ := num_sub hxn
    simp only [gaddr]
    rw [show ((0 : Int)) = ((0 : Nat) : Int) from rfl]
    rw [l27_5_spec _ hg hdig (by simp; omega) _ _ _ _ _ _ _ _ (s5 ++ s6).length 0 1152921504606846976 _ (by simp) (by simp) (by simp; omega) (by simp) (by simp)]
    rw [show ((1 : Int)) = 10 ^ 0 from rfl]
    rw [l27_6_spec _ _ _ _ _ _ _ _ s6.length (by omega) s6.length 0 1152921504606846976 (by omega) (by omega) (by omega)]
    simp only [List.drop_zero, show (((0 : Nat) : Int)) = 0 from rfl]
    rw [hx]
    simp only [Option.bind_some, c27_7]
    cases s4 with
    | false =>
      simp only [cond_false, ld_l hr, Option.bind_some, numW, hx, Option.getD_some]
    | true =>
      simp only [cond_true]
      rw [hy]
      simp only [ld_l hr, Option.bind_some, numW, hx, Option.getD_some, cond_true, hy]
end
end Go.LI.Lex
