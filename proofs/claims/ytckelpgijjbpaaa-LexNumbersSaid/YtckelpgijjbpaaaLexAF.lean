/- LexNumbers: what the interpreter gives is true, whole. -/
import Derived.Test.YtckelpgijjbpaaaLexAE
namespace Go.LI.Lex
open Go.Proofs.Ytckelpgijjbpaaa Go Go.Proofs Go.LI
set_option linter.unusedVariables false
set_option linter.unusedSimpArgs false
attribute [local irreducible] runC

section
variable {R : Type} {O : Ora R}

theorem c3_3_spec (KN : List UInt8 → Nat → GH → Option R) (s2 : Bool) (s : List UInt8) (x : Nat) (G : GH) (hl : s.length ≤ 100) (hx : nn (FloatKind.format .f64) x) :
    c3_3 O KN s2 s x G = KN (bif s2 then 45 :: s else s) (bif s2 then ((FloatKind.format .f64).sub 0 x).getD 0 else x) G := by
  cases s2 with
  | false => rfl
  | true =>
    obtain ⟨y, hy, _⟩ := num_sub hx
    simp only [c3_3, cond_true, hy, Option.bind_some, Option.getD_some]
    rw [show decide (([45] : List UInt8).length + s.length ≤ roomI) = true by simp only [List.length_singleton, decide_eq_true_eq]; unfold roomI; omega, cond_true]
    rfl

theorem decN_len : ∀ (f v : Nat) (acc : List UInt8), (decN f v acc).length ≤ f + acc.length
  | 0, v, acc => by simp [decN]
  | f + 1, v, acc => by
    simp only [decN]
    split
    · simp; omega
    · have := decN_len f (v / 10) (UInt8.ofNat (48 + v % 10) :: acc)
      simp at this ⊢; omega

theorem u64_mod (x : Int) (m : Nat) (hm : 0 < m) (hm2 : m ≤ 10 ^ 15) : ∃ v : Nat, v < m ∧ IntKind.wrap .i64 (Int.tmod (IntKind.wrap .u64 x) (m : Int)) = (v : Int) := by
  have h1 : 0 ≤ IntKind.wrap .u64 x := by
    rw [show IntKind.wrap .u64 x = x.emod (2 ^ 64) from rfl]
    exact Int.emod_nonneg _ (by decide)
  obtain ⟨u, hu⟩ := Int.eq_ofNat_of_zero_le h1
  refine ⟨u % m, Nat.mod_lt _ hm, ?_⟩
  rw [hu]
  have : Int.tmod (u : Int) (m : Int) = ((u % m : Nat) : Int) := by rw [Int.tmod_eq_emod_of_nonneg (by omega)]; simp
  rw [this]
  have := Nat.mod_lt u hm
  exact IntWalk.i64_in _ (by omega)
end

/-- What is asked of All's answer. -/
def tail3 (s10 : Nat) (v8 : IV) (G9 : GH) : Option IV :=
  (ivTup 3 v8).bind fun c10 =>
  (ivSlice (c10.getD 0 undefI)).bind fun x11 =>
  (ivInt .i64 (c10.getD 1 undefI)).bind fun x12 =>
  (ivInt .i64 (c10.getD 2 undefI)).bind fun x13 =>
  bif (x13 == (0 : Int)) then
  bif ((x11.2 : Int) == (1 : Int)) then
  (idx? x11.1 x11.2 (0 : Int) 4).bind fun a14 =>
  (ldInt G9 .i64 (GA.add a14 0)).bind fun x15 =>
  (ldStr G9 (GA.add a14 1)).bind fun x16 =>
  (ldFloat G9 .f64 (GA.add a14 2)).bind fun x17 =>
  (ldInt G9 .i64 (GA.add a14 3)).bind fun x18 =>
  some (.bool ((x15 == (2 : Int)) && ((x16 == ([] : List UInt8)) && ((feq .f64 x17 s10) && ((x18 == (1 : Int)) && true)))))
  else
  some (.bool false)
  else
  some (.bool false)

theorem tail3_spec {G : GH} {r : Nat} {a : Option GA} {x : Nat} (hx : nn (FloatKind.format .f64) x) (h : Laid G r a [⟨2, [], x, 1⟩]) :
    tail3 x (.tuple [.slice a 1, .int .i64 0, .int .i64 0]) G = some (.bool true) := by
  cases a with
  | none => cases h
  | some a =>
    obtain ⟨h1, h2, h3⟩ := h
    have e0 : idx? (some a) 1 0 4 = some (a.add 0) := by rfl
    have l0 : ldInt G .i64 (GA.add (GA.add a 0) 0) = some 2 := by simp [ldInt, gld, GA.add, h1, h3, tkCells, Tk.cells, tokI]
    have l1 : ldStr G (GA.add (GA.add a 0) 1) = some [] := by simp [ldStr, gld, GA.add, h1, h3, tkCells, Tk.cells, tokI]
    have l2 : ldFloat G .f64 (GA.add (GA.add a 0) 2) = some x := by simp [ldFloat, gld, GA.add, h1, h3, tkCells, Tk.cells, tokI]
    have l3 : ldInt G .i64 (GA.add (GA.add a 0) 3) = some 1 := by simp [ldInt, gld, GA.add, h1, h3, tkCells, Tk.cells, tokI]
    have t3 : ivTup 3 (.tuple [.slice (some a) 1, .int .i64 0, .int .i64 0]) = some [.slice (some a) 1, .int .i64 0, .int .i64 0] := rfl
    simp only [tail3, t3, Option.bind_some, List.getD_cons_zero, List.getD_cons_succ, ivSlice, ivInt]
    simp only [e0, l0, l1, l2, l3, Option.bind_some, feq_self hx]
    rfl

theorem s3 (n k : Int) (neg : Bool) : runC (R := IV) Try.prog lo0 1000000 51 3 [.int .i64 n, .int .i64 k, .bool neg] [] (fun v _ => some v) = some (.bool true) := by
  obtain ⟨v, hv, hv'⟩ := u64_mod n (10 ^ 15) (by decide) (by decide)
  obtain ⟨j, hj, hj'⟩ := u64_mod k 15 (by decide) (by decide)
  rw [r3, e3, awake]
  have hb : ivBool (.bool true) = some true := rfl
  rw [hb, Option.bind_some, Bool.not_true, cond_false]
  rw [show ((10 ^ 15 : Nat) : Int) = (1000000000000000 : Int) from rfl] at hv'
  rw [show ((15 : Nat) : Int) = (15 : Int) from rfl] at hj'
  rw [hv', hj', s9 49 v hv]
  rw [show ∀ s, ivStr (.str s) = some s from fun s => rfl, Option.bind_some]
  have hlen := decN_len 16 v []
  rw [l3_0_spec _ _ _ _ j hj (j + 1 - (decN 16 v []).length) (decN 16 v []) 1000000 rfl (by simp at hlen; omega) (by omega)]
  have hsl : (List.replicate (j + 1 - (decN 16 v []).length) (48 : UInt8) ++ decN 16 v []).length = max (j + 1) (decN 16 v []).length := by
    rw [List.length_append, List.length_replicate]; omega
  have hdig : ∀ c ∈ List.replicate (j + 1 - (decN 16 v []).length) (48 : UInt8) ++ decN 16 v [], digB c = true := by
    intro c hc
    rcases List.mem_append.1 hc with hc | hc
    · rw [(List.mem_replicate.1 hc).2]; decide
    · exact decN_dig 16 v [] (by simp) c hc
  have hval : valN (List.replicate (j + 1 - (decN 16 v []).length) (48 : UInt8) ++ decN 16 v []) 0 = (v : Int) := by
    rw [valN_zeros, decN_val 16 v [] 0 (by omega) (by decide)]; rfl
  generalize List.replicate (j + 1 - (decN 16 v []).length) (48 : UInt8) ++ decN 16 v [] = s at hsl hdig hval
  by_cases h15 : decide ((s.length : Int) > (15 : Int)) = true
  · rw [h15, cond_true]
  · rw [Bool.eq_false_iff.2 h15, cond_false]
    have hs15 : s.length ≤ 15 := by simp at h15; omega
    have hsj : j < s.length := by omega
    have h10 : (4607182418800017408 : Nat) = tenF 0 := rfl
    have h00 : ((0 : Int)) = ((0 : Nat) : Int) := rfl
    rw [h10, h00, l3_1_spec _ _ _ _ _ j hj j 0 1000000 (by omega) (by omega) (by omega)]
    rw [(tenF_all ⟨j, by omega⟩).1]
    obtain ⟨q, hq, hqn⟩ := num_div (v := (v : Int)) (j := j) (by omega)
    simp only
    rw [hq, Option.bind_some, stepN_big, c3_2_spec _ j neg s q _ hj hsj hs15, stepN_big]
    rw [c3_3_spec _ _ _ _ _ (by unfold numT; cases (s.drop (s.length - j) == []) <;> simp <;> omega) hqn]
    have hw : ∀ c ∈ s.take (s.length - j), digB c = true := fun c hc => hdig c (List.mem_of_mem_take hc)
    have hp : ∀ c ∈ s.drop (s.length - j), digB c = true := fun c hc => hdig c (List.mem_of_mem_drop hc)
    have hne : s.take (s.length - j) ≠ [] := by intro h; have := congrArg List.length h; simp at this; omega
    have hl2 : (s.take (s.length - j)).length + (s.drop (s.length - j)).length ≤ 15 := by simp; omega
    have htxt : (([32] : List UInt8) ++ (bif neg then 45 :: numT (s.take (s.length - j)) (s.drop (s.length - j)) else numT (s.take (s.length - j)) (s.drop (s.length - j)))) ++ [10] = 32 :: (sgnT neg (s.take (s.length - j)) (s.drop (s.length - j)) ++ [10]) := rfl
    have hwv : (bif neg then ((FloatKind.format .f64).sub 0 q).getD 0 else q) = numW neg (s.take (s.length - j)) (s.drop (s.length - j)) := by
      unfold numW
      have hdl : (s.drop (s.length - j)).length = j := by simp; omega
      rw [List.take_append_drop, hval, hdl, hq]
      rfl
    have hnn : nn (FloatKind.format .f64) (numW neg (s.take (s.length - j)) (s.drop (s.length - j))) := by
      rw [← hwv]
      cases neg with
      | false => exact hqn
      | true => obtain ⟨y, hy, hy'⟩ := num_sub hqn; rw [hy]; exact hy'
    have hall := allR_num 999998 neg _ _ hw hp hne hl2
    have hnl : (numT (s.take (s.length - j)) (s.drop (s.length - j))).length ≤ 16 := by
      unfold numT; cases (s.drop (s.length - j) == []) <;> simp <;> omega
    have hsg : (sgnT neg (s.take (s.length - j)) (s.drop (s.length - j))).length ≤ 17 := by
      unfold sgnT; cases neg <;> simp <;> omega
    rw [hwv]
    have r1 : decide (([32] : List UInt8).length + (bif neg then 45 :: numT (s.take (s.length - j)) (s.drop (s.length - j)) else numT (s.take (s.length - j)) (s.drop (s.length - j))).length ≤ roomI) = true := by
      rw [decide_eq_true_eq]; unfold roomI; unfold sgnT at hsg; simp only [List.length_singleton]; omega
    have r2 : decide ((([32] : List UInt8) ++ (bif neg then 45 :: numT (s.take (s.length - j)) (s.drop (s.length - j)) else numT (s.take (s.length - j)) (s.drop (s.length - j)))).length + ([10] : List UInt8).length ≤ roomI) = true := by
      rw [decide_eq_true_eq]; unfold roomI; unfold sgnT at hsg; simp only [List.length_append, List.length_singleton]; omega
    rw [r1, r2, cond_true, cond_true, htxt]
    obtain ⟨a', G', r, hL, hrun⟩ := s10 (R := IV) 45 (t := 32 :: (sgnT neg (s.take (s.length - j)) (s.drop (s.length - j)) ++ [10])) (by simp; omega) _ rfl hall
    have := hrun (tail3 (numW neg (s.take (s.length - j)) (s.drop (s.length - j))))
    exact this.trans (tail3_spec hnn hL)
end Go.LI.Lex
