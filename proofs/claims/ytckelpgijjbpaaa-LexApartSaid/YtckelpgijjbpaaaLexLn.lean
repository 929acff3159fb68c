/- The reader's numbers are no NaN. -/
import Derived.Test.YtckelpgijjbpaaaLexAA
import Derived.Test.YtckelpgijjbpaaaFlC
import Derived.Test.YtckelpgijjbpaaaLiAll2
namespace Go.LI.Lex
open Go.Proofs.Ytckelpgijjbpaaa Go Go.Proofs Go.LI
set_option linter.unusedVariables false
set_option linter.unusedSimpArgs false

/-! ### Numbers are no NaN -/
theorem nn_zero : nn (FloatKind.format .f64) 0 := by unfold nn; decide +kernel

theorem numW_nn (neg : Bool) (whole part : List UInt8) (h : part.length ≤ 15) : nn (FloatKind.format .f64) (numW neg whole part) := by
  unfold numW
  obtain ⟨x, hx, hxn⟩ := num_div (v := valN (whole ++ part) 0) h
  rw [hx]
  cases neg
  · exact hxn
  · obtain ⟨y, hy, hyn⟩ := num_sub hxn
    simp only [Option.getD_some, cond_true, hy]
    exact hyn

theorem numE_nn (neg : Bool) (whole part rest : List UInt8) {w : Nat} (h : (numE neg whole part rest).2.1 = some w) : nn (FloatKind.format .f64) w := by
  unfold numE at h
  simp only at h
  cases hb : numBad whole part rest
  · rw [hb, cond_false] at h
    injection h with h
    subst h
    simp only [numBad, Bool.or_eq_false_iff, decide_eq_false_iff_not] at hb
    exact numW_nn _ _ _ (by omega)
  · rw [hb, cond_true] at h; cases h

theorem numM_nn (neg : Bool) (cs : List UInt8) {w : Nat} (h : (numM neg cs).2.1 = some w) : nn (FloatKind.format .f64) w := by
  unfold numM at h
  split at h
  · exact numE_nn _ _ _ _ h
  · rename_i c ds _
    cases hc : ((c.toNat : Int) == 46)
    · rw [hc, cond_false] at h; exact numE_nn _ _ _ _ h
    · rw [hc, cond_true] at h
      cases hz : (ds.takeWhile digB == [])
      · rw [hz, cond_false] at h; exact numE_nn _ _ _ _ h
      · rw [hz, cond_true] at h; cases h

theorem numR_nn (cs : List UInt8) {w : Nat} (h : (numR cs).2.1 = some w) : nn (FloatKind.format .f64) w := by
  cases cs with
  | nil => cases h
  | cons c cs =>
    simp only [numR] at h
    cases hc : ((c.toNat : Int) == 45)
    · rw [hc, cond_false] at h; exact numM_nn _ _ h
    · rw [hc, cond_true] at h; exact numM_nn _ _ h

/-- What is told of each token. -/
theorem nextR_facts (rest : List UInt8) (l n : Int) : nn (FloatKind.format .f64) (nextR rest l n).x ∧ (nextR rest l n).b = (nextR rest l n).e := by
  unfold nextR
  generalize skipR false rest l = s
  obtain ⟨r1, l1⟩ := s
  cases r1 with
  | nil => exact ⟨nn_zero, rfl⟩
  | cons c cs =>
    dsimp only
    cases decide (n + 1 > 16384)
    · cases letterB (c.toNat : Int)
      · cases (digitB (c.toNat : Int) || (c.toNat : Int) == 45)
        · cases ((c.toNat : Int) == 34)
          · exact ⟨nn_zero, rfl⟩
          · simp only [cond_false, cond_true]
            split
            · exact ⟨nn_zero, rfl⟩
            · rename_i d ds _
              cases ((d.toNat : Int) != 34) <;> exact ⟨nn_zero, rfl⟩
        · simp only [cond_false, cond_true]
          split
          · exact ⟨nn_zero, rfl⟩
          · rename_i w hw
            exact ⟨numR_nn _ hw, rfl⟩
      · exact ⟨nn_zero, rfl⟩
    · exact ⟨nn_zero, rfl⟩

theorem allR_facts : ∀ (f : Nat) (rest : List UInt8) (l n : Int) (out : List Tk × Int × Int), 0 ≤ n → n ≤ 16384 → allR f rest l n = some out → (out.1.length : Int) + n ≤ 16384 ∧ ∀ t ∈ out.1, nn (FloatKind.format .f64) t.x
  | 0, rest, l, n, out, _, _, h => by simp [allR] at h
  | f + 1, rest, l, n, out, h0, h1, h => by
    simp only [allR] at h
    cases he : ((nextR rest l n).e != 0)
    · rw [he, cond_false] at h
      cases hk : ((nextR rest l n).k == 4)
      · rw [hk, cond_false] at h
        obtain ⟨q1, q2⟩ := nextR_less rest l n (by simpa using he) (by simpa using hk)
        cases hy : allR f (nextR rest l n).rest (nextR rest l n).l (nextR rest l n).n with
        | none => rw [hy] at h; cases h
        | some y =>
          rw [hy] at h
          injection h with h
          subst h
          obtain ⟨p1, p2⟩ := allR_facts f _ _ _ y (by omega) (by omega) hy
          refine ⟨by simp; omega, fun t ht => ?_⟩
          rcases List.mem_cons.1 ht with rfl | ht
          · exact (nextR_facts rest l n).1
          · exact p2 t ht
      · rw [hk, cond_true] at h
        injection h with h
        subst h
        exact ⟨by simpa using h1, fun t ht => by simp at ht⟩
    · rw [he, cond_true] at h
      injection h with h
      subst h
      exact ⟨by simpa using h1, fun t ht => by simp at ht⟩

/-- A row of tokens stands at an address (or nowhere, if there are none). -/
def At (G : GH) (a : Option GA) (ts : List Tk) : Prop :=
  match a with
  | none => ts = []
  | some a => a.o = 0 ∧ G[a.b]? = some ⟨tkCells ts, 32, 1⟩
theorem Laid.at {G : GH} {r : Nat} {a : Option GA} {ts : List Tk} (h : Laid G r a ts) : At G a ts := by
  cases a with
  | none => exact h
  | some a => exact ⟨h.1, h.2.2⟩

theorem tk_get {ts : List Tk} {i : Nat} {x : Tk} (h : ts[i]? = some x) (j : Nat) (hj : j < 4) : (tkCells ts)[i * 4 + j]? = x.cells[j]? := by
  induction ts generalizing i with
  | nil => simp at h
  | cons t ts ih =>
    cases i with
    | zero =>
      simp at h
      subst h
      simp only [tkCells, List.flatMap_cons, Nat.zero_mul, Nat.zero_add]
      exact List.getElem?_append_left (by simp [Tk.cells, tokI]; omega)
    | succ i =>
      have := ih (i := i) (by simpa using h)
      rw [← this]
      simp only [tkCells, List.flatMap_cons]
      rw [List.getElem?_append_right (by simp [Tk.cells, tokI]; omega)]
      congr 1
      simp [Tk.cells, tokI]; omega

section
variable {R : Type} {G : GH} {a : Option GA} {ts : List Tk} {i : Nat} {x : Tk}

theorem at_idx (h : At G a ts) (hi : ts[i]? = some x) : ∃ ga, idx? a ts.length (i : Int) 4 = some ga ∧ ldInt G .i64 (GA.add ga 0) = some x.k ∧ ldStr G (GA.add ga 1) = some x.w ∧ ldFloat G .f64 (GA.add ga 2) = some x.x ∧ ldInt G .i64 (GA.add ga 3) = some x.l := by
  have hlt : i < ts.length := (List.getElem?_eq_some_iff.1 hi).1
  cases a with
  | none => have h : ts = [] := h; subst h; simp at hlt
  | some a =>
    obtain ⟨h1, h2⟩ := h
    refine ⟨a.add (i * 4), ?_, ?_⟩
    · simp only [idx?, Int.toNat_natCast]
      rw [if_pos (by omega)]
    · have c : ∀ j, j < 4 → gld G (GA.add (GA.add a (i * 4)) j) = x.cells[j]? := by
        intro j hj
        simp only [gld, GA.add, h1, h2, Nat.zero_add]
        rw [if_pos (by decide)]
        exact tk_get hi j hj
      have c0 := c 0 (by decide)
      have c1 := c 1 (by decide)
      have c2 := c 2 (by decide)
      have c3 := c 3 (by decide)
      simp only [ldInt, ldStr, ldFloat, c0, c1, c2, c3]
      refine ⟨rfl, rfl, rfl, rfl⟩
end


theorem At.grow {G G' : GH} {a : Option GA} {ts : List Tk} (h : At G a ts) (hg : ∀ y, a = some y → G'[y.b]? = G[y.b]?) : At G' a ts := by
  cases a with
  | none => exact h
  | some a => exact ⟨h.1, by rw [hg a rfl]; exact h.2⟩

end Go.LI.Lex
