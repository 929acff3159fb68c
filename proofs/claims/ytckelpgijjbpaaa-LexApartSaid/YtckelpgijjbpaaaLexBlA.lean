/- LexBlanks: the plain side: blanks ahead, a line's end behind, lines that are moved. -/
import Derived.Test.YtckelpgijjbpaaaLexLn
namespace Go.LI.Lex
open Go.Proofs.Ytckelpgijjbpaaa Go Go.Proofs Go.LI
set_option linter.unusedVariables false
set_option linter.unusedSimpArgs false

theorem take_nl {p : UInt8 → Bool} (hp : p 10 = false) : ∀ l : List UInt8, (l ++ [10]).takeWhile p = l.takeWhile p
  | [] => by simp [hp]
  | c :: cs => by
    simp only [List.cons_append, List.takeWhile_cons]
    rw [take_nl hp cs]
theorem drop_nl {p : UInt8 → Bool} (hp : p 10 = false) : ∀ l : List UInt8, (l ++ [10]).dropWhile p = l.dropWhile p ++ [10]
  | [] => by simp [hp]
  | c :: cs => by
    simp only [List.cons_append, List.dropWhile_cons]
    rw [drop_nl hp cs]
    split <;> rfl

def nlTail (s : List UInt8 × Int) : List UInt8 × Int := match s.1 with
  | [] => ([], s.2 + 1)
  | c :: cs => (c :: cs ++ [10], s.2)
theorem skip_nl : ∀ (m : Bool) (cs : List UInt8) (l : Int), skipR m (cs ++ [10]) l = nlTail (skipR m cs l)
  | m, [], l => by cases m <;> simp [skipR, nlB, nlTail]
  | true, c :: cs, l => by
    simp only [List.cons_append, skipR]
    by_cases hc : nlB c = true
    · rw [if_pos hc, if_pos hc]; exact skip_nl false cs (l + 1)
    · rw [if_neg hc, if_neg hc]; exact skip_nl true cs l
  | false, c :: cs, l => by
    simp only [List.cons_append, skipR]
    by_cases hc : nlB c = true
    · rw [if_pos hc, if_pos hc]; exact skip_nl false cs (l + 1)
    · rw [if_neg hc, if_neg hc]
      by_cases h2 : blB c = true
      · rw [if_pos h2, if_pos h2]; exact skip_nl false cs l
      · rw [if_neg h2, if_neg h2]
        by_cases h3 : reB c = true
        · rw [if_pos h3, if_pos h3]; exact skip_nl true cs l
        · rw [if_neg h3, if_neg h3]; rfl

theorem skip_add : ∀ (m : Bool) (cs : List UInt8) (l d : Int), skipR m cs (l + d) = ((skipR m cs l).1, (skipR m cs l).2 + d)
  | m, [], l, d => by cases m <;> rfl
  | true, c :: cs, l, d => by
    simp only [skipR]
    split
    · rw [show l + d + 1 = (l + 1) + d by omega]; exact skip_add false cs (l + 1) d
    · exact skip_add true cs l d
  | false, c :: cs, l, d => by
    simp only [skipR]
    split
    · rw [show l + d + 1 = (l + 1) + d by omega]; exact skip_add false cs (l + 1) d
    · split
      · exact skip_add false cs l d
      · split
        · exact skip_add true cs l d
        · rfl

theorem nextB_nl (r : List UInt8) : nextB (r ++ [10]) = nextB r := by
  cases r with
  | nil => decide
  | cons c cs => rfl
theorem numE_nl (neg : Bool) (w p r : List UInt8) : numE neg w p (r ++ [10]) = ((numE neg w p r).1 ++ [10], (numE neg w p r).2.1, (numE neg w p r).2.2) := by
  unfold numE numBad
  rw [nextB_nl]
theorem numM_nl (neg : Bool) (l : List UInt8) : numM neg (l ++ [10]) = ((numM neg l).1 ++ [10], (numM neg l).2.1, (numM neg l).2.2) := by
  unfold numM
  rw [drop_nl (by decide), take_nl (by decide)]
  cases l.dropWhile digB with
  | nil => exact numE_nl neg _ [] []
  | cons c ds =>
    simp only [List.cons_append]
    rw [drop_nl (by decide), take_nl (by decide)]
    cases ((c.toNat : Int) == 46)
    · exact numE_nl neg _ [] (c :: ds)
    · simp only [cond_true]
      cases (ds.takeWhile digB == [])
      · exact numE_nl neg _ _ _
      · rfl
theorem numR_nl (c : UInt8) (cs : List UInt8) : numR (c :: cs ++ [10]) = ((numR (c :: cs)).1 ++ [10], (numR (c :: cs)).2.1, (numR (c :: cs)).2.2) := by
  simp only [List.cons_append, numR]
  cases ((c.toNat : Int) == 45)
  · exact numM_nl false (c :: cs)
  · exact numM_nl true cs

/-- A line's end behind. -/
structure NlOf (x y : Nx) : Prop where
  e : y.e = x.e
  k : y.k = x.k
  w : y.w = x.w
  x' : y.x = x.x
  err : x.e ≠ 0 → y.l = x.l
  go : x.e = 0 → x.k ≠ 4 → y.rest = x.rest ++ [10] ∧ y.l = x.l ∧ y.n = x.n ∧ y.tl = x.tl

theorem nlOf_err (e : Int) (he : e ≠ 0) (y z : List UInt8) (l n : Int) : NlOf (errX e y l n) (errX e z l n) :=
  ⟨rfl, rfl, rfl, rfl, fun _ => rfl, fun h => absurd h he⟩

theorem next_nl (rest : List UInt8) (l n : Int) : NlOf (nextR rest l n) (nextR (rest ++ [10]) l n) := by
  unfold nextR
  rw [skip_nl]
  generalize skipR false rest l = s
  obtain ⟨r1, l1⟩ := s
  cases r1 with
  | nil => exact ⟨rfl, rfl, rfl, rfl, fun h => absurd rfl h, fun _ h => absurd rfl h⟩
  | cons c cs =>
    simp only [nlTail, List.cons_append]
    cases decide (n + 1 > 16384)
    · simp only [cond_false]
      cases letterB (c.toNat : Int)
      · simp only [cond_false]
        cases (digitB (c.toNat : Int) || (c.toNat : Int) == 45)
        · simp only [cond_false]
          cases ((c.toNat : Int) == 34)
          · exact nlOf_err 160 (by omega) _ _ _ _
          · simp only [cond_true]
            have ht := take_nl (p := quoB) (by decide) cs
            rw [drop_nl (by decide), ht]
            cases cs.dropWhile quoB with
            | nil =>
              simp only [List.nil_append]
              rw [show (((10 : UInt8).toNat : Int) != 34) = true by decide, cond_true]
              exact nlOf_err 161 (by omega) _ _ _ _
            | cons d ds =>
              simp only [List.cons_append]
              cases ((d.toNat : Int) != 34)
              · exact ⟨rfl, rfl, rfl, rfl, fun h => absurd rfl h, fun _ _ => ⟨rfl, rfl, rfl, rfl⟩⟩
              · exact nlOf_err 161 (by omega) _ _ _ _
        · simp only [cond_true]
          have hn := numR_nl c cs
          simp only [List.cons_append] at hn
          rw [hn]
          simp only
          cases (numR (c :: cs)).2.1 with
          | none => exact nlOf_err 162 (by omega) _ _ _ _
          | some w => exact ⟨rfl, rfl, rfl, rfl, fun h => absurd rfl h, fun _ _ => ⟨rfl, rfl, rfl, rfl⟩⟩
      · simp only [cond_true]
        have h1 := take_nl (p := wordB) (by decide) (c :: cs)
        have h2 := drop_nl (p := wordB) (by decide) (c :: cs)
        simp only [List.cons_append] at h1 h2
        rw [h1, h2]
        exact ⟨rfl, rfl, rfl, rfl, fun h => absurd rfl h, fun _ _ => ⟨rfl, rfl, rfl, rfl⟩⟩
    · exact nlOf_err 163 (by omega) _ _ _ _

theorem allR_nl : ∀ (f : Nat) (rest : List UInt8) (l n : Int), allR f (rest ++ [10]) l n = allR f rest l n
  | 0, _, _, _ => rfl
  | f + 1, rest, l, n => by
    have h := next_nl rest l n
    simp only [allR]
    generalize nextR rest l n = x at h
    generalize nextR (rest ++ [10]) l n = y at h
    rw [h.e, h.k, h.w, h.x']
    by_cases he : x.e = 0
    · rw [show (x.e != 0) = false by simp [he]]
      simp only [cond_false]
      by_cases hk : x.k = 4
      · rw [show (x.k == 4) = true by simp [hk]]
        rfl
      · rw [show (x.k == 4) = false by simp [hk]]
        obtain ⟨h1, h2, h3, h4⟩ := h.go he hk
        rw [h1, h2, h3, h4, allR_nl f]
    · rw [show (x.e != 0) = true by simp [he], h.err he]
      rfl

/-- Lines that are moved. -/
def Tk.mv (d : Int) (t : Tk) : Tk := ⟨t.k, t.w, t.x, t.l + d⟩
def mvOut (d : Int) (o : List Tk × Int × Int) : List Tk × Int × Int := (o.1.map (Tk.mv d), (if o.2.2 = 0 then o.2.1 else o.2.1 + d), o.2.2)

structure MvOf (d : Int) (x y : Nx) : Prop where
  e : y.e = x.e
  k : y.k = x.k
  w : y.w = x.w
  x' : y.x = x.x
  l : y.l = x.l + d
  rest : y.rest = x.rest
  n : y.n = x.n
  tl : x.e = 0 → y.tl = x.tl + d

theorem next_mv (rest : List UInt8) (l n d : Int) : MvOf d (nextR rest l n) (nextR rest (l + d) n) := by
  unfold nextR
  rw [skip_add]
  generalize skipR false rest l = s
  obtain ⟨r1, l1⟩ := s
  have err : ∀ (e : Int) (he : e ≠ 0) (y : List UInt8) (n : Int), MvOf d (errX e y l1 n) (errX e y (l1 + d) n) := fun e he y n => ⟨rfl, rfl, rfl, rfl, rfl, rfl, rfl, fun h => absurd h he⟩
  cases r1 with
  | nil => exact ⟨rfl, rfl, rfl, rfl, rfl, rfl, rfl, fun _ => rfl⟩
  | cons c cs =>
    dsimp only
    cases decide (n + 1 > 16384)
    · simp only [cond_false]
      cases letterB (c.toNat : Int)
      · simp only [cond_false]
        cases (digitB (c.toNat : Int) || (c.toNat : Int) == 45)
        · simp only [cond_false]
          cases ((c.toNat : Int) == 34)
          · exact err 160 (by omega) _ _
          · simp only [cond_true]
            cases cs.dropWhile quoB with
            | nil => exact err 161 (by omega) _ _
            | cons d2 ds =>
              dsimp only
              cases ((d2.toNat : Int) != 34)
              · exact ⟨rfl, rfl, rfl, rfl, rfl, rfl, rfl, fun _ => rfl⟩
              · exact err 161 (by omega) _ _
        · simp only [cond_true]
          cases (numR (c :: cs)).2.1 with
          | none => exact err 162 (by omega) _ _
          | some w => exact ⟨rfl, rfl, rfl, rfl, rfl, rfl, rfl, fun _ => rfl⟩
      · exact ⟨rfl, rfl, rfl, rfl, rfl, rfl, rfl, fun _ => rfl⟩
    · exact err 163 (by omega) _ _

theorem allR_mv (d : Int) : ∀ (f : Nat) (rest : List UInt8) (l n : Int), allR f rest (l + d) n = (allR f rest l n).map (mvOut d)
  | 0, _, _, _ => rfl
  | f + 1, rest, l, n => by
    have h := next_mv rest l n d
    simp only [allR]
    generalize nextR rest l n = x at h
    generalize nextR rest (l + d) n = y at h
    rw [h.e, h.k, h.w, h.x', h.l, h.rest, h.n]
    by_cases he : x.e = 0
    · rw [show (x.e != 0) = false by simp [he]]
      simp only [cond_false]
      by_cases hk : x.k = 4
      · rw [show (x.k == 4) = true by simp [hk]]
        rfl
      · rw [show (x.k == 4) = false by simp [hk]]
        simp only [cond_false]
        rw [allR_mv d f, h.tl he]
        cases allR f x.rest x.l x.n with
        | none => rfl
        | some o => rfl
    · rw [show (x.e != 0) = true by simp [he]]
      simp [mvOut, he]

theorem skip_lines : ∀ (m : Nat) (cs : List UInt8) (l : Int), skipR false (List.replicate m 10 ++ cs) l = skipR false cs (l + m)
  | 0, cs, l => by simp
  | m + 1, cs, l => by
    rw [List.replicate_succ, List.cons_append]
    simp only [skipR]
    rw [if_pos (by decide), skip_lines m cs (l + 1)]
    congr 1; omega

/-- Blanks ahead. -/
theorem allR_ahead (f m : Nat) (t : List UInt8) (l n : Int) : allR f (List.replicate m 10 ++ ([32, 9] ++ t)) l n = allR f t (l + m) n := by
  cases f with
  | zero => rfl
  | succ f =>
    have : nextR (List.replicate m 10 ++ ([32, 9] ++ t)) l n = nextR t (l + m) n := by
      unfold nextR
      rw [skip_lines]
      simp only [List.cons_append, List.nil_append]
      have h1 : ∀ (cs : List UInt8) (l : Int), skipR false (32 :: cs) l = skipR false cs l := fun cs l => by simp only [skipR]; rw [if_neg (by decide), if_pos (by decide)]
      have h2 : ∀ (cs : List UInt8) (l : Int), skipR false (9 :: cs) l = skipR false cs l := fun cs l => by simp only [skipR]; rw [if_neg (by decide), if_pos (by decide)]
      rw [h1, h2]
    simp only [allR, this]

theorem allR_blanks (f m : Nat) (t : List UInt8) : allR f (List.replicate m 10 ++ [32, 9] ++ t ++ [10]) 1 0 = (allR f t 1 0).map (mvOut m) := by
  rw [show List.replicate m 10 ++ [32, 9] ++ t ++ [10] = List.replicate m 10 ++ ([32, 9] ++ (t ++ [10])) by simp, allR_ahead, allR_nl, allR_mv]

/-- Where lines lie. -/
theorem allR_lines : ∀ (f : Nat) (rest : List UInt8) (l n : Int) (o : List Tk × Int × Int), 0 ≤ l → allR f rest l n = some o → (∀ t ∈ o.1, l ≤ t.l ∧ t.l ≤ l + rest.length) ∧ 0 ≤ o.2.1 ∧ o.2.1 ≤ l + rest.length
  | 0, _, _, _, _, _, h => by simp [allR] at h
  | f + 1, rest, l, n, o, h0, h => by
    have inv := nextR_inv rest l n
    have htl : (nextR rest l n).e = 0 → (nextR rest l n).tl = (nextR rest l n).l := by
      unfold nextR
      generalize skipR false rest l = s
      obtain ⟨r1, l1⟩ := s
      cases r1 with
      | nil => intro _; rfl
      | cons c cs =>
        dsimp only
        have err : ∀ (e : Int) (he : e ≠ 0) (y : List UInt8) (n : Int), (errX e y l1 n).e = 0 → (errX e y l1 n).tl = (errX e y l1 n).l := fun e he y n h => absurd h he
        cases decide (n + 1 > 16384)
        · simp only [cond_false]
          cases letterB (c.toNat : Int)
          · simp only [cond_false]
            cases (digitB (c.toNat : Int) || (c.toNat : Int) == 45)
            · simp only [cond_false]
              cases ((c.toNat : Int) == 34)
              · exact err 160 (by omega) _ _
              · simp only [cond_true]
                cases cs.dropWhile quoB with
                | nil => exact err 161 (by omega) _ _
                | cons d2 ds =>
                  dsimp only
                  cases ((d2.toNat : Int) != 34)
                  · intro _; rfl
                  · exact err 161 (by omega) _ _
            · simp only [cond_true]
              cases (numR (c :: cs)).2.1 with
              | none => exact err 162 (by omega) _ _
              | some w => intro _; rfl
          · intro _; rfl
        · exact err 163 (by omega) _ _
    simp only [allR] at h
    generalize nextR rest l n = x at inv htl h
    have hlen : (0 : Int) ≤ x.rest.length := by omega
    by_cases he : x.e = 0
    · rw [show (x.e != 0) = false by simp [he], cond_false] at h
      by_cases hk : x.k = 4
      · rw [show (x.k == 4) = true by simp [hk], cond_true] at h
        injection h with h; subst h
        exact ⟨fun t ht => by simp at ht, by simp, by simp; omega⟩
      · rw [show (x.k == 4) = false by simp [hk], cond_false] at h
        cases hy : allR f x.rest x.l x.n with
        | none => rw [hy] at h; cases h
        | some y =>
          rw [hy] at h
          injection h with h; subst h
          obtain ⟨q1, q2, q3⟩ := allR_lines f x.rest x.l x.n y (by omega) hy
          refine ⟨fun t ht => ?_, q2, by simp only; omega⟩
          rcases List.mem_cons.1 ht with rfl | ht
          · simp only; rw [htl he]; omega
          · have := q1 t ht; omega
    · rw [show (x.e != 0) = true by simp [he], cond_true] at h
      injection h with h; subst h
      exact ⟨fun t ht => by simp at ht, by simp; omega, by simp; omega⟩
end Go.LI.Lex
