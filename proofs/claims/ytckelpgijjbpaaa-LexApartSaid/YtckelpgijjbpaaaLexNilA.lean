/- LexNil: the plain side: a text that ends in a semicolon. -/
import Derived.Test.YtckelpgijjbpaaaLexAA
namespace Go.LI.Lex
open Go.Proofs.Ytckelpgijjbpaaa Go Go.Proofs Go.LI
set_option linter.unusedVariables false
set_option linter.unusedSimpArgs false

theorem ends_suffix {l t : List UInt8} (hs : l <:+ t) (ht : t.getLast? = some 59) (hne : l ≠ []) : l.getLast? = some 59 := by
  obtain ⟨p, rfl⟩ := hs
  rw [List.getLast?_append] at ht
  cases hl : l.getLast? with
  | none => exact absurd (List.getLast?_eq_none_iff.1 hl) hne
  | some x => rw [hl] at ht; simpa using ht

theorem drop_nil {p : UInt8 → Bool} : ∀ {l : List UInt8}, l.dropWhile p = [] → ∀ x ∈ l, p x = true
  | [], _, x, hx => by simp at hx
  | c :: cs, h, x, hx => by
    rw [List.dropWhile_cons] at h
    split at h
    · rename_i hc
      rcases List.mem_cons.1 hx with rfl | hx
      · exact hc
      · exact drop_nil h x hx
    · cases h

theorem drop_ne {p : UInt8 → Bool} {l : List UInt8} (h : l.getLast? = some 59) (hp : p 59 = false) : l.dropWhile p ≠ [] := by
  intro hc
  have := drop_nil hc 59 (List.mem_of_getLast? h)
  rw [hp] at this; cases this

theorem tail_ends {c : UInt8} {cs : List UInt8} (h : (c :: cs).getLast? = some 59) (hc : c ≠ 59) : cs.getLast? = some 59 := by
  refine ends_suffix (List.suffix_cons c cs) h ?_
  rintro rfl
  simp at h
  exact hc h

theorem numE_fst (neg : Bool) (a b rest : List UInt8) : (numE neg a b rest).1 = rest := by
  unfold numE
  rfl

theorem numM_keep (neg : Bool) {l : List UInt8} (h : l.getLast? = some 59) : (numM neg l).1 ≠ [] := by
  have h1 := drop_ne (p := digB) h (by decide)
  have h2 := ends_suffix (List.dropWhile_suffix digB (l := l)) h h1
  unfold numM
  split
  · rename_i hd; exact absurd hd h1
  · rename_i c ds hd
    rw [hd] at h2
    by_cases hc : ((c.toNat : Int) == 46) = true
    · have h3 := tail_ends h2 (by rintro rfl; simp at hc)
      have h4 := drop_ne (p := digB) h3 (by decide)
      rw [hc, cond_true]
      cases (ds.takeWhile digB == [])
      · rw [cond_false, numE_fst]; exact h4
      · rw [cond_true]; exact h4
    · rw [Bool.eq_false_iff.2 hc, cond_false, numE_fst]
      simp

theorem numR_keep {l : List UInt8} (h : l.getLast? = some 59) : (numR l).1 ≠ [] := by
  cases l with
  | nil => simp at h
  | cons c cs =>
    simp only [numR]
    by_cases hc : ((c.toNat : Int) == 45) = true
    · rw [hc, cond_true]
      exact numM_keep true (tail_ends h (by rintro rfl; simp at hc))
    · rw [Bool.eq_false_iff.2 hc, cond_false]
      exact numM_keep false h

theorem skip_hash : ∀ (rest : List UInt8) (l : Int), rest.getLast? = some 59 → (skipR false rest l).1 = [] → (35 : UInt8) ∈ rest
  | [], l, h, _ => by simp at h
  | c :: cs, l, h, he => by
    simp only [skipR] at he
    split at he
    · rename_i hn
      exact List.mem_cons_of_mem _ (skip_hash cs _ (tail_ends h (by rintro rfl; revert hn; decide)) he)
    · split at he
      · rename_i hn
        exact List.mem_cons_of_mem _ (skip_hash cs _ (tail_ends h (by rintro rfl; revert hn; decide)) he)
      · split at he
        · rename_i hn
          have : c = 35 := by
            unfold reB at hn
            have h1 : c.toNat = 35 := by have := eq_of_beq hn; omega
            exact UInt8.toNat_inj.1 h1
          simp [this]
        · simp at he

/-- Behind a token something is left; the end comes behind a remark alone. -/
theorem nextR_keep (rest : List UInt8) (l n : Int) (h : rest.getLast? = some 59) :
    ((nextR rest l n).e = 0 → (nextR rest l n).k ≠ 4 → (nextR rest l n).rest ≠ []) ∧ ((nextR rest l n).e = 0 → (nextR rest l n).k = 4 → (35 : UInt8) ∈ rest) ∧ (nextR rest l n).b = (nextR rest l n).e := by
  have hsuf := skipR_suffix false rest l
  have hhash := skip_hash rest l h
  unfold nextR
  generalize skipR false rest l = s at hsuf hhash ⊢
  obtain ⟨r1, l1⟩ := s
  cases r1 with
  | nil => exact ⟨fun _ hk => absurd rfl hk, fun _ _ => hhash rfl, rfl⟩
  | cons c cs =>
    have h1 : (c :: cs).getLast? = some 59 := ends_suffix hsuf h (by simp)
    dsimp only
    have err : ∀ (e : Int) (y : List UInt8), e ≠ 0 → (((errX e y l1 (n + 1)).e = 0 → (errX e y l1 (n + 1)).k ≠ 4 → (errX e y l1 (n + 1)).rest ≠ []) ∧ ((errX e y l1 (n + 1)).e = 0 → (errX e y l1 (n + 1)).k = 4 → (35 : UInt8) ∈ rest) ∧ (errX e y l1 (n + 1)).b = (errX e y l1 (n + 1)).e) :=
      fun e y he => ⟨fun h => absurd h he, fun h => absurd h he, rfl⟩
    cases decide (n + 1 > 16384)
    · simp only [cond_false]
      cases letterB (c.toNat : Int)
      · simp only [cond_false]
        cases (digitB (c.toNat : Int) || (c.toNat : Int) == 45)
        · simp only [cond_false]
          by_cases hq : ((c.toNat : Int) == 34) = true
          · rw [hq, cond_true]
            have h2 := tail_ends h1 (by rintro rfl; simp at hq)
            have h4 := ends_suffix (List.dropWhile_suffix quoB (l := cs)) h2
            split
            · exact err 161 _ (by omega)
            · rename_i d ds hd
              rw [hd] at h4
              have h4 := h4 (by simp)
              by_cases hd2 : ((d.toNat : Int) != 34) = true
              · rw [hd2, cond_true]; exact err 161 _ (by omega)
              · rw [Bool.eq_false_iff.2 hd2, cond_false]
                refine ⟨fun _ _ => ?_, fun _ hk => by simp at hk, rfl⟩
                have h5 := tail_ends h4 (by rintro rfl; simp at hd2)
                intro hc
                simp only at hc
                rw [hc] at h5; simp at h5
          · rw [Bool.eq_false_iff.2 hq, cond_false]; exact err 160 _ (by omega)
        · simp only [cond_true]
          split
          · exact err 162 _ (by omega)
          · exact ⟨fun _ _ => numR_keep h1, fun _ hk => by simp at hk, rfl⟩
      · simp only [cond_true]
        exact ⟨fun _ _ => drop_ne h1 (by decide), fun _ hk => by simp at hk, trivial⟩
    · simp only [cond_true]; exact err 163 _ (by omega)
end Go.LI.Lex
