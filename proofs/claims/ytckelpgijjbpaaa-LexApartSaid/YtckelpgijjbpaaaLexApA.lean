/- LexApart: the plain side: words, texts and what lies between. -/
import Derived.Test.YtckelpgijjbpaaaLexLn
import Derived.Lib.Bytealg
namespace Go.LI.Lex
open Go.Proofs.Ytckelpgijjbpaaa Go Go.Proofs Go.LI
set_option linter.unusedVariables false
set_option linter.unusedSimpArgs false

def lowB (c : UInt8) : Bool := decide ((c.toNat : Int) ≥ 97) && decide ((c.toNat : Int) ≤ 122)
def gapL : List (List UInt8) := [[32], [9, 32], [32, 35, 32, 114, 32, 34, 32, 57, 10], [10, 10], [13, 10]]
def gcnt (g : List UInt8) : Nat := Go.Lib.countByte g 10
def quoted (w : List UInt8) : Bool := (w.filter lowB == []) || (Int.tmod (w.length : Int) 2 == 0)
def pieceT (p : List UInt8 × List UInt8) : List UInt8 := p.1 ++ (bif quoted p.2 then 34 :: (p.2.filter lowB ++ [34]) else p.2.filter lowB)
def textT : List (List UInt8 × List UInt8) → List UInt8
  | [] => []
  | p :: ps => pieceT p ++ textT ps
def toksT : List (List UInt8 × List UInt8) → Int → List Tk
  | [], _ => []
  | p :: ps, l => ⟨bif quoted p.2 then 3 else 1, p.2.filter lowB, 0, l + gcnt p.1⟩ :: toksT ps (l + gcnt p.1)

theorem skip_gap {g : List UInt8} (hg : g ∈ gapL) (r : List UInt8) (l : Int) : skipR false (g ++ r) l = skipR false r (l + gcnt g) := by
  have h : g = [32] ∨ g = [9, 32] ∨ g = [32, 35, 32, 114, 32, 34, 32, 57, 10] ∨ g = [10, 10] ∨ g = [13, 10] := by simpa [gapL] using hg
  rcases h with rfl | rfl | rfl | rfl | rfl
  · have e : (gcnt [32] : Int) = 0 := by decide
    have h1 : skipR false ([32] ++ r) l = skipR false r l := by kernel_rfl
    rw [e, Int.add_zero, h1]
  · have e : (gcnt [9, 32] : Int) = 0 := by decide
    have h1 : skipR false ([9, 32] ++ r) l = skipR false r l := by kernel_rfl
    rw [e, Int.add_zero, h1]
  · have e : (gcnt [32, 35, 32, 114, 32, 34, 32, 57, 10] : Int) = 1 := by decide
    have h1 : skipR false ([32, 35, 32, 114, 32, 34, 32, 57, 10] ++ r) l = skipR false r (l + 1) := by kernel_rfl
    rw [e, h1]
  · have e : (gcnt [10, 10] : Int) = 2 := by decide
    rw [e]
    have h1 : skipR false ([10, 10] ++ r) l = skipR false r (l + 1 + 1) := by kernel_rfl
    rw [h1]; congr 1; omega
  · have e : (gcnt [13, 10] : Int) = 1 := by decide
    have h1 : skipR false ([13, 10] ++ r) l = skipR false r (l + 1) := by kernel_rfl
    rw [e, h1]

def okHead (r : List UInt8) : Prop := r = [] ∨ ∃ c cs, r = c :: cs ∧ wordB c = false

theorem low_word {c : UInt8} (h : lowB c = true) : wordB c = true ∧ letterB (c.toNat : Int) = true ∧ nlB c = false ∧ blB c = false ∧ reB c = false ∧ quoB c = true := by
  simp only [lowB, Bool.and_eq_true, decide_eq_true_eq] at h
  have hl : letterB (c.toNat : Int) = true := by simp [letterB]; omega
  refine ⟨by simp [wordB, hl], hl, ?_, ?_, ?_, ?_⟩
  · simp [nlB]; omega
  · simp [blB]; omega
  · simp [reB]; omega
  · simp [quoB]; omega

theorem low_mem {w : List UInt8} : ∀ c ∈ w.filter lowB, lowB c = true := fun c hc => (List.mem_filter.1 hc).2

theorem skip_low {c : UInt8} (h : lowB c = true) (cs : List UInt8) (l : Int) : skipR false (c :: cs) l = (c :: cs, l) := by
  obtain ⟨_, _, h1, h2, h3, _⟩ := low_word h
  simp only [skipR]
  rw [h1, h2, h3]
  simp

theorem tw_app {p : UInt8 → Bool} {ds r : List UInt8} (h : ∀ d ∈ ds, p d = true) (hr : r = [] ∨ ∃ c cs, r = c :: cs ∧ p c = false) : (ds ++ r).takeWhile p = ds ∧ (ds ++ r).dropWhile p = r := by
  rw [List.takeWhile_append_of_pos h, List.dropWhile_append_of_pos h]
  rcases hr with rfl | ⟨c, cs, rfl, hc⟩
  · simp
  · simp [hc]

theorem next_piece {p : List UInt8 × List UInt8} (hg : p.1 ∈ gapL) {r : List UInt8} (hr : okHead r) (l n : Int) (hn : n + 1 ≤ 16384) :
    nextR (pieceT p ++ r) l n = ⟨bif quoted p.2 then 3 else 1, p.2.filter lowB, 0, l + gcnt p.1, 0, r, l + gcnt p.1, n + 1, 0, []⟩ := by
  unfold nextR pieceT
  rw [List.append_assoc, skip_gap hg]
  have hm : decide (n + 1 > 16384) = false := by simp; omega
  generalize l + (gcnt p.1 : Int) = l1
  by_cases hq : quoted p.2 = true
  · rw [hq]
    simp only [cond_true, List.cons_append, List.append_assoc, List.nil_append]
    have hs : skipR false (34 :: (p.2.filter lowB ++ 34 :: r)) l1 = (34 :: (p.2.filter lowB ++ 34 :: r), l1) := by kernel_rfl
    rw [hs]
    obtain ⟨h1, h2⟩ := tw_app (p := quoB) (ds := p.2.filter lowB) (r := 34 :: r) (fun d hd => (low_word (low_mem d hd)).2.2.2.2.2) (.inr ⟨34, r, rfl, by decide⟩)
    simp only
    rw [hm, cond_false, show letterB (((34 : UInt8).toNat : Nat) : Int) = false by decide, cond_false, show (digitB (((34 : UInt8).toNat : Nat) : Int) || (((34 : UInt8).toNat : Nat) : Int) == 45) = false by decide, cond_false,
      show ((((34 : UInt8).toNat : Nat) : Int) == 34) = true by decide, cond_true, h2, h1]
    simp only
    rw [show ((((34 : UInt8).toNat : Nat) : Int) != 34) = false by decide, cond_false]
  · rw [Bool.eq_false_iff.2 hq]
    simp only [cond_false]
    have hne : p.2.filter lowB ≠ [] := by
      intro h
      apply hq
      unfold quoted
      rw [h]; rfl
    obtain ⟨h1, h2⟩ := tw_app (p := wordB) (ds := p.2.filter lowB) (r := r) (fun d hd => (low_word (low_mem d hd)).1) hr
    have hlow := low_mem (w := p.2)
    generalize p.2.filter lowB = s at hne h1 h2 hlow
    cases s with
    | nil => exact absurd rfl hne
    | cons c cs =>
      have hc := hlow c (by simp)
      simp only [List.cons_append] at h1 h2 ⊢
      rw [skip_low hc]
      simp only
      rw [hm, cond_false, (low_word hc).2.1, cond_true, h1, h2]

theorem gap_head {g : List UInt8} (hg : g ∈ gapL) : ∃ c cs, g = c :: cs ∧ wordB c = false := by
  have h : g = [32] ∨ g = [9, 32] ∨ g = [32, 35, 32, 114, 32, 34, 32, 57, 10] ∨ g = [10, 10] ∨ g = [13, 10] := by simpa [gapL] using hg
  rcases h with rfl | rfl | rfl | rfl | rfl <;> exact ⟨_, _, rfl, by decide⟩

theorem text_head {ps : List (List UInt8 × List UInt8)} (h : ∀ p ∈ ps, p.1 ∈ gapL) : okHead (textT ps) := by
  cases ps with
  | nil => exact .inl rfl
  | cons p ps =>
    obtain ⟨c, cs, hc, hw⟩ := gap_head (h p (by simp))
    exact .inr ⟨c, (cs ++ (bif quoted p.2 then 34 :: (p.2.filter lowB ++ [34]) else p.2.filter lowB)) ++ textT ps, by simp only [textT, pieceT, hc, List.cons_append], hw⟩

theorem allR_apart : ∀ (ps : List (List UInt8 × List UInt8)) (f : Nat) (l n : Int), (∀ p ∈ ps, p.1 ∈ gapL) → n + ps.length ≤ 16384 → ps.length < f → allR f (textT ps) l n = some (toksT ps l, 0, 0)
  | _, 0, l, n, _, _, hf => absurd hf (Nat.not_lt_zero _)
  | [], f + 1, l, n, _, _, _ => by simp [allR, nextR, skipR, textT, toksT]
  | p :: ps, f + 1, l, n, hg, hn, hf => by
    simp only [List.length_cons] at hn hf
    have hg' : ∀ q ∈ ps, q.1 ∈ gapL := fun q hq => hg q (List.mem_cons_of_mem _ hq)
    have h1 := next_piece (hg p List.mem_cons_self) (text_head hg') l n (by omega)
    simp only [allR, textT, toksT]
    rw [h1]
    have hk : ((bif quoted p.2 then (3 : Int) else 1) == 4) = false := by cases quoted p.2 <;> rfl
    simp only [hk, cond_false, bne_self_eq_false]
    rw [allR_apart ps f (l + gcnt p.1) (n + 1) hg' (by omega) (by omega)]
    rfl

theorem filter_le (w : List UInt8) : (w.filter lowB).length ≤ w.length := List.length_filter_le _ _
theorem piece_len {p : List UInt8 × List UInt8} (hg : p.1 ∈ gapL) (hw : p.2.length ≤ 140737488355328) : (pieceT p).length ≤ 140737488355400 := by
  have h : p.1.length ≤ 9 := by
    have h : p.1 = [32] ∨ p.1 = [9, 32] ∨ p.1 = [32, 35, 32, 114, 32, 34, 32, 57, 10] ∨ p.1 = [10, 10] ∨ p.1 = [13, 10] := by simpa [gapL] using hg
    rcases h with h | h | h | h | h <;> rw [h] <;> decide
  have := filter_le p.2
  unfold pieceT
  cases quoted p.2 <;> simp <;> omega
theorem gcnt_le {g : List UInt8} (hg : g ∈ gapL) : gcnt g ≤ 2 := by
  have h : g = [32] ∨ g = [9, 32] ∨ g = [32, 35, 32, 114, 32, 34, 32, 57, 10] ∨ g = [10, 10] ∨ g = [13, 10] := by simpa [gapL] using hg
  rcases h with rfl | rfl | rfl | rfl | rfl <;> decide
end Go.LI.Lex
