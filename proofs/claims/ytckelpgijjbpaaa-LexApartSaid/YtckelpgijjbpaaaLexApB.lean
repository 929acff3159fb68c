/- LexApart: what the interpreter gives is true. -/
import Derived.Test.YtckelpgijjbpaaaLexApA
import Derived.Test.YtckelpgijjbpaaaLexG2
import Derived.Test.YtckelpgijjbpaaaLexNilB
import Derived.Test.YtckelpgijjbpaaaLexBlB
import Derived.Test.YtckelpgijjbpaaaHpA
import Derived.Test.YtckelpgijjbpaaaLiAll2
namespace Go.LI.Lex
open Go.Proofs.Ytckelpgijjbpaaa Go Go.Proofs Go.LI
set_option linter.unusedVariables false
set_option linter.unusedSimpArgs false
set_option maxRecDepth 100000

def strC (ws : List (List UInt8)) : List IV := ws.map IV.str
def intC (gs : List Int) : List IV := gs.map (IV.int .i64)
theorem rsl_keep {G G' : GH} {e : Nat} {a : Option GA} {n : Nat} {cs : List IV} {base : Nat} (h : RSl G e a n cs) (hk : Keeps base G G') (hb : G.length ≤ base) : RSl G' e a n cs := by
  rcases h with h | ⟨ga, h1, h2, h3⟩
  · exact .inl h
  · exact .inr ⟨ga, h1, by rw [hk.2 ga.b (by have := (List.getElem?_eq_some_iff.1 h2).1; omega)]; exact h2, h3⟩
/-- A place in a slice that is read. -/
theorem rsl_at {G : GH} {e : Nat} {a : Option GA} {n i : Nat} {cs : List IV} (h : RSl G e a n cs) (hi : i < n) : ∃ ga, idx? a n (i : Int) 1 = some ga ∧ gld G ga = cs[i]? := by
  rcases h with ⟨_, h, _⟩ | ⟨ga, h1, h2, h3⟩
  · omega
  · refine ⟨ga.add (i * 1), ?_, ?_⟩
    · subst h1
      simp only [idx?, Int.toNat_natCast]
      rw [if_pos (by omega)]
    · have h4 := h3 (by omega)
      simp only [gld, GA.add, h2, h4, Nat.zero_add, Nat.mul_one]
      rw [if_pos (by decide)]

/-- The gap ahead of a word. -/
def gapAt (gs : List Int) (i : Nat) : List UInt8 :=
  if 0 < gs.length then gapL.getD (IntKind.wrap .i64 (Int.tmod (IntKind.wrap .u64 (gs.getD (i % gs.length) 0)) 5)).toNat [32] else [32]
theorem gapAt_mem (gs : List Int) (i : Nat) : gapAt gs i ∈ gapL := by
  unfold gapAt
  split
  · generalize (IntKind.wrap .i64 (Int.tmod (IntKind.wrap .u64 (gs.getD (i % gs.length) 0)) 5)).toNat = j
    match j with
    | 0 => decide
    | 1 => decide
    | 2 => decide
    | 3 => decide
    | 4 => decide
    | j + 5 => simp [gapL]
  · decide
def psOf (gs : List Int) : List (List UInt8) → Nat → List (List UInt8 × List UInt8)
  | [], _ => []
  | w :: ws, i => (gapAt gs i, w) :: psOf gs ws (i + 1)
theorem psOf_mem (gs : List Int) : ∀ (ws : List (List UInt8)) (i : Nat), ∀ p ∈ psOf gs ws i, p.1 ∈ gapL
  | [], _, p, h => by simp [psOf] at h
  | w :: ws, i, p, h => by
    simp only [psOf, List.mem_cons] at h
    rcases h with rfl | h
    · exact gapAt_mem gs i
    · exact psOf_mem gs ws (i + 1) p h
theorem psOf_len (gs : List Int) : ∀ (ws : List (List UInt8)) (i : Nat), (psOf gs ws i).length = ws.length
  | [], _ => rfl
  | w :: ws, i => by simp [psOf, psOf_len gs ws (i + 1)]

abbrev N19 {R : Type} (O : Ora R) : Prop := ∀ (g : List UInt8) (G : GH) (k : IV → GH → Option R), O 19 [.str g, .str [10]] G k = k (.int .i64 (gcnt g)) G

section
variable {R : Type} {O : Ora R} {F : Nat}

theorem filter_loop (hF : 1 ≤ F) (w : List UInt8) (hw : w.length ≤ 140737488355328) (K2 : Option GA → Nat → Option GA → Nat → List UInt8 → Int → Option GA → Nat → Int → List UInt8 → List UInt8 → Option GA → Nat → Int → Int → GH → Option R)
    (s1a : Option GA) (s1n : Nat) (s5a : Option GA) (s5n : Nat) (s6 : List UInt8) (s7 : Int) (s8a : Option GA) (s8n : Nat) (s9 : Int) (s24a : Option GA) (s24n : Nat) (s25 s26 : Int) (G : GH) :
    ∀ (d f k : Nat) (s : List UInt8), k + d = w.length → d < f → s = (w.take k).filter lowB → l6_1 O F K2 f s1a s1n s5a s5n s6 s7 s8a s8n s9 w s k s24a s24n s25 s26 G = K2 s1a s1n s5a s5n s6 s7 s8a s8n s9 w (w.filter lowB) s24a s24n s25 s26 G
  | 0, f + 1, k, s, hk, hf, hs => by
    have hc : decide ((k : Int) < (w.length : Int)) = false := by simp; omega
    simp only [l6_1, u6_1]
    rw [hc, cond_false, hs, List.take_of_length_le (by omega)]
  | d + 1, f + 1, k, s, hk, hf, hs => by
    have hc : decide ((k : Int) < (w.length : Int)) = true := by simp; omega
    have hc2 : decide (0 ≤ (k : Int) ∧ (k : Int) < (w.length : Int)) = true := by simp; omega
    have wk : IntKind.wrap .i64 ((k : Int) + 1) = ((k + 1 : Nat) : Int) := by rw [IntWalk.i64_in _ (by omega)]; omega
    have hget : w[k]? = some w[k] := List.getElem?_eq_getElem (by omega)
    have hgd : w.getD k 0 = w[k] := by simp [List.getD, hget]
    have htake : w.take (k + 1) = w.take k ++ [w[k]] := by rw [List.take_add_one, hget]; rfl
    have hslen : s.length ≤ k := by rw [hs]; have := filter_le (w.take k); simp at this; omega
    simp only [l6_1, u6_1]
    rw [hc, cond_true]
    simp only [L6_2]
    rw [stepF hF]
    simp only [l6_2, u6_2, L6_3]
    rw [stepF hF]
    simp only [l6_3, u6_3]
    rw [hc2, cond_true, Int.toNat_natCast, hgd]
    have step : ∀ (b : Bool), b = lowB w[k] → a6_3N O (a6_2N O (l6_1 O F K2 f) K2) s1a s1n s5a s5n s6 s7 s8a s8n s9 w s k s24a s24n s25 s26 b G = K2 s1a s1n s5a s5n s6 s7 s8a s8n s9 w (w.filter lowB) s24a s24n s25 s26 G := by
      intro b hb
      simp only [a6_3N]
      cases hl : lowB w[k] with
      | true =>
        rw [hb, hl, cond_true, wk]
        have hc3 : decide (0 ≤ (k : Int) ∧ (k : Int) ≤ ((k + 1 : Nat) : Int) ∧ ((k + 1 : Nat) : Int) ≤ (w.length : Int)) = true := by
          apply decide_eq_true; omega
        have hone : (w.drop k).take (k + 1 - k) = [w[k]] := by
          rw [show k + 1 - k = 1 by omega, List.drop_eq_getElem_cons (by omega)]; rfl
        rw [hc3, cond_true, Int.toNat_natCast, Int.toNat_natCast, hone]
        have hr : decide (s.length + [w[k]].length ≤ roomS) = true := by apply decide_eq_true; unfold roomS; simp; omega
        rw [hr, cond_true]
        simp only [a6_2N]
        rw [wk]
        exact filter_loop hF w hw K2 s1a s1n s5a s5n s6 s7 s8a s8n s9 s24a s24n s25 s26 G d f (k + 1) (s ++ [w[k]]) (by omega) (by omega) (by rw [htake, List.filter_append, hs]; simp [hl])
      | false =>
        rw [hb, hl, cond_false]
        simp only [a6_2N]
        rw [wk]
        exact filter_loop hF w hw K2 s1a s1n s5a s5n s6 s7 s8a s8n s9 s24a s24n s25 s26 G d f (k + 1) s (by omega) (by omega) (by rw [htake, List.filter_append, hs]; simp [hl])
    cases h1 : decide (((w[k].toNat : Nat) : Int) ≥ 97) with
    | true =>
      rw [cond_true, cond_true]
      exact step _ (by unfold lowB; rw [h1]; simp)
    | false =>
      rw [cond_false]
      exact step _ (by unfold lowB; rw [h1]; rfl)

theorem gap_get {G : GH} {b5 i : Nat} (h : G[b5]? = some ⟨strC gapL, 9, 1⟩) (hi : i < 5) : ∃ ga, idx? (some ⟨b5, 0⟩) 5 (i : Int) 1 = some ga ∧ ldStr G ga = some (gapL.getD i [32]) := by
  refine ⟨⟨b5, i⟩, ?_, ?_⟩
  · simp only [idx?, Int.toNat_natCast]
    rw [if_pos (by omega)]
    simp [GA.add]
  · simp only [ldStr, gld, h]
    match i, hi with
    | 0, _ => rfl
    | 1, _ => rfl
    | 2, _ => rfl
    | 3, _ => rfl
    | 4, _ => rfl

theorem words_loop (hF : 1152921504606846976 ≤ F) (h19 : N19 O) (K0 : List UInt8 → Option GA → Nat → GH → Option R) {base b5 : Nat} (hb5 : b5 < base) {gs : List Int} {ga wa : Option GA} {gn : Nat} (hgl : gs.length = gn) {all : List (List UInt8)} (hall : all.length ≤ 200) (hwl : ∀ w ∈ all, w.length ≤ 140737488355328) :
    ∀ (ws : List (List UInt8)) (f i : Nat) (acc : List UInt8) (l : Int) (a : Option GA) (ts : List Tk) (G : GH), (∀ j, all[i + j]? = ws[j]?) → i + ws.length = all.length → ws.length < f → acc.length ≤ i * 140737488355400 → 0 ≤ l → l ≤ 1 + 2 * i → ts.length = i →
      base ≤ G.length → G[b5]? = some ⟨strC gapL, 9, 1⟩ → (∀ G', Keeps base G G' → RSl G' 3 ga gn (intC gs) ∧ RSl G' 9 wa all.length (strC all)) → Sl base G 32 4 a ts.length (tkCells ts) →
      ∃ a' G', l6_0 O F K0 f ga gn (some ⟨b5, 0⟩) 5 acc l a ts.length wa all.length all.length i G = K0 (acc ++ textT (psOf gs ws i)) a' (ts ++ toksT (psOf gs ws i) l).length G' ∧
        Sl base G' 32 4 a' (ts ++ toksT (psOf gs ws i) l).length (tkCells (ts ++ toksT (psOf gs ws i) l)) ∧ Keeps base G G'
  | [], f + 1, i, acc, l, a, ts, G, hw, hi, hf, hacc, hl0, hl1, hts, hbase, h5, hr, hS => by
    have hc : decide ((i : Int) < (all.length : Int)) = false := by simp at hi ⊢; omega
    refine ⟨a, G, ?_, by simpa [psOf, toksT] using hS, Keeps.refl _ _⟩
    simp only [l6_0, u6_0]
    rw [hc, cond_false]
    simp [psOf, toksT, textT]
  | w :: ws, f + 1, i, acc, l, a, ts, G, hw, hi, hf, hacc, hl0, hl1, hts, hbase, h5, hr, hS => by
    simp only [List.length_cons] at hi hf
    have hc : decide ((i : Int) < (all.length : Int)) = true := by simp; omega
    have hwi : all[i]? = some w := by have := hw 0; simpa using this
    have hwm : w ∈ all := List.mem_of_getElem? hwi
    have hwl' := hwl w hwm
    obtain ⟨rg, rw'⟩ := hr G (Keeps.refl _ _)
    obtain ⟨g1, x1, x2⟩ := rsl_at rw' (i := i) (by omega)
    have x3 : ldStr G g1 = some w := by
      simp only [ldStr]; rw [x2]; simp [strC, hwi]
    simp only [l6_0, u6_0]
    rw [hc, cond_true, x1, Option.bind_some, x3, Option.bind_some]
    simp only [L6_1]
    have hfl := filter_loop (O := O) (F := F) (by omega) w hwl' (a6_12 O (l6_0 O F K0 f) K0 (L6_4 O F (l6_0 O F K0 f) K0)) ga gn (some ⟨b5, 0⟩) 5 acc l a ts.length i wa all.length all.length i G w.length F 0 [] (by omega) (by omega) (by simp)
    rw [show ((0 : Nat) : Int) = 0 from rfl] at hfl
    rw [hfl]
    simp only [a6_12]
    obtain ⟨g2, y1, y2⟩ := gap_get h5 (i := 0) (by omega)
    rw [show (0 : Int) = ((0 : Nat) : Int) from rfl, y1, Option.bind_some, y2, Option.bind_some]
    have hps : psOf gs (w :: ws) i = (gapAt gs i, w) :: psOf gs ws (i + 1) := rfl
    have hgm := gapAt_mem gs i
    have hpl := piece_len (p := (gapAt gs i, w)) hgm hwl'
    have hgc := gcnt_le hgm
    have hglen : (gapAt gs i).length ≤ 9 := by
      have h : gapAt gs i = [32] ∨ gapAt gs i = [9, 32] ∨ gapAt gs i = [32, 35, 32, 114, 32, 34, 32, 57, 10] ∨ gapAt gs i = [10, 10] ∨ gapAt gs i = [13, 10] := by simpa [gapL] using hgm
      rcases h with h | h | h | h | h <;> rw [h] <;> decide
    have hfle := filter_le w
    have wi : IntKind.wrap .i64 ((i : Int) + 1) = ((i + 1 : Nat) : Int) := by rw [IntWalk.i64_in _ (by omega)]; omega
    have hi2 : i * 140737488355400 ≤ 200 * 140737488355400 := Nat.mul_le_mul_right _ (by omega)
    have fin : ∀ (q : Bool), q = quoted w → ∃ a' G', a6_5N O (l6_0 O F K0 f) K0 ga gn (some ⟨b5, 0⟩) 5 (acc ++ gapAt gs i) (l + gcnt (gapAt gs i)) a ts.length (w.filter lowB) wa all.length all.length i q G =
          K0 (acc ++ textT (psOf gs (w :: ws) i)) a' (ts ++ toksT (psOf gs (w :: ws) i) l).length G' ∧
        Sl base G' 32 4 a' (ts ++ toksT (psOf gs (w :: ws) i) l).length (tkCells (ts ++ toksT (psOf gs (w :: ws) i) l)) ∧ Keeps base G G' := by
      intro q hq
      obtain ⟨t, ht⟩ : ∃ t : Tk, t = ⟨bif quoted w then 3 else 1, w.filter lowB, 0, l + gcnt (gapAt gs i)⟩ := ⟨_, rfl⟩
      obtain ⟨a1, G1, e1, e2, e3⟩ := sl_append (bytes := 40) (x := t.cells) hS hbase (by rfl) (by unfold roomI; omega)
      have hg : grd (gnew G t.cells 32) (gaddr G) (1 * 4) = some t.cells := grd_gnew G _ 32 _ rfl
      have hk1 : ∀ G', Keeps base G1 G' → RSl G' 3 ga gn (intC gs) ∧ RSl G' 9 wa all.length (strC all) := fun G' h => hr G' (e3.trans h)
      have h51 : G1[b5]? = some ⟨strC gapL, 9, 1⟩ := by rw [e3.2 b5 hb5]; exact h5
      have hlen1 : (acc ++ pieceT (gapAt gs i, w)).length ≤ (i + 1) * 140737488355400 := by rw [List.length_append, Nat.add_mul]; omega
      have hS1 : Sl base G1 32 4 (some a1) (ts ++ [t]).length (tkCells (ts ++ [t])) := by
        rw [tkCells_append, show tkCells [t] = t.cells by simp [tkCells], List.length_append]; exact e2
      obtain ⟨a2, G2, f1, f2, f3⟩ := words_loop hF h19 K0 hb5 hgl hall hwl ws f (i + 1) (acc ++ pieceT (gapAt gs i, w)) (l + gcnt (gapAt gs i)) (some a1) (ts ++ [t]) G1
        (fun j => by have := hw (j + 1); simpa [Nat.add_assoc, Nat.add_comm 1 j] using this) (by omega) (by omega) hlen1 (by omega) (by omega) (by simp [hts]) (Nat.le_trans hbase e3.1) h51 hk1 hS1
      have htoks : ts ++ toksT (psOf gs (w :: ws) i) l = ts ++ [t] ++ toksT (psOf gs ws (i + 1)) (l + gcnt (gapAt gs i)) := by rw [hps, ht]; simp [toksT]
      have htext : acc ++ textT (psOf gs (w :: ws) i) = acc ++ pieceT (gapAt gs i, w) ++ textT (psOf gs ws (i + 1)) := by rw [hps]; simp [textT]
      rw [htoks, htext]
      refine ⟨a2, G2, ?_, f2, e3.trans f3⟩
      rw [← f1]
      simp only [a6_5N]
      rw [hq]
      have hp : pieceT (gapAt gs i, w) = gapAt gs i ++ (bif quoted w then 34 :: (w.filter lowB ++ [34]) else w.filter lowB) := rfl
      cases hqq : quoted w with
      | true =>
        rw [hqq, cond_true] at ht hp
        have r1 : decide ((acc ++ gapAt gs i).length + ([34] : List UInt8).length ≤ roomS) = true := by apply decide_eq_true; unfold roomS; simp; omega
        have r2 : decide (((acc ++ gapAt gs i) ++ ([34] : List UInt8)).length + (w.filter lowB).length ≤ roomS) = true := by apply decide_eq_true; unfold roomS; simp only [List.length_append, List.length_singleton]; omega
        have r3 : decide ((((acc ++ gapAt gs i) ++ ([34] : List UInt8)) ++ w.filter lowB).length + ([34] : List UInt8).length ≤ roomS) = true := by apply decide_eq_true; unfold roomS; simp only [List.length_append, List.length_singleton]; omega
        have hcells : t.cells = [.int .i64 3, .str (w.filter lowB), .float .f64 0, .int .i64 (l + gcnt (gapAt gs i))] := by rw [ht]; rfl
        rw [hcells] at e1 hg
        simp only [cond_true]
        rw [r1, cond_true, r2, cond_true, r3, cond_true, hg, Option.bind_some, e1, Option.bind_some]
        rw [wi, hp]
        simp
      | false =>
        rw [hqq, cond_false] at ht hp
        have r1 : decide ((acc ++ gapAt gs i).length + (w.filter lowB).length ≤ roomS) = true := by apply decide_eq_true; unfold roomS; simp only [List.length_append]; omega
        have hcells : t.cells = [.int .i64 1, .str (w.filter lowB), .float .f64 0, .int .i64 (l + gcnt (gapAt gs i))] := by rw [ht]; rfl
        rw [hcells] at e1 hg
        simp only [cond_false]
        rw [r1, cond_true, hg, Option.bind_some, e1, Option.bind_some]
        rw [wi, hp]
        simp
    have fin2 : ∃ a' G', a6_4N O (l6_0 O F K0 f) K0 (L6_5 O F (l6_0 O F K0 f) K0) ga gn (some ⟨b5, 0⟩) 5 acc l a ts.length w (w.filter lowB) (gapAt gs i) wa all.length all.length i G =
          K0 (acc ++ textT (psOf gs (w :: ws) i)) a' (ts ++ toksT (psOf gs (w :: ws) i) l).length G' ∧
        Sl base G' 32 4 a' (ts ++ toksT (psOf gs (w :: ws) i) l).length (tkCells (ts ++ toksT (psOf gs (w :: ws) i) l)) ∧ Keeps base G G' := by
      simp only [a6_4N]
      have r1 : decide (acc.length + (gapAt gs i).length ≤ roomS) = true := by apply decide_eq_true; unfold roomS; omega
      rw [r1, cond_true, h19, int_open]
      have wl : IntKind.wrap .i64 (l + (gcnt (gapAt gs i) : Int)) = l + gcnt (gapAt gs i) := IntWalk.i64_in _ (by omega)
      rw [wl]
      simp only [L6_5]
      rw [stepF (by omega)]
      simp only [l6_5, u6_5]
      cases he : (w.filter lowB == []) with
      | true =>
        rw [cond_true]
        exact fin true (by unfold quoted; rw [he]; rfl)
      | false =>
        rw [cond_false]
        exact fin _ (by unfold quoted; rw [he]; rfl)
    simp only [L6_4]
    rw [stepF (by omega)]
    simp only [l6_4, u6_4]
    by_cases hgn : 0 < gn
    · have c1 : decide ((gn : Int) > 0) = true := by simp; omega
      have c2 : ((gn : Int) == 0) = false := by simp; omega
      have hm : Int.tmod (i : Int) (gn : Int) = ((i % gn : Nat) : Int) := by rw [Int.tmod_eq_emod_of_nonneg (by omega)]; rfl
      have hlt : i % gn < gn := Nat.mod_lt _ hgn
      obtain ⟨g3, z1, z2⟩ := rsl_at rg hlt
      have z3 : ldInt G .i64 g3 = some (gs.getD (i % gn) 0) := by
        have hget : gs[i % gn]? = some (gs[i % gn]'(by omega)) := List.getElem?_eq_getElem (by omega)
        simp only [ldInt]; rw [z2]; simp [intC, hget, List.getD]
      rw [c1, cond_true, c2, cond_false, hm, z1, Option.bind_some, z3, Option.bind_some]
      have hj : ∃ j : Nat, j < 5 ∧ IntKind.wrap .i64 (Int.tmod (IntKind.wrap .u64 (gs.getD (i % gn) 0)) 5) = j := by
        generalize gs.getD (i % gn) 0 = v
        have h0 : 0 ≤ IntKind.wrap .u64 v := by
          unfold IntKind.wrap
          simp only [IntKind.signed, Bool.false_and, Bool.false_eq_true, if_false, decide_eq_true_eq]
          first | exact Int.emod_nonneg _ (by decide) | (split <;> omega)
        have h1 : 0 ≤ Int.tmod (IntKind.wrap .u64 v) 5 := Int.tmod_nonneg _ h0
        have h2 : Int.tmod (IntKind.wrap .u64 v) 5 < 5 := Int.tmod_lt_of_pos _ (by decide)
        refine ⟨(Int.tmod (IntKind.wrap .u64 v) 5).toNat, by omega, ?_⟩
        rw [IntWalk.i64_in _ (by omega)]; omega
      obtain ⟨j, hj5, hj⟩ := hj
      obtain ⟨g4, u1, u2⟩ := gap_get h5 hj5
      have hga : gapAt gs i = gapL.getD j [32] := by unfold gapAt; rw [if_pos (by omega), hgl, hj, Int.toNat_natCast]
      rw [hj, u1, Option.bind_some, u2, Option.bind_some, ← hga]
      exact fin2
    · have c1 : decide ((gn : Int) > 0) = false := by simp; omega
      have hga : gapL.getD 0 [32] = gapAt gs i := by unfold gapAt; rw [if_neg (by omega)]; rfl
      rw [c1, cond_false, hga]
      exact fin2
end
end Go.LI.Lex
