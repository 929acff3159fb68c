/- The reference's reader: the next token. -/
import Derived.Test.YtckelpgijjbpaaaLexI
import Derived.Test.YtckelpgijjbpaaaLexY
namespace Go.LI.Lex
open Go.Proofs.Ytckelpgijjbpaaa Go Go.Proofs Go.LI
set_option linter.unusedVariables false
set_option linter.unusedSimpArgs false

/-- Behind the gap. -/
def v16 {R : Type} (O : Ora R) (k : IV → GH → Option R) (L0 : GA → Int → Int → List UInt8 → Nat → Int → GH → Option R) (L2 : GA → Int → Int → List UInt8 → Nat → Int → GH → Option R) (L4 : GA → Int → Int → List UInt8 → Nat → Int → GH → Option R) (p0 : GA) (G4 : GH) : Option R :=
  (ldInt G4 .i64 (GA.add p0 1)).bind fun x6 =>
  (ldStr G4 (GA.add p0 0)).bind fun x7 =>
  bif (decide (x6 ≥ (x7.length : Int))) then
  (ldInt G4 .i64 (GA.add p0 2)).bind fun x8 =>
  k (.tuple [.agg [.int .i64 (4 : Int), .str ([] : List UInt8), .float .f64 (0 : Nat), .int .i64 x8], .int .i64 (0 : Int)]) G4
  else
  (ldInt G4 .i64 (GA.add p0 3)).bind fun x9 =>
  bif (decide (x9 ≥ (16384 : Int))) then
  O 30 [.ptr (some p0), .int .i64 (163 : Int)] G4 fun v10 G11 =>
  (ivTup 2 v10).bind fun c12 =>
  (ivAgg 4 (c12.getD 0 undefI)).bind fun c13 =>
  (ivInt .i64 (c13.getD 0 undefI)).bind fun x14 =>
  (ivStr (c13.getD 1 undefI)).bind fun x15 =>
  (ivFloat .f64 (c13.getD 2 undefI)).bind fun x16 =>
  (ivInt .i64 (c13.getD 3 undefI)).bind fun x17 =>
  (ivInt .i64 (c12.getD 1 undefI)).bind fun x18 =>
  k (.tuple [.agg [.int .i64 x14, .str x15, .float .f64 x16, .int .i64 x17], .int .i64 x18]) G11
  else
  (ldInt G4 .i64 (GA.add p0 3)).bind fun x19 =>
  (gst G4 (GA.add p0 3) [.int .i64 (IntKind.wrap .i64 (x19 + (1 : Int)))]).bind fun G20 =>
  (ldInt G20 .i64 (GA.add p0 1)).bind fun x21 =>
  O 31 [.ptr (some p0)] G20 fun v22 G23 =>
  (ivInt .u8 v22).bind fun x24 =>
  O 32 [.int .u8 x24] G23 fun v25 G26 =>
  (ivBool v25).bind fun x27 =>
  bif x27 then
  L0 p0 x21 (0 : Int) ([] : List UInt8) (0 : Nat) (0 : Int) G26
  else
  bif (x24 == (34 : Int)) then
  (ldInt G26 .i64 (GA.add p0 1)).bind fun x28 =>
  (gst G26 (GA.add p0 1) [.int .i64 (IntKind.wrap .i64 (x28 + (1 : Int)))]).bind fun G29 =>
  L2 p0 x21 (0 : Int) ([] : List UInt8) (0 : Nat) (0 : Int) G29
  else
  L4 p0 x24 (0 : Int) ([] : List UInt8) (0 : Nat) (0 : Int) G26

section
variable {R : Type} {r : Nat} {l nn b : Int}

abbrev S33 (O : Ora R) : Prop := ∀ (c : Int) (G : GH) (k : IV → GH → Option R), O 33 [.int .u8 c] G k = k (.bool (digitB c)) G
abbrev S29 (O : Ora R) : Prop := ∀ {r : Nat} {l nn b : Int} {G : GH} {t rest : List UInt8}, G[r]? = some (wst t rest l nn b) → rest <:+ t → t.length < 4000000 → 0 ≤ l → l + rest.length < 2 ^ 62 → ∀ k : IV → GH → Option R,
    O 29 [.ptr (some ⟨r, 0⟩)] G k = k (.tuple []) (G.set r (wst t (skipR false rest l).1 (skipR false rest l).2 nn b))
abbrev S34 (O : Ora R) : Prop := ∀ {r : Nat} {l nn b : Int} {G : GH} {pre cs : List UInt8} {c : UInt8}, G[r]? = some (wd (pre ++ c :: cs) pre.length l nn b) → (pre ++ c :: cs).length < 4000000 → ∀ k : IV → GH → Option R,
    O 34 [.ptr (some ⟨r, 0⟩)] G k = wOut (pre ++ c :: cs) l nn b r G k (numR (c :: cs))

theorem l16_0_spec {F : Nat} (hF : 4000000 ≤ F) {O : Ora R} (h31 : S31 O) (h32 : S32 O) (h33 : S33 O) (K : GA → Int → Int → List UInt8 → Nat → Int → GH → Option R) (s4 b0 : Int) (b1 : List UInt8) (b2 : Nat) (b3 : Int) :
    ∀ (rest pre : List UInt8) (fuel : Nat) (G : GH), G[r]? = some (wd (pre ++ rest) pre.length l nn b) → rest.length < fuel → (pre ++ rest).length < 4000000 →
    l16_0 O F K fuel ⟨r, 0⟩ s4 b0 b1 b2 b3 G = K ⟨r, 0⟩ s4 b0 b1 b2 b3 (G.set r (wst (pre ++ rest) (rest.dropWhile wordB) l nn b))
  | rest, pre, 0, G, h, hf, _ => by omega
  | [], pre, f + 1, G, h, hf, hl => by
    simp only [l16_0, u16_0, L16_1, l16_1, u16_1, stepN_F hF, wl_a (Nat.le_refl 1) h, wl_t (Nat.le_refl 1) h, Option.bind_some, end_pre, cond_false, a16_10, List.dropWhile_nil]
    rw [wst_pre, set_self h]
  | c :: cs, pre, f + 1, G, h, hf, hl => by
    have hz := wfreeze h
    simp only [l16_0, u16_0, L16_1, l16_1, u16_1, stepN_F hF, wl_a (Nat.le_refl 1) h, wl_t (Nat.le_refl 1) h, Option.bind_some, lt_pre, cond_true, h31 (Nat.zero_le 1) hz, h32, h33, ivInt_u8, ivBool_bool, hereR]
    have hs : (pre ++ c :: cs) = ((pre ++ [c]) ++ cs) := by simp
    have go : wordB c = true → a16_1N O (l16_0 O F K f) K ⟨r, 0⟩ s4 b0 b1 b2 b3 G = K ⟨r, 0⟩ s4 b0 b1 b2 b3 (G.set r (wst (pre ++ c :: cs) ((c :: cs).dropWhile wordB) l nn b)) := by
      intro hc
      simp only [a16_1N, wl_a (Nat.le_refl 1) h, ws_a h, Option.bind_some]
      rw [next_pre pre c (by simp at hl; omega), hs]
      rw [l16_0_spec hF h31 h32 h33 K s4 b0 b1 b2 b3 cs (pre ++ [c]) f _ (at_set h) (by simp at hf; omega) (by rw [← hs]; exact hl), List.set_set, List.dropWhile_cons, if_pos hc]
    have stop : wordB c = false → a16_10 O (l16_0 O F K f) K ⟨r, 0⟩ s4 b0 b1 b2 b3 G = K ⟨r, 0⟩ s4 b0 b1 b2 b3 (G.set r (wst (pre ++ c :: cs) ((c :: cs).dropWhile wordB) l nn b)) := by
      intro hc
      rw [List.dropWhile_cons, hc]
      simp only [a16_10, Bool.false_eq_true, if_false]
      rw [wst_pre, set_self h]
    have hw : wordB c = (letterB (c.toNat : Int) || (digitB (c.toNat : Int) || ((c.toNat : Int) == 45))) := rfl
    cases c1 : letterB (c.toNat : Int)
    · cases c2 : digitB (c.toNat : Int)
      · cases c3 : ((c.toNat : Int) == 45)
        · rw [c1, c2, c3] at hw
          exact stop hw
        · rw [c1, c2, c3] at hw
          exact go hw
      · rw [c1, c2] at hw
        exact go hw
    · rw [c1] at hw
      exact go hw

theorem l16_2_spec {F : Nat} (hF : 4000000 ≤ F) {O : Ora R} (h31 : S31 O) (K : GA → Int → Int → List UInt8 → Nat → Int → GH → Option R) (s4 b0 : Int) (b1 : List UInt8) (b2 : Nat) (b3 : Int) :
    ∀ (rest pre : List UInt8) (fuel : Nat) (G : GH), G[r]? = some (wd (pre ++ rest) pre.length l nn b) → rest.length < fuel → (pre ++ rest).length < 4000000 →
    l16_2 O F K fuel ⟨r, 0⟩ s4 b0 b1 b2 b3 G = K ⟨r, 0⟩ s4 b0 b1 b2 b3 (G.set r (wst (pre ++ rest) (rest.dropWhile quoB) l nn b))
  | rest, pre, 0, G, h, hf, _ => by omega
  | [], pre, f + 1, G, h, hf, hl => by
    simp only [l16_2, u16_2, L16_3, l16_3, u16_3, stepN_F hF, wl_a (Nat.le_refl 1) h, wl_t (Nat.le_refl 1) h, Option.bind_some, end_pre, cond_false, a16_32, List.dropWhile_nil]
    rw [wst_pre, set_self h]
  | c :: cs, pre, f + 1, G, h, hf, hl => by
    have hz := wfreeze h
    simp only [l16_2, u16_2, L16_3, l16_3, u16_3, stepN_F hF, wl_a (Nat.le_refl 1) h, wl_t (Nat.le_refl 1) h, Option.bind_some, lt_pre, cond_true, h31 (Nat.zero_le 1) hz, ivInt_u8, ivBool_bool, hereR]
    have hs : (pre ++ c :: cs) = ((pre ++ [c]) ++ cs) := by simp
    have hw : quoB c = (((c.toNat : Int) != 34) && ((c.toNat : Int) != 10)) := rfl
    have stop : quoB c = false → a16_32 O (l16_2 O F K f) K ⟨r, 0⟩ s4 b0 b1 b2 b3 G = K ⟨r, 0⟩ s4 b0 b1 b2 b3 (G.set r (wst (pre ++ c :: cs) ((c :: cs).dropWhile quoB) l nn b)) := by
      intro hc
      rw [List.dropWhile_cons, hc]
      simp only [a16_32, Bool.false_eq_true, if_false]
      rw [wst_pre, set_self h]
    cases c1 : ((c.toNat : Int) != 34)
    · rw [c1] at hw
      exact stop hw
    · cases c2 : ((c.toNat : Int) != 10)
      · rw [c1, c2] at hw
        exact stop hw
      · rw [c1, c2] at hw
        simp only [cond_true, a16_3N, wl_a (Nat.le_refl 1) h, ws_a h, Option.bind_some]
        replace hw : quoB c = true := hw
        rw [next_pre pre c (by simp at hl; omega), hs]
        rw [l16_2_spec hF h31 K s4 b0 b1 b2 b3 cs (pre ++ [c]) f _ (at_set h) (by simp at hf; omega) (by rw [← hs]; exact hl), List.set_set, List.dropWhile_cons, if_pos hw]

theorem slice_pre (pre w rest : List UInt8) : (((pre ++ w) ++ rest).drop (Int.toNat (pre.length : Int))).take (Int.toNat ((pre ++ w).length : Int) - Int.toNat (pre.length : Int)) = w := by
  simp only [Int.toNat_natCast, List.length_append, Nat.add_sub_cancel_left, List.append_assoc, List.drop_left, List.take_left]

/-- The next token of the reference is the program's. -/
theorem w16_body {F : Nat} (hF : 4000000 ≤ F) {O : Ora R} (h29 : S29 O) (h30 : S30 O) (h31 : S31 O) (h32 : S32 O) (h33 : S33 O) (h34 : S34 O) {G : GH} {t rest : List UInt8} {l n : Int} (h : G[r]? = some (wst t rest l n 0)) (hs : rest <:+ t) (hlen : t.length < 4000000)
    (h0 : 0 ≤ l) (h1 : l + rest.length < 2 ^ 62) (hn0 : 0 ≤ n) (hn1 : n < 2 ^ 62) :
    ∃ rest' n', ((nextR rest l n).e = 0 → rest' = (nextR rest l n).rest ∧ n' = (nextR rest l n).n) ∧ ∀ k : IV → GH → Option R,
      bodyC Try.prog O lo16 F Try.f16 [.ptr (some ⟨r, 0⟩)] G k = k (.tuple [.agg (tokI (nextR rest l n).k (nextR rest l n).w (nextR rest l n).x (nextR rest l n).tl), .int .i64 (nextR rest l n).e]) (G.set r (wst t rest' (nextR rest l n).l n' (nextR rest l n).b)) := by
  have hsuf := (skipR_suffix false rest l).trans hs
  have hb0 : ldInt G .i64 (GA.add ⟨r, 0⟩ 4) = some 0 := wl_b (Nat.le_refl 1) h
  have pre0 : ∀ k : IV → GH → Option R, bodyC Try.prog O lo16 F Try.f16 [.ptr (some ⟨r, 0⟩)] G k = v16 O k (L16_0 O F k) (L16_2 O F k) (L16_4 O F k) ⟨r, 0⟩ (G.set r (wst t (skipR false rest l).1 (skipR false rest l).2 n 0)) := fun k => by
    rw [e16]
    simp only [u16, hb0, Option.bind_some, show ((0 : Int) != 0) = false from rfl, cond_false]
    rw [h29 h hs hlen h0 h1]
    simp only [ivTup0, Option.bind_some, v16]
  have hr : r < G.length := (List.getElem?_eq_some_iff.1 h).1
  unfold nextR
  generalize hsk : skipR false rest l = s at hsuf pre0 ⊢
  obtain ⟨r1, l1⟩ := s
  simp only at hsuf pre0 ⊢
  obtain ⟨pre, rfl⟩ := hsuf
  have hg : (G.set r (wst (pre ++ r1) r1 l1 n 0))[r]? = some (wd (pre ++ r1) pre.length l1 n 0) := by rw [at_set h, wst_pre]
  cases r1 with
  | nil =>
    refine ⟨[], n, fun _ => ⟨rfl, rfl⟩, fun k => ?_⟩
    rw [pre0]
    simp only [v16, wl_a (Nat.le_refl 1) hg, wl_t (Nat.le_refl 1) hg, wl_l (Nat.le_refl 1) hg, Option.bind_some]
    rw [show decide ((pre.length : Int) ≥ ((pre ++ ([] : List UInt8)).length : Int)) = true by simp, cond_true]
    rfl
  | cons c cs =>
    have pre1 := fun k => pre0 k
    simp only [v16, wl_a (Nat.le_refl 1) hg, wl_t (Nat.le_refl 1) hg, wl_n (Nat.le_refl 1) hg, ws_n hg, Option.bind_some] at pre1
    simp only [show decide ((pre.length : Int) ≥ ((pre ++ c :: cs).length : Int)) = false by simp; omega, cond_false] at pre1
    rw [IntWalk.i64_in _ (by omega)] at pre1
    dsimp only
    by_cases hmm : decide (n + 1 > 16384) = true
    · have hmm2 : decide (n ≥ 16384) = true := by simp at hmm ⊢; omega
      simp only [hmm2, cond_true] at pre1
      rw [hmm, cond_true]
      refine ⟨c :: cs, n, fun hc => by simp [errX] at hc, fun k => ?_⟩
      rw [pre1, h30 hg]
      simp only [ivTup2, ivAgg4, ivInt_i64, ivStr_str, ivFloat_f64, getD0, getD1, getD2, getD3, Option.bind_some, List.set_set, errX, tokI]
      rw [wst_pre]
    · have hmm1 : decide (n + 1 > 16384) = false := by simpa using hmm
      have hmm2 : decide (n ≥ 16384) = false := by simp at hmm1 ⊢; omega
      simp only [hmm2, cond_false] at pre1
      rw [hmm1, cond_false]
      have hg1 : ((G.set r (wst (pre ++ c :: cs) (c :: cs) l1 n 0)).set r (wd (pre ++ c :: cs) (pre.length : Int) l1 (n + 1) 0))[r]? = some (wd (pre ++ c :: cs) pre.length l1 (n + 1) 0) := at_set hg
      simp only [wl_a (Nat.le_refl 1) hg1, h31 (Nat.le_refl 1) hg1, h32, ivInt_u8, ivBool_bool, hereR, Option.bind_some] at pre1
      by_cases hl : letterB (c.toNat : Int) = true
      · rw [hl, cond_true]
        refine ⟨_, n + 1, fun _ => ⟨rfl, rfl⟩, fun k => ?_⟩
        rw [pre1, hl, cond_true, L16_0, l16_0_spec hF h31 h32 h33 _ _ _ _ _ _ (c :: cs) pre F _ hg1 (by simp at hlen ⊢; omega) hlen]
        have hsp : pre ++ c :: cs = (pre ++ (c :: cs).takeWhile wordB) ++ (c :: cs).dropWhile wordB := by rw [List.append_assoc, List.takeWhile_append_dropWhile]
        generalize hW : (c :: cs).takeWhile wordB = w at hsp ⊢
        generalize hD : (c :: cs).dropWhile wordB = r2 at hsp ⊢
        rw [hsp]
        have hg2 : (((G.set r (wst ((pre ++ w) ++ r2) (c :: cs) l1 n 0)).set r (wd ((pre ++ w) ++ r2) (pre.length : Int) l1 (n + 1) 0)).set r (wst ((pre ++ w) ++ r2) r2 l1 (n + 1) 0))[r]? = some (wd ((pre ++ w) ++ r2) (pre ++ w).length l1 (n + 1) 0) := by
          rw [hsp] at hg1
          rw [at_set hg1, wst_pre]
        simp only [a16_00, wl_t (Nat.le_refl 1) hg2, wl_a (Nat.le_refl 1) hg2, wl_l (Nat.le_refl 1) hg2, Option.bind_some]
        rw [show decide (0 ≤ (pre.length : Int) ∧ (pre.length : Int) ≤ ((pre ++ w).length : Int) ∧ ((pre ++ w).length : Int) ≤ (((pre ++ w) ++ r2).length : Int)) = true by simp; omega, cond_true, slice_pre]
        simp only [List.set_set, tokI]
      · have hl' : letterB (c.toNat : Int) = false := by simpa using hl
        rw [hl', cond_false]
        simp only [hl', cond_false] at pre1
        by_cases hq : ((c.toNat : Int) == 34) = true
        · have hc34 : (c.toNat : Int) = 34 := by simpa using hq
          rw [show (digitB (c.toNat : Int) || (c.toNat : Int) == 45) = false by rw [hc34]; decide, cond_false, hq, cond_true]
          simp only [hq, cond_true, ws_a hg1, Option.bind_some] at pre1
          have hs2 : pre ++ c :: cs = (pre ++ [c]) ++ cs := by simp
          simp only [next_pre pre c (by simp at hlen; omega), L16_2] at pre1
          have hg3 : (((G.set r (wst (pre ++ c :: cs) (c :: cs) l1 n 0)).set r (wd (pre ++ c :: cs) (pre.length : Int) l1 (n + 1) 0)).set r (wd (pre ++ c :: cs) ((pre ++ [c]).length : Int) l1 (n + 1) 0))[r]? = some (wd ((pre ++ [c]) ++ cs) ((pre ++ [c]).length : Int) l1 (n + 1) 0) := by rw [← hs2]; exact at_set hg1
          have pre2 : ∀ k : IV → GH → Option R, bodyC Try.prog O lo16 F Try.f16 [.ptr (some ⟨r, 0⟩)] G k = a16_22 O k ⟨r, 0⟩ (pre.length : Int) 0 [] 0 0 (G.set r (wst ((pre ++ [c]) ++ cs) (cs.dropWhile quoB) l1 (n + 1) 0)) := by
            intro k
            rw [pre1, l16_2_spec hF h31 _ _ _ _ _ _ cs (pre ++ [c]) F _ hg3 (by simp at hlen; omega) (by rw [← hs2]; exact hlen)]
            simp only [List.set_set]
          have hsp : (pre ++ [c]) ++ cs = ((pre ++ [c]) ++ cs.takeWhile quoB) ++ cs.dropWhile quoB := by rw [List.append_assoc (pre ++ [c]), List.takeWhile_append_dropWhile]
          rw [hs2]
          generalize hW : cs.takeWhile quoB = w at hsp ⊢
          generalize hD : cs.dropWhile quoB = r2 at hsp pre2 ⊢
          have hg4 : (G.set r (wst ((pre ++ [c]) ++ cs) r2 l1 (n + 1) 0))[r]? = some (wd (((pre ++ [c]) ++ w) ++ r2) ((pre ++ [c]) ++ w).length l1 (n + 1) 0) := by rw [at_set h, hsp, wst_pre]
          have err : hereR r2 ≠ 34 → ∀ k : IV → GH → Option R, bodyC Try.prog O lo16 F Try.f16 [.ptr (some ⟨r, 0⟩)] G k = k (.tuple [.agg (tokI 0 [] 0 0), .int .i64 161]) (G.set r (wst ((pre ++ [c]) ++ cs) r2 l1 (n + 1) 161)) := by
            intro hne k
            rw [pre2]
            simp only [a16_22, h31 (Nat.le_refl 1) hg4, ivInt_u8, Option.bind_some]
            rw [show (hereR r2 != 34) = true by simpa using hne, cond_true, h30 hg4]
            simp only [ivTup2, ivAgg4, ivInt_i64, ivStr_str, ivFloat_f64, getD0, getD1, getD2, getD3, Option.bind_some, List.set_set, tokI]
            rw [hsp, wst_pre]
          cases r2 with
          | nil => exact ⟨[], n + 1, fun hc => by simp [errX] at hc, err (by decide)⟩
          | cons d ds =>
            by_cases hd : ((d.toNat : Int) != 34) = true
            · simp only [hd, cond_true]
              exact ⟨d :: ds, n + 1, fun hc => by simp [errX] at hc, err (by simpa [hereR] using hd)⟩
            · have hd' : ((d.toNat : Int) != 34) = false := by simpa using hd
              simp only [hd', cond_false]
              refine ⟨ds, n + 1, fun _ => ⟨rfl, rfl⟩, fun k => ?_⟩
              rw [pre2]
              simp only [a16_22, h31 (Nat.le_refl 1) hg4, ivInt_u8, Option.bind_some]
              rw [show (hereR (d :: ds) != 34) = false from hd', cond_false, wl_a (Nat.le_refl 1) hg4]
              simp only [Option.bind_some]
              rw [ws_a hg4]
              simp only [Option.bind_some, List.set_set]
              have hlen4 : (((pre ++ [c]) ++ w) ++ d :: ds).length < 4000000 := by rw [← hsp, ← hs2]; exact hlen
              have hs3 : ((pre ++ [c]) ++ w) ++ d :: ds = (((pre ++ [c]) ++ w) ++ [d]) ++ ds := by simp
              rw [next_pre ((pre ++ [c]) ++ w) d (by simp at hlen4 ⊢; omega)]
              have hg5 : (G.set r (wd (((pre ++ [c]) ++ w) ++ d :: ds) ((((pre ++ [c]) ++ w) ++ [d]).length : Int) l1 (n + 1) 0))[r]? = some (wd (((pre ++ [c]) ++ w) ++ d :: ds) ((((pre ++ [c]) ++ w) ++ [d]).length : Int) l1 (n + 1) 0) := at_set h
              rw [wl_t (Nat.le_refl 1) hg5, wl_a (Nat.le_refl 1) hg5, wl_l (Nat.le_refl 1) hg5]
              simp only [Option.bind_some]
              rw [next_pre pre c (by simp at hlen; omega)]
              have em : IntKind.wrap .i64 (((((pre ++ [c]) ++ w) ++ [d]).length : Int) - 1) = (((pre ++ [c]) ++ w).length : Int) := by
                rw [IntWalk.i64_in _ (by simp at hlen4 ⊢; omega)]; simp; omega
              rw [em, show decide (0 ≤ ((pre ++ [c]).length : Int) ∧ ((pre ++ [c]).length : Int) ≤ (((pre ++ [c]) ++ w).length : Int) ∧ (((pre ++ [c]) ++ w).length : Int) ≤ ((((pre ++ [c]) ++ w) ++ d :: ds).length : Int)) = true by simp; omega, cond_true, slice_pre (pre ++ [c]) w (d :: ds)]
              rw [hsp, hs3, wst_pre]
              rfl
        · have hq' : ((c.toNat : Int) == 34) = false := by simpa using hq
          simp only [hq', cond_false] at pre1
          simp only [L16_4, l16_4, u16_4, stepN_F hF, h33, ivBool_bool, Option.bind_some] at pre1
          by_cases hd : (digitB (c.toNat : Int) || (c.toNat : Int) == 45) = true
          · rw [hd, cond_true]
            have pre2 : ∀ k : IV → GH → Option R, bodyC Try.prog O lo16 F Try.f16 [.ptr (some ⟨r, 0⟩)] G k = a16_4N O k ⟨r, 0⟩ true 0 [] 0 0 ((G.set r (wst (pre ++ c :: cs) (c :: cs) l1 n 0)).set r (wd (pre ++ c :: cs) (pre.length : Int) l1 (n + 1) 0)) := by
              intro k
              rw [pre1]
              cases q1 : digitB (c.toNat : Int)
              · rw [q1, Bool.false_or] at hd
                rw [cond_false, hd]
              · rfl
            simp only [a16_4N, cond_true, h34 hg1 hlen] at pre2
            unfold wOut at pre2
            cases hx : (numR (c :: cs)).2.1 with
            | none =>
              simp only [hx] at pre2 ⊢
              refine ⟨(numR (c :: cs)).1, n + 1, fun hc => by simp [errX] at hc, fun k => ?_⟩
              rw [pre2]
              simp only [ivTup2, ivAgg4, ivInt_i64, ivStr_str, ivFloat_f64, getD0, getD1, getD2, getD3, Option.bind_some, List.set_set, errX, tokI]
            | some w =>
              simp only [hx] at pre2 ⊢
              refine ⟨(numR (c :: cs)).1, n + 1, fun _ => ⟨rfl, rfl⟩, fun k => ?_⟩
              rw [pre2]
              simp only [ivTup2, ivAgg4, ivInt_i64, ivStr_str, ivFloat_f64, getD0, getD1, getD2, getD3, Option.bind_some, List.set_set, tokI]
          · have hd' : (digitB (c.toNat : Int) || (c.toNat : Int) == 45) = false := by simpa using hd
            rw [hd', cond_false, hq', cond_false]
            rw [Bool.or_eq_false_iff] at hd'
            simp only [hd'.1, cond_false, hd'.2] at pre1
            refine ⟨c :: cs, n + 1, fun hc => by simp [errX] at hc, fun k => ?_⟩
            rw [pre1]
            simp only [a16_4N, cond_false]
            rw [h30 hg1]
            simp only [ivTup2, ivAgg4, ivInt_i64, ivStr_str, ivFloat_f64, getD0, getD1, getD2, getD3, Option.bind_some, List.set_set, errX, tokI]
            rw [wst_pre]
end
end Go.LI.Lex
