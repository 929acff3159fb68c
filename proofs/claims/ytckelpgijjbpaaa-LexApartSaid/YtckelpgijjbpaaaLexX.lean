/- The reader of a text: the next token. -/
import Derived.Test.YtckelpgijjbpaaaLexW
namespace Go.LI.Lex
open Go.Proofs.Ytckelpgijjbpaaa Go Go.Proofs Go.LI
set_option linter.unusedVariables false
set_option linter.unusedSimpArgs false

attribute [local irreducible] runL

/-- A token, an error's number, and how the reader stands behind it. -/
structure Nx where
  k : Int
  w : List UInt8
  x : Nat
  tl : Int
  e : Int
  rest : List UInt8
  l : Int
  n : Int
  b : Int
  gb : List Blk

def tokI (k : Int) (w : List UInt8) (x : Nat) (l : Int) : List IV := [.int .i64 k, .str w, .float .f64 x, .int .i64 l]
def errX (e : Int) (rest : List UInt8) (l n : Int) : Nx := ⟨0, [], 0, 0, e, rest, l, n, e, []⟩

def nextR (rest : List UInt8) (l n : Int) : Nx :=
  match skipR false rest l with
  | ([], l1) => ⟨4, [], 0, l1, 0, [], l1, n, 0, []⟩
  | (c :: cs, l1) =>
    bif decide (n + 1 > 16384) then errX 163 (c :: cs) l1 (n + 1) else
    bif letterB (c.toNat : Int) then ⟨1, (c :: cs).takeWhile wordB, 0, l1, 0, (c :: cs).dropWhile wordB, l1, n + 1, 0, []⟩ else
    bif digitB (c.toNat : Int) || (c.toNat : Int) == 45 then
      (match (numR (c :: cs)).2.1 with
      | none => errX 162 (numR (c :: cs)).1 l1 (n + 1)
      | some w => ⟨2, [], w, l1, 0, (numR (c :: cs)).1, l1, n + 1, 0, [⟨bytesI (numR (c :: cs)).2.2, 5, 1⟩]⟩) else
    bif (c.toNat : Int) == 34 then
      (match cs.dropWhile quoB with
      | [] => errX 161 [] l1 (n + 1)
      | d :: ds => bif (d.toNat : Int) != 34 then errX 161 (d :: ds) l1 (n + 1) else ⟨3, cs.takeWhile quoB, 0, l1, 0, ds, l1, n + 1, 0, []⟩) else
    errX 160 (c :: cs) l1 (n + 1)

def nxOut {R : Type} (t : List UInt8) (r : Nat) (G : GH) (k : IV → GH → Option R) (x : Nx) : Option R :=
  k (.tuple [.agg (tokI x.k x.w x.x x.tl), .int .i64 x.e]) (G.set r (rs t x.rest x.l x.n x.b) ++ x.gb)

section
variable {R : Type} {r : Nat}

theorem set_rs (G : GH) (pre rest : List UInt8) (p : UInt8 → Bool) (l nb b : Int) :
    G.set r (rd (pre ++ rest) (pre.length + (rest.takeWhile p).length : Nat) l nb b) = G.set r (rs (pre ++ rest) (rest.dropWhile p) l nb b) := by
  unfold rs
  congr 2
  have h : (rest.takeWhile p).length + (rest.dropWhile p).length = rest.length := by rw [← List.length_append, List.takeWhile_append_dropWhile]
  simp only [List.length_append]
  omega

theorem eq_end (pre : List UInt8) : ((pre.length : Int) == ((pre ++ ([] : List UInt8)).length : Int)) = true := by simp
theorem ne_pre (pre cs : List UInt8) (c : UInt8) : ((pre.length : Int) == ((pre ++ c :: cs).length : Int)) = false := by simp; omega

theorem s15 (m : Nat) {G : GH} {t rest : List UInt8} {l n : Int} (h : G[r]? = some (rs t rest l n 0)) (hs : rest <:+ t) (hlen : t.length < 1152921504606846976) (h0 : 0 ≤ l) (h1 : l + rest.length < 2 ^ 62) (hn0 : 0 ≤ n) (hn1 : n < 2 ^ 62) (k : IV → GH → Option R) :
    runL Try.prog lexLib lo0 1152921504606846976 (m + 4) 15 [.ptr (some ⟨r, 0⟩)] G k = nxOut t r G k (nextR rest l n) := by
  have hsuf := (skipR_suffix false rest l).trans hs
  rw [r15, e15]
  simp only [ld_b h, Option.bind_some, show ((0 : Int) != 0) = false from rfl, cond_false]
  rw [s21 (m + 2) h hs hlen h0 h1]
  simp only [ivTup0, Option.bind_some, stepN_big, c15_0, c15_1]
  unfold nextR
  generalize hsk : skipR false rest l = s at hsuf ⊢
  obtain ⟨r1, l1⟩ := s
  simp only at hsuf ⊢
  obtain ⟨pre, rfl⟩ := hsuf
  have hr : r < G.length := (List.getElem?_eq_some_iff.1 h).1
  have hg : (G.set r (rs (pre ++ r1) r1 l1 n 0))[r]? = some (rd (pre ++ r1) pre.length l1 n 0) := by rw [at_set h, rs_pre]
  simp only [ld_a hg, ld_t hg, ld_l hg, ld_n hg, Option.bind_some]
  cases r1 with
  | nil =>
    rw [eq_end]
    simp only [cond_true, nxOut, tokI, List.append_nil]
  | cons c cs =>
    rw [ne_pre]
    simp only [cond_false, st_n hg, Option.bind_some, List.set_set]
    rw [IntWalk.i64_in _ (by omega)]
    have hg1 : (G.set r (rd (pre ++ c :: cs) pre.length l1 (n + 1) 0))[r]? = some (rd (pre ++ c :: cs) pre.length l1 (n + 1) 0) := at_set h
    simp only [ld_n hg1, ld_t hg1, ld_a hg1, Option.bind_some, in_pre, at_pre, cond_true]
    by_cases hm : decide (n + 1 > 16384) = true
    · simp only [hm, cond_true]
      rw [s22 (m + 2) hg1]
      simp only [ivTup2, ivAgg4, ivInt_i64, ivStr_str, ivFloat_f64, getD0, getD1, getD2, getD3, Option.bind_some, nxOut, errX, tokI, rs_pre, List.set_set, List.append_nil]
    · have hm' : decide (n + 1 > 16384) = false := by
        cases hx : decide (n + 1 > 16384)
        · rfl
        · exact absurd hx hm
      rw [hm']
      rw [cond_false, cond_false]
      rw [s23]
      simp only [ivBool_bool, Option.bind_some]
      by_cases hl : letterB (c.toNat : Int) = true
      · rw [hl, cond_true, cond_true]
        rw [s24a m hg1 (by simp at hlen ⊢; omega) (by omega)]
        simp only [ivStr_str, Option.bind_some, List.set_set]
        rw [set_rs]
        have hg2 : (G.set r (rs (pre ++ c :: cs) ((c :: cs).dropWhile wordB) l1 (n + 1) 0))[r]? = some (rs (pre ++ c :: cs) ((c :: cs).dropWhile wordB) l1 (n + 1) 0) := at_set h
        rw [ld_l hg2]
        simp only [Option.bind_some, nxOut, tokI, List.append_nil]
      · rw [Bool.eq_false_iff.2 hl, cond_false, cond_false]
        rw [s26]
        simp only [ivBool_bool, Option.bind_some]
        have fin : ∀ X : Option R, X = numOut (pre ++ c :: cs) l1 (n + 1) 0 r (G.set r (rd (pre ++ c :: cs) pre.length l1 (n + 1) 0)) (fun v11 G12 => (ivTup 2 v11).bind fun c13 => (ivAgg 4 (c13.getD 0 undefI)).bind fun c14 => (ivInt .i64 (c14.getD 0 undefI)).bind fun x15 => (ivStr (c14.getD 1 undefI)).bind fun x16 =>
            (ivFloat .f64 (c14.getD 2 undefI)).bind fun x17 => (ivInt .i64 (c14.getD 3 undefI)).bind fun x18 => (ivInt .i64 (c13.getD 1 undefI)).bind fun x19 => k (.tuple [.agg [.int .i64 x15, .str x16, .float .f64 x17, .int .i64 x18], .int .i64 x19]) G12) (numR (c :: cs)) →
            X = nxOut (pre ++ c :: cs) r G k (match (numR (c :: cs)).2.1 with
              | none => errX 162 (numR (c :: cs)).1 l1 (n + 1)
              | some w => ⟨2, [], w, l1, 0, (numR (c :: cs)).1, l1, n + 1, 0, [⟨bytesI (numR (c :: cs)).2.2, 5, 1⟩]⟩) := by
          intro X hX
          rw [hX]
          unfold numOut
          cases hx : (numR (c :: cs)).2.1 with
          | none => simp only [ivTup2, ivAgg4, ivInt_i64, ivStr_str, ivFloat_f64, getD0, getD1, getD2, getD3, Option.bind_some, nxOut, errX, tokI, List.set_set, List.append_nil]
          | some w => simp only [ivTup2, ivAgg4, ivInt_i64, ivStr_str, ivFloat_f64, getD0, getD1, getD2, getD3, Option.bind_some, nxOut, errX, tokI, List.set_set, gnew]
        by_cases hd : digitB (c.toNat : Int) = true
        · rw [hd, cond_true, Bool.true_or, cond_true]
          exact fin _ (s27 m hg1 hlen _)
        · rw [Bool.eq_false_iff.2 hd, cond_false, Bool.false_or]
          by_cases hq : ((c.toNat : Int) == 45) = true
          · rw [hq, cond_true, cond_true]
            exact fin _ (s27 m hg1 hlen _)
          · rw [Bool.eq_false_iff.2 hq, cond_false, cond_false]
            by_cases hqt : ((c.toNat : Int) == 34) = true
            · rw [hqt, cond_true, cond_true, ld_a hg1]
              simp only [Option.bind_some]
              rw [st_a hg1]
              simp only [Option.bind_some, List.set_set]
              have hs2 : pre ++ c :: cs = (pre ++ [c]) ++ cs := by simp
              rw [next_pre pre c (by simp at hlen; omega), hs2]
              have hg3 : (G.set r (rd ((pre ++ [c]) ++ cs) ((pre ++ [c]).length : Int) l1 (n + 1) 0))[r]? = some (rd ((pre ++ [c]) ++ cs) ((pre ++ [c]).length : Int) l1 (n + 1) 0) := at_set h
              have hlen3 : ((pre ++ [c]) ++ cs).length < 1152921504606846976 := by rw [← hs2]; exact hlen
              rw [s24c (m + 1) hg3 (by simp at hlen3; omega) (by omega)]
              simp only [ivStr_str, Option.bind_some, List.set_set]
              rw [set_rs]
              have ht4 : (pre ++ [c]) ++ cs = ((pre ++ [c]) ++ cs.takeWhile quoB) ++ cs.dropWhile quoB := by rw [List.append_assoc (pre ++ [c]), List.takeWhile_append_dropWhile]
              generalize ((pre ++ [c]) ++ cs.takeWhile quoB) = pre4 at ht4
              generalize hdw : cs.dropWhile quoB = r4 at ht4 ⊢
              rw [ht4]
              have hg4 : (G.set r (rs (pre4 ++ r4) r4 l1 (n + 1) 0))[r]? = some (rd (pre4 ++ r4) (pre4.length : Int) l1 (n + 1) 0) := by rw [at_set h, rs_pre]
              rw [ld_a hg4, ld_t hg4]
              simp only [Option.bind_some]
              have hpre4 : pre4.length + 1 ≤ 2 ^ 62 := by rw [ht4] at hlen3; simp at hlen3; omega
              cases r4 with
              | nil =>
                rw [eq_end, cond_true, s22 (m + 2) hg4]
                simp only [ivTup2, ivAgg4, ivInt_i64, ivStr_str, ivFloat_f64, getD0, getD1, getD2, getD3, Option.bind_some, nxOut, errX, tokI, List.set_set]
                rw [← rs_pre]
                exact congrArg _ (List.append_nil _).symm
              | cons d ds =>
                rw [ne_pre, cond_false, in_pre, cond_true, at_pre]
                by_cases hdq : ((d.toNat : Int) != 34) = true
                · rw [hdq, cond_true, s22 (m + 2) hg4]
                  simp only [hdq, cond_true, ivTup2, ivAgg4, ivInt_i64, ivStr_str, ivFloat_f64, getD0, getD1, getD2, getD3, Option.bind_some, nxOut, errX, tokI, List.set_set, List.append_nil]
                  rw [← rs_pre]
                · rw [Bool.eq_false_iff.2 hdq, cond_false]
                  simp only [Option.bind_some]
                  rw [st_a hg4]
                  simp only [Option.bind_some, List.set_set]
                  rw [next_pre pre4 d hpre4, show pre4 ++ d :: ds = (pre4 ++ [d]) ++ ds by simp]
                  have hg5 : (G.set r (rd ((pre4 ++ [d]) ++ ds) ((pre4 ++ [d]).length : Int) l1 (n + 1) 0))[r]? = some (rd ((pre4 ++ [d]) ++ ds) ((pre4 ++ [d]).length : Int) l1 (n + 1) 0) := at_set h
                  rw [ld_l hg5]
                  simp only [Bool.eq_false_iff.2 hdq, cond_false, Option.bind_some, nxOut, tokI, List.append_nil]
                  rw [rs_pre]
            · rw [Bool.eq_false_iff.2 hqt, cond_false, cond_false, s22 (m + 2) hg1]
              simp only [ivTup2, ivAgg4, ivInt_i64, ivStr_str, ivFloat_f64, getD0, getD1, getD2, getD3, Option.bind_some, nxOut, errX, tokI, List.set_set, List.append_nil]
              rw [rs_pre]
end
end Go.LI.Lex
