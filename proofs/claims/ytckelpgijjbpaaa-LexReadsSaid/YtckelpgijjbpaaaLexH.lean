/- The reference's reader: what its small functions do. -/
import Derived.Test.YtckelpgijjbpaaaLexW
import Derived.Test.YtckelpgijjbpaaaLexF
namespace Go.LI.Lex
open Go.Proofs.Ytckelpgijjbpaaa Go Go.Proofs Go.LI
set_option linter.unusedVariables false
set_option linter.unusedSimpArgs false

/-- A reader's block of the reference, that may be read alone (mode 0) or written too (1). -/
def wm (m : Nat) (t : List UInt8) (a l n b : Int) : Blk := ⟨[.str t, .int .i64 a, .int .i64 l, .int .i64 n, .int .i64 b], 47, m⟩
abbrev wd (t : List UInt8) (a l n b : Int) : Blk := wm 1 t a l n b

section
variable {G : GH} {r m : Nat} {t : List UInt8} {a l n b : Int}
theorem wl_t (hm : m ≤ 1) (h : G[r]? = some (wm m t a l n b)) : ldStr G (GA.add ⟨r, 0⟩ 0) = some t := by simp [ldStr, gld, GA.add, h, wm, hm]
theorem wl_a (hm : m ≤ 1) (h : G[r]? = some (wm m t a l n b)) : ldInt G .i64 (GA.add ⟨r, 0⟩ 1) = some a := by simp [ldInt, gld, GA.add, h, wm, hm]
theorem wl_l (hm : m ≤ 1) (h : G[r]? = some (wm m t a l n b)) : ldInt G .i64 (GA.add ⟨r, 0⟩ 2) = some l := by simp [ldInt, gld, GA.add, h, wm, hm]
theorem wl_n (hm : m ≤ 1) (h : G[r]? = some (wm m t a l n b)) : ldInt G .i64 (GA.add ⟨r, 0⟩ 3) = some n := by simp [ldInt, gld, GA.add, h, wm, hm]
theorem wl_b (hm : m ≤ 1) (h : G[r]? = some (wm m t a l n b)) : ldInt G .i64 (GA.add ⟨r, 0⟩ 4) = some b := by simp [ldInt, gld, GA.add, h, wm, hm]
theorem ws_a {v : Int} (h : G[r]? = some (wd t a l n b)) : gst G (GA.add ⟨r, 0⟩ 1) [.int .i64 v] = some (G.set r (wd t v l n b)) := by simp [gst, GA.add, h, wm, splice]
theorem ws_l {v : Int} (h : G[r]? = some (wd t a l n b)) : gst G (GA.add ⟨r, 0⟩ 2) [.int .i64 v] = some (G.set r (wd t a v n b)) := by simp [gst, GA.add, h, wm, splice]
theorem ws_n {v : Int} (h : G[r]? = some (wd t a l n b)) : gst G (GA.add ⟨r, 0⟩ 3) [.int .i64 v] = some (G.set r (wd t a l v b)) := by simp [gst, GA.add, h, wm, splice]
theorem ws_b {v : Int} (h : G[r]? = some (wd t a l n b)) : gst G (GA.add ⟨r, 0⟩ 4) [.int .i64 v] = some (G.set r (wd t a l n v)) := by simp [gst, GA.add, h, wm, splice]
theorem wfreeze (h : G[r]? = some (wd t a l n b)) : (gfreeze G)[r]? = some (wm 0 t a l n b) := by simp [gfreeze, h, wm]
end
def wst (t rest : List UInt8) (l n b : Int) : Blk := wd t ((t.length - rest.length : Nat) : Int) l n b
theorem wst_pre (pre rest : List UInt8) (l n b : Int) : wst (pre ++ rest) rest l n b = wd (pre ++ rest) (pre.length : Int) l n b := by
  unfold wst; congr 2; simp

/-- The byte that stands there; 0 at the end. -/
def hereR : List UInt8 → Int
  | [] => 0
  | c :: _ => (c.toNat : Int)

theorem stepN_F {R : Type} {F : Nat} (hF : 4000000 ≤ F) {x : Option R} : stepN F x = x := by
  cases F with
  | zero => omega
  | succ n => rfl

section
variable {R : Type} {r : Nat} {l nn b : Int}

theorem ivInt_u8 (x : Int) : ivInt .u8 (.int .u8 x) = some x := rfl

theorem w31 (fuel n : Nat) {m : Nat} (hm : m ≤ 1) {G : GH} {pre rest : List UInt8} (h : G[r]? = some (wm m (pre ++ rest) pre.length l nn b)) (k : IV → GH → Option R) :
    runC Try.prog lo0 fuel (n + 1) 31 [.ptr (some ⟨r, 0⟩)] G k = k (.int .u8 (hereR rest)) G := by
  rw [r31, e31]
  simp only [wl_a hm h, wl_t hm h, Option.bind_some]
  cases rest with
  | nil => rw [end_pre, cond_false]; rfl
  | cons c cs => rw [lt_pre, cond_true, in_pre, cond_true, at_pre]; rfl

theorem w32 (fuel n : Nat) (c : Int) (G : GH) (k : IV → GH → Option R) : runC Try.prog lo0 fuel (n + 1) 32 [.int .u8 c] G k = k (.bool (letterB c)) G := by
  rw [r32, e32]
  unfold letterB
  by_cases h1 : (97 : Int) ≤ c <;> by_cases h2 : c ≤ 122 <;> by_cases h3 : (65 : Int) ≤ c <;> by_cases h4 : c ≤ 90 <;> simp [h1, h2, h3, h4, isFlat] <;> omega
theorem w33 (fuel n : Nat) (c : Int) (G : GH) (k : IV → GH → Option R) : runC Try.prog lo0 fuel (n + 1) 33 [.int .u8 c] G k = k (.bool (digitB c)) G := by
  rw [r33, e33]
  unfold digitB
  by_cases h1 : (48 : Int) ≤ c <;> by_cases h2 : c ≤ 57 <;> simp [h1, h2, isFlat]
theorem w30 (fuel n : Nat) {G : GH} {t : List UInt8} {a e : Int} (h : G[r]? = some (wd t a l nn b)) (k : IV → GH → Option R) :
    runC Try.prog lo0 fuel (n + 1) 30 [.ptr (some ⟨r, 0⟩), .int .i64 e] G k = k (.tuple [.agg [.int .i64 0, .str [], .float .f64 0, .int .i64 0], .int .i64 e]) (G.set r (wd t a l nn e)) := by
  rw [r30, e30]
  simp only [ws_b h, Option.bind_some]

theorem digitB_zero : digitB 0 = false := by decide

/-- What stands between tokens. -/
theorem l29_spec {F : Nat} (hF : 4000000 ≤ F) (n : Nat) (K : GH → Option R) : ∀ (rest pre : List UInt8) (l : Int) (rem : Bool) (fuel : Nat) (G : GH), G[r]? = some (wd (pre ++ rest) pre.length l nn b) → rest.length < fuel → (pre ++ rest).length < 4000000 → 0 ≤ l → l + rest.length < 2 ^ 62 →
    l29_0 (runC Try.prog lo0 F (n + 1)) F K K fuel ⟨r, 0⟩ rem G = K (G.set r (wst (pre ++ rest) (skipR rem rest l).1 (skipR rem rest l).2 nn b))
  | rest, pre, l, rem, 0, G, h, hf, _, _, _ => by omega
  | [], pre, l, rem, f + 1, G, h, hf, hl, h0, h1 => by
    simp only [l29_0, u29_0, wl_a (Nat.le_refl 1) h, wl_t (Nat.le_refl 1) h, Option.bind_some, end_pre, cond_false]
    have : skipR rem [] l = ([], l) := by cases rem <;> rfl
    rw [this]
    simp only
    rw [wst_pre, set_self h]
  | c :: cs, pre, l, rem, f + 1, G, h, hf, hl, h0, h1 => by
    simp only [l29_0, u29_0, wl_a (Nat.le_refl 1) h, wl_t (Nat.le_refl 1) h, Option.bind_some, lt_pre, cond_true, w31 _ _ (Nat.le_refl 1) h, ivInt_u8, L29_1, l29_1, u29_1, stepN_F hF, hereR]
    have hs : (pre ++ c :: cs) = ((pre ++ [c]) ++ cs) := by simp
    have hnx := next_pre pre c (by simp at hl; omega)
    -- a step on, in line l'
    have go : ∀ (l' : Int) (rem' : Bool) (G' : GH), G'[r]? = some (wd (pre ++ c :: cs) pre.length l' nn b) → G'.set r (wst (pre ++ c :: cs) (skipR rem' cs l').1 (skipR rem' cs l').2 nn b) = G.set r (wst (pre ++ c :: cs) (skipR rem' cs l').1 (skipR rem' cs l').2 nn b) →
        0 ≤ l' → l' + cs.length < 2 ^ 62 → a29_1N (runC Try.prog lo0 F (n + 1)) (l29_0 (runC Try.prog lo0 F (n + 1)) F K K f) K K ⟨r, 0⟩ rem' G' = K (G.set r (wst (pre ++ c :: cs) (skipR rem' cs l').1 (skipR rem' cs l').2 nn b)) := by
      intro l' rem' G' h' hset q0 q1
      simp only [a29_1N, wl_a (Nat.le_refl 1) h', ws_a h', Option.bind_some, hnx]
      rw [← hset]
      have := l29_spec hF n K cs (pre ++ [c]) l' rem' f (G'.set r (wd ((pre ++ [c]) ++ cs) ((pre ++ [c]).length : Int) l' nn b)) (at_set h') (by simp at hf; omega) (by rw [← hs]; exact hl) q0 q1
      rw [← hs] at this
      rw [this, List.set_set]
    have hl1 : l + (cs.length : Int) + 1 < 2 ^ 62 := by simp only [List.length_cons] at h1; omega
    cases h10 : ((c.toNat : Int) == 10)
    · have hnl : nlB c = false := h10
      simp only [cond_false]
      cases h35 : ((c.toNat : Int) == 35)
      · simp only [cond_false]
        cases rem
        · simp only [Bool.not_false, cond_true]
          by_cases hb : blB c = true
          · have hk : skipR false (c :: cs) l = skipR false cs l := by simp [skipR, hnl, hb]
            rw [hk, ← go l false G h rfl h0 (by omega)]
            unfold blB at hb
            simp only [bne]
            cases q1 : ((c.toNat : Int) == 32)
            · cases q2 : ((c.toNat : Int) == 9)
              · cases q3 : ((c.toNat : Int) == 13)
                · rw [q1, q2, q3] at hb; cases hb
                · rfl
              · rfl
            · rfl
          · have hb' : blB c = false := by simpa using hb
            have hre : reB c = false := h35
            have hk : skipR false (c :: cs) l = (c :: cs, l) := by simp [skipR, hnl, hb', hre]
            rw [hk]
            unfold blB at hb'
            simp only [Bool.or_eq_false_iff] at hb'
            simp only [bne, hb'.1, hb'.2.1, hb'.2.2, Bool.not_false, cond_true, a29_1ret]
            rw [wst_pre, set_self h]
        · simp only [Bool.not_true, cond_false]
          have hk : skipR true (c :: cs) l = skipR true cs l := by simp [skipR, hnl]
          rw [hk]
          exact go l true G h rfl h0 (by omega)
      · simp only [cond_true]
        have hbl : blB c = false := by
          have : (c.toNat : Int) = 35 := by simpa using h35
          unfold blB; rw [this]; rfl
        have hre : reB c = true := h35
        have hk : skipR rem (c :: cs) l = skipR true cs l := by cases rem <;> simp [skipR, hnl, hbl, hre]
        rw [hk]
        exact go l true G h rfl h0 (by omega)
    · have hnl : nlB c = true := h10
      simp only [cond_true, wl_l (Nat.le_refl 1) h, ws_l h, Option.bind_some]
      rw [IntWalk.i64_in _ (by omega)]
      have hk : skipR rem (c :: cs) l = skipR false cs (l + 1) := by cases rem <;> simp [skipR, hnl]
      rw [hk]
      exact go (l + 1) false _ (at_set h) (by rw [List.set_set]) (by omega) (by omega)

theorem w29 {F : Nat} (hF : 4000000 ≤ F) (n : Nat) {G : GH} {t rest : List UInt8} (h : G[r]? = some (wst t rest l nn b)) (hs : rest <:+ t) (hl : t.length < 4000000) (h0 : 0 ≤ l) (h1 : l + rest.length < 2 ^ 62) (k : IV → GH → Option R) :
    runC Try.prog lo0 F (n + 2) 29 [.ptr (some ⟨r, 0⟩)] G k = k (.tuple []) (G.set r (wst t (skipR false rest l).1 (skipR false rest l).2 nn b)) := by
  obtain ⟨pre, rfl⟩ := hs
  rw [r29, e29]
  rw [wst_pre] at h
  simp only [u29, L29_0]
  rw [show (a29_0ret (runC Try.prog lo0 F (n + 1)) k) = a29_00 (runC Try.prog lo0 F (n + 1)) k from rfl]
  rw [l29_spec hF n _ rest pre l false F G h (by simp at hl; omega) hl h0 h1]
  rfl

/-! ### Digits -/
def digS (n k : Int) (c : UInt8) : Int :=
  let n1 := bif decide (k < 20) then IntKind.wrap .i64 ((IntKind.wrap .i64 ((IntKind.wrap .i64 ((10 : Int) * n)) + (IntKind.wrap .i64 (c.toNat : Int)))) - (48 : Int)) else n
  bif decide (n1 > 72057594037927936) then 72057594037927936 else n1
def digV : Int → Int → List UInt8 → Int
  | n, _, [] => n
  | n, k, c :: cs => bif digB c then digV (digS n k c) (k + 1) cs else n

theorem l44_spec {F : Nat} (hF : 4000000 ≤ F) (n : Nat) (K : Int → Int → GH → Option R) : ∀ (rest pre : List UInt8) (v k : Int) (fuel : Nat) (G : GH), G[r]? = some (wd (pre ++ rest) pre.length l nn b) → rest.length < fuel → (pre ++ rest).length < 4000000 → 0 ≤ k → k + rest.length < 2 ^ 62 →
    l44_0 (runC Try.prog lo0 F (n + 1)) F K fuel ⟨r, 0⟩ v k G = K (digV v k rest) (k + (rest.takeWhile digB).length) (G.set r (wst (pre ++ rest) (rest.dropWhile digB) l nn b))
  | rest, pre, v, k, 0, G, h, hf, _, _, _ => by omega
  | [], pre, v, k, f + 1, G, h, hf, hl, h0, h1 => by
    simp only [l44_0, u44_0, w31 _ _ (Nat.le_refl 1) h, ivInt_u8, Option.bind_some, hereR, w33, ivBool_bool, digitB_zero, cond_false, digV, List.takeWhile_nil, List.length_nil, List.dropWhile_nil]
    rw [wst_pre, set_self h]
    congr 1
    omega
  | c :: cs, pre, v, k, f + 1, G, h, hf, hl, h0, h1 => by
    simp only [l44_0, u44_0, w31 _ _ (Nat.le_refl 1) h, ivInt_u8, Option.bind_some, hereR, w33, ivBool_bool]
    by_cases hc : digB c = true
    · have hc' : digitB (c.toNat : Int) = true := hc
      have hs : (pre ++ c :: cs) = ((pre ++ [c]) ++ cs) := by simp
      have hnx := next_pre pre c (by simp at hl; omega)
      simp only [List.length_cons] at h1
      have ih := l44_spec hF n K cs (pre ++ [c]) (digS v k c) (k + 1) f (G.set r (wd ((pre ++ [c]) ++ cs) ((pre ++ [c]).length : Int) l nn b)) (at_set h) (by simp at hf; omega) (by rw [← hs]; exact hl) (by omega) (by omega)
      rw [← hs] at ih
      have tail : ∀ v2 : Int, a44_2N (runC Try.prog lo0 F (n + 1)) (l44_0 (runC Try.prog lo0 F (n + 1)) F K f) K ⟨r, 0⟩ v2 k G = l44_0 (runC Try.prog lo0 F (n + 1)) F K f ⟨r, 0⟩ v2 (k + 1) (G.set r (wd (pre ++ c :: cs) ((pre ++ [c]).length : Int) l nn b)) := by
        intro v2
        simp only [a44_2N, wl_a (Nat.le_refl 1) h, ws_a h, Option.bind_some, hnx]
        rw [IntWalk.i64_in _ (by omega)]
      rw [hc', cond_true]
      simp only [L44_1, l44_1, u44_1, a44_1N, L44_2, l44_2, u44_2, stepN_F hF, w31 _ _ (Nat.le_refl 1) h, ivInt_u8, Option.bind_some, hereR, tail]
      have hd : digV v k (c :: cs) = digV (digS v k c) (k + 1) cs := by simp [digV, hc]
      rw [hd, List.takeWhile_cons, List.dropWhile_cons, if_pos hc, if_pos hc, List.length_cons]
      rw [show k + ((cs.takeWhile digB).length + 1 : Nat) = k + 1 + ((cs.takeWhile digB).length : Nat) by omega]
      rw [List.set_set] at ih
      rw [← ih]
      unfold digS
      cases decide (k < 20)
      · simp only [cond_false]
        cases decide (v > 72057594037927936) <;> rfl
      · simp only [cond_true]
        cases decide (IntKind.wrap .i64 ((IntKind.wrap .i64 ((IntKind.wrap .i64 ((10 : Int) * v)) + (IntKind.wrap .i64 (c.toNat : Int)))) - (48 : Int)) > 72057594037927936) <;> rfl
    · have hc' : digitB (c.toNat : Int) = false := by simpa [digB] using hc
      rw [hc', cond_false]
      have hc2 : digB c = false := hc'
      simp only [digV, hc2, cond_false, List.takeWhile_cons, List.dropWhile_cons, Bool.false_eq_true, if_false, List.length_nil]
      rw [wst_pre, set_self h]
      congr 1
      omega

theorem w44 {F : Nat} (hF : 4000000 ≤ F) (n : Nat) {G : GH} {pre rest : List UInt8} (v : Int) (h : G[r]? = some (wd (pre ++ rest) pre.length l nn b)) (hl : (pre ++ rest).length < 4000000) (k : IV → GH → Option R) :
    runC Try.prog lo0 F (n + 2) 44 [.ptr (some ⟨r, 0⟩), .int .i64 v] G k = k (.tuple [.int .i64 ((rest.takeWhile digB).length : Int), .int .i64 (digV v 0 rest)]) (G.set r (wst (pre ++ rest) (rest.dropWhile digB) l nn b)) := by
  rw [r44, e44]
  simp only [u44, L44_0]
  rw [l44_spec hF n _ rest pre v 0 F G h (by simp at hl; omega) hl (by omega) (by simp at hl; omega)]
  simp only [a44_00, Int.zero_add]

/-- Fifteen digits at most are told as they are. -/
theorem digV_val : ∀ (rest : List UInt8) (v k : Int) (j : Nat), 0 ≤ k → 0 ≤ v → v < 10 ^ j → j + (rest.takeWhile digB).length ≤ 15 → k ≤ j → digV v k rest = valN (rest.takeWhile digB) v
  | [], v, k, j, _, _, _, _, _ => rfl
  | c :: cs, v, k, j, hk, h0, hv, hj, hkj => by
    by_cases hc : digB c = true
    · rw [List.takeWhile_cons, if_pos hc] at hj ⊢
      simp only [List.length_cons] at hj
      have hr : 48 ≤ (c.toNat : Int) ∧ (c.toNat : Int) ≤ 57 := by simpa [digB, digitB] using hc
      have hp : (10 : Int) ^ j ≤ 10 ^ 14 := by exact_mod_cast Nat.pow_le_pow_right (by decide) (by omega)
      have hs : digS v k c = 10 * v + ((c.toNat : Int) - 48) := by
        unfold digS
        rw [show decide (k < 20) = true by simp; omega, cond_true]
        rw [IntWalk.i64_in (10 * v) (by omega), IntWalk.i64_in (c.toNat : Int) (by omega), IntWalk.i64_in (10 * v + (c.toNat : Int)) (by omega), IntWalk.i64_in _ (by omega)]
        show (bif decide (10 * v + (c.toNat : Int) - 48 > 72057594037927936) then (72057594037927936 : Int) else 10 * v + (c.toNat : Int) - 48) = _
        rw [show decide (10 * v + (c.toNat : Int) - 48 > 72057594037927936) = false by simp; omega, cond_false]
        omega
      have h10 : (10 : Int) ^ (j + 1) = 10 ^ j * 10 := Int.pow_succ 10 j
      have ih := digV_val cs (10 * v + ((c.toNat : Int) - 48)) (k + 1) (j + 1) (by omega) (by omega) (by omega) (by omega) (by omega)
      simp only [digV, hc, cond_true, hs, ih]
      rfl
    · have hc2 : digB c = false := by simpa using hc
      rw [List.takeWhile_cons, if_neg hc]
      simp only [digV, hc2, cond_false]
      rfl
end
end Go.LI.Lex
