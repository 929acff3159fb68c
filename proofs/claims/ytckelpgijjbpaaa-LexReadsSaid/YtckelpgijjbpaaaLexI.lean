/- The reference's reader: a number. -/
import Derived.Test.YtckelpgijjbpaaaLexH
import Derived.Test.YtckelpgijjbpaaaFlC
namespace Go.LI.Lex
open Go.Proofs.Ytckelpgijjbpaaa Go Go.Proofs Go.LI
set_option linter.unusedVariables false
set_option linter.unusedSimpArgs false

/-! ### The word of a number with its sign -/
theorem nearest_nat (v : Nat) : FloatKind.nearest .f64 (v : Int) = (FloatKind.format .f64).nearest false v 0 := by
  unfold FloatKind.nearest FloatKind.encode Ieee.Format.write
  simp only [Int.natAbs_natCast]
  rw [show decide ((v : Int) < 0) = false by simp]

theorem zero_div : ∀ j : Fin 16, (FloatKind.format .f64).div (FloatKind.nearest .f64 0) (FloatKind.nearest .f64 (10 ^ j.val)) = some 0 := by decide +kernel
theorem zero_sub : (FloatKind.format .f64).sub 0 0 = some 0 := by decide +kernel

/-- A quotient's opposite, but of nothing, is 0 less it. -/
theorem signed_word {v j : Nat} (hv : v < 10 ^ 15) (hj : j ≤ 15) (neg : Bool) :
    ∃ x, (FloatKind.format .f64).div (FloatKind.nearest .f64 (v : Int)) (FloatKind.nearest .f64 (10 ^ j)) = some x ∧
      (bif neg then ((FloatKind.format .f64).sub 0 x).getD 0 else x) = (bif neg then (bif (v : Int) != 0 then Op.negFloat .f64 x else x) else x) := by
  by_cases h0 : v = 0
  · subst h0
    refine ⟨0, zero_div ⟨j, by omega⟩, ?_⟩
    cases neg
    · rfl
    · simp [zero_sub]
  · have ht : (10 : Int) ^ j = ((10 ^ j : Nat) : Int) := by push_cast; rfl
    have h10 : 10 ^ j ≤ 10 ^ 15 := Nat.pow_le_pow_right (by decide) hj
    rw [ht, nearest_nat, nearest_nat]
    obtain ⟨r, h1, h2, h3⟩ := Fl.nat_div (n := v) (d := 10 ^ j) (by omega) (by omega) h0 (by have := Nat.pow_pos (n := j) (show 0 < 10 by decide); omega)
    refine ⟨_, h1, ?_⟩
    cases neg
    · rfl
    · simp only [cond_true]
      rw [show ((v : Int) != 0) = true by simp [h0], cond_true]
      have hlt : r < (FloatKind.format .f64).signWeight := Nat.lt_trans h3 (Ieee.Format.infRung_lt _)
      rw [Fl.neg_sub (k := .f64) (Fl.word_split _ hlt).2.2 (by rw [Fl.rg_word _ hlt]; exact h3) (by rw [Fl.rg_word _ hlt]; exact h2)]
      rfl

theorem valN_lt : ∀ (s : List UInt8) (v : Int) (j : Nat), (∀ c ∈ s, digB c = true) → 0 ≤ v → v < 10 ^ j → 0 ≤ valN s v ∧ valN s v < 10 ^ (j + s.length)
  | [], v, j, _, h0, h1 => ⟨h0, by simpa [valN] using h1⟩
  | c :: cs, v, j, hd, h0, h1 => by
    have hc : 48 ≤ (c.toNat : Int) ∧ (c.toNat : Int) ≤ 57 := by have := hd c (by simp); simpa [digB, digitB] using this
    have h10 : (10 : Int) ^ (j + 1) = 10 ^ j * 10 := Int.pow_succ 10 j
    have := valN_lt cs (10 * v + ((c.toNat : Int) - 48)) (j + 1) (fun x hx => hd x (by simp [hx])) (by omega) (by omega)
    rw [show j + (c :: cs).length = j + 1 + cs.length by simp; omega]
    exact this

theorem valN_append (s t : List UInt8) (v : Int) : valN (s ++ t) v = valN t (valN s v) := by simp [valN, List.foldl_append]

/-- What a number's end leaves, in the reference. -/
def wOut {R : Type} (t : List UInt8) (l nb b : Int) (r : Nat) (G : GH) (k : IV → GH → Option R) (x : List UInt8 × Option Nat × List UInt8) : Option R :=
  match x.2.1 with
  | none => k (.tuple [.agg [.int .i64 0, .str [], .float .f64 0, .int .i64 0], .int .i64 162]) (G.set r (wst t x.1 l nb 162))
  | some w => k (.tuple [.agg [.int .i64 2, .str [], .float .f64 w, .int .i64 l], .int .i64 0]) (G.set r (wst t x.1 l nb b))

section
variable {R : Type} {r : Nat} {l nn b : Int}

/-! What is known of the callees (the oracle stays a variable: else the kernel would run it). -/
abbrev S31 (O : Ora R) : Prop := ∀ {r : Nat} {l nn b : Int} {m : Nat}, m ≤ 1 → ∀ {G : GH} {pre rest : List UInt8}, G[r]? = some (wm m (pre ++ rest) pre.length l nn b) → ∀ k : IV → GH → Option R, O 31 [.ptr (some ⟨r, 0⟩)] G k = k (.int .u8 (hereR rest)) G
abbrev S32 (O : Ora R) : Prop := ∀ (c : Int) (G : GH) (k : IV → GH → Option R), O 32 [.int .u8 c] G k = k (.bool (letterB c)) G
abbrev S30 (O : Ora R) : Prop := ∀ {r : Nat} {l nn b : Int} {G : GH} {t : List UInt8} {a e : Int}, G[r]? = some (wd t a l nn b) → ∀ k : IV → GH → Option R,
    O 30 [.ptr (some ⟨r, 0⟩), .int .i64 e] G k = k (.tuple [.agg [.int .i64 0, .str [], .float .f64 0, .int .i64 0], .int .i64 e]) (G.set r (wd t a l nn e))
abbrev S44 (O : Ora R) : Prop := ∀ {r : Nat} {l nn b : Int} {G : GH} {pre rest : List UInt8} (v : Int), G[r]? = some (wd (pre ++ rest) pre.length l nn b) → (pre ++ rest).length < 4000000 → ∀ k : IV → GH → Option R,
    O 44 [.ptr (some ⟨r, 0⟩), .int .i64 v] G k = k (.tuple [.int .i64 ((rest.takeWhile digB).length : Int), .int .i64 (digV v 0 rest)]) (G.set r (wst (pre ++ rest) (rest.dropWhile digB) l nn b))

theorem l34_3_spec {O : Ora R} (K : GA → Bool → Int → Int → Int → List UInt8 → Nat → Int → GH → Option R) (s0 : GA) (s4 : Bool) (s6 : Int) (b0 : Int) (b1 : List UInt8) (b2 : Nat) (b3 : Int) (G : GH) (m : Nat) (hm : m ≤ 15) :
    ∀ (d i : Nat) (fuel : Nat), d = m - i → i ≤ m → d < fuel → l34_3 O K fuel s0 s4 s6 (m : Int) ((10 : Int) ^ i) (i : Int) b0 b1 b2 b3 G = K s0 s4 s6 ((10 : Int) ^ m) b0 b1 b2 b3 G
  | d, i, 0, hd, hi, hf => by omega
  | 0, i, f + 1, hd, hi, hf => by
    have : i = m := by omega
    subst this
    simp only [l34_3, u34_3]
    rw [show decide ((i : Int) < (i : Int)) = false by simp, cond_false]
  | d + 1, i, f + 1, hd, hi, hf => by
    simp only [l34_3, u34_3]
    have hp : (10 : Int) ^ i ≤ 10 ^ 15 := by exact_mod_cast Nat.pow_le_pow_right (by decide) (by omega)
    have hp0 : (0 : Int) < 10 ^ i := Int.pow_pos (by decide)
    have h10 : (10 : Int) ^ (i + 1) = 10 ^ i * 10 := Int.pow_succ 10 i
    rw [show decide ((i : Int) < (m : Int)) = true by simp; omega, cond_true, IntWalk.i64_in _ (by omega), IntWalk.i64_in _ (by omega), ← h10]
    exact l34_3_spec K s0 s4 s6 b0 b1 b2 b3 G m hm d (i + 1) f (by omega) (by omega) (by omega)

theorem hereR_next (rest : List UInt8) : (letterB (hereR rest) || (hereR rest == 46 || hereR rest == 45)) = nextB rest := by
  cases rest with
  | nil => decide
  | cons c cs => rfl

/-- Behind the digits. -/
theorem w34_end {F : Nat} (hF : 4000000 ≤ F) {O : Ora R} (h30 : S30 O) (h31 : S31 O) (h32 : S32 O) (s4 : Bool) (whole part rest : List UInt8) {G : GH} {pre : List UInt8} (v : Int) (h : G[r]? = some (wd (pre ++ rest) pre.length l nn b)) (hw : whole.length < 4000000) (hp : part.length < 4000000)
    (hdw : ∀ c ∈ whole, digB c = true) (hdp : ∀ c ∈ part, digB c = true) (hv : whole.length + part.length ≤ 15 → v = valN (whole ++ part) 0) (k : IV → GH → Option R) :
    a34_1N (O) k (L34_2 (O) F k) ⟨r, 0⟩ s4 (whole.length : Int) v (part.length : Int) 0 [] 0 0 G = wOut (pre ++ rest) l nn b r G k (numE s4 whole part rest) := by
  have bad : ∀ B : Bool, B = numBad whole part rest → a34_2N (O) k (L34_3 (O) F k) ⟨r, 0⟩ s4 v (part.length : Int) B 0 [] 0 0 G = wOut (pre ++ rest) l nn b r G k (numE s4 whole part rest) := by
    intro B hB
    subst hB
    unfold numE
    simp only [a34_2N, wOut]
    cases hb : numBad whole part rest
    · simp only [cond_false]
      have hlen : whole.length + part.length ≤ 15 := by
        simp only [numBad, Bool.or_eq_false_iff, decide_eq_false_iff_not] at hb
        omega
      have hv' := hv hlen
      obtain ⟨q0, q1⟩ := valN_lt (whole ++ part) 0 0 (fun c hc => by rcases List.mem_append.1 hc with h | h; exact hdw c h; exact hdp c h) (by omega) (by decide)
      have hq : (10 : Int) ^ (0 + (whole ++ part).length) ≤ 10 ^ 15 := by exact_mod_cast Nat.pow_le_pow_right (by decide) (by simpa using hlen)
      obtain ⟨u, hu⟩ := Int.eq_ofNat_of_zero_le q0
      rw [← hv'] at hu q1
      obtain ⟨x, x1, x2⟩ := signed_word (v := u) (j := part.length) (by omega) (by omega) s4
      have hW : numW s4 whole part = (bif s4 then (bif v != 0 then Op.negFloat .f64 x else x) else x) := by
        unfold numW
        rw [← hv', hu, x1]
        exact x2
      simp only [L34_3]
      have := l34_3_spec (R := R) (O := O) (a34_30 (O) k (L34_4 (O) F k)) ⟨r, 0⟩ s4 v 0 [] 0 0 G part.length (by omega) part.length 0 F (by omega) (by omega) (by omega)
      rw [Int.pow_zero] at this
      rw [show ((0 : Nat) : Int) = 0 from rfl] at this
      rw [this]
      simp only [a34_30]
      rw [hu, x1]
      simp only [Option.bind_some, L34_4, l34_4, u34_4, L34_5, l34_5, u34_5, stepN_F hF]
      rw [wst_pre, set_self h, hW, hu]
      cases s4
      · simp only [cond_false, a34_5N, a34_4N, wl_l (Nat.le_refl 1) h, Option.bind_some]
      · cases ((u : Int) != 0) <;> simp only [cond_false, cond_true, a34_5N, a34_4N, wl_l (Nat.le_refl 1) h, Option.bind_some]
    · simp only [cond_true]
      rw [h30 h]
      simp only [ivTup2, ivAgg4, ivInt_i64, ivStr_str, ivFloat_f64, getD0, getD1, getD2, getD3, Option.bind_some]
      rw [wst_pre]
  simp only [a34_1N, h31 (Nat.le_refl 1) h, ivInt_u8, Option.bind_some, L34_2, l34_2, u34_2, stepN_F hF]
  rw [IntWalk.i64_in _ (by omega)]
  have e1 : ((whole.length : Int) == 0) = (whole == []) := by cases whole <;> simp; omega
  have e2 : decide ((whole.length : Int) + (part.length : Int) > 15) = decide (whole.length + part.length > 15) := by congr 1; simp; omega
  rw [e1, e2]
  have hN := hereR_next rest
  cases c1 : (whole == [])
  · simp only [cond_false]
    cases c2 : decide (whole.length + part.length > 15)
    · simp only [cond_false, h32, ivBool_bool, Option.bind_some]
      cases c3 : letterB (hereR rest)
      · try simp only [cond_false]
        cases c4 : (hereR rest == 46)
        · simp only [cond_false]
          refine bad _ ?_
          rw [c3, c4] at hN
          simp only [numBad, c1, c2, ← hN, Bool.false_or]
        · simp only [cond_true]
          refine bad _ ?_
          rw [c3, c4] at hN
          simp only [numBad, c1, c2, ← hN, Bool.false_or, Bool.true_or]
      · try simp only [cond_true]
        refine bad _ ?_
        rw [c3] at hN
        simp only [numBad, c1, c2, ← hN, Bool.false_or, Bool.true_or]
    · simp only [cond_true]
      exact bad _ (by simp only [numBad, c1, c2, Bool.false_or, Bool.true_or])
  · simp only [cond_true]
    exact bad _ (by simp only [numBad, c1, Bool.true_or])

/-- Behind the sign. -/
theorem w34_mid {F : Nat} (hF : 4000000 ≤ F) {O : Ora R} (h30 : S30 O) (h31 : S31 O) (h32 : S32 O) (h44 : S44 O) (s4 : Bool) {G : GH} {pre rest : List UInt8} (h : G[r]? = some (wd (pre ++ rest) pre.length l nn b)) (hlen : (pre ++ rest).length < 4000000) (k : IV → GH → Option R) :
    a34_0N (O) k (L34_1 (O) F k) ⟨r, 0⟩ s4 0 [] 0 0 G = wOut (pre ++ rest) l nn b r G k (numM s4 rest) := by
  simp only [a34_0N]
  rw [h44 0 h hlen]
  simp only [ivTup2, ivInt_i64, getD0, getD1, Option.bind_some, L34_1, l34_1, u34_1, stepN_F hF]
  have hw := takeWhile_all digB rest
  have hwl : (rest.takeWhile digB).length ≤ rest.length := (List.takeWhile_prefix digB).length_le
  have hsp : pre ++ rest = (pre ++ rest.takeWhile digB) ++ rest.dropWhile digB := by rw [List.append_assoc, List.takeWhile_append_dropWhile]
  have hl' : rest.length < 4000000 := by simp at hlen; omega
  have hval : ∀ m : Nat, (rest.takeWhile digB).length + m ≤ 15 → digV 0 0 rest = valN (rest.takeWhile digB) 0 := fun m hm => digV_val rest 0 0 0 (by omega) (by omega) (by decide) (by omega) (by omega)
  unfold numM
  generalize hW : rest.takeWhile digB = whole at hw hwl hsp hval ⊢
  generalize hD : rest.dropWhile digB = r1 at hsp ⊢
  rw [hsp]
  have h1 : (G.set r (wst ((pre ++ whole) ++ r1) r1 l nn b))[r]? = some (wd ((pre ++ whole) ++ r1) (pre ++ whole).length l nn b) := by rw [at_set h, wst_pre]
  rw [h31 (Nat.le_refl 1) h1]
  simp only [ivInt_u8, Option.bind_some]
  have fin : ∀ G1 : GH, ∀ (r2 : List UInt8) (b' : Int), wOut ((pre ++ whole) ++ r1) l nn b r (G.set r G1[0]!) k = wOut ((pre ++ whole) ++ r1) l nn b r (G.set r G1[0]!) k := fun _ _ _ => rfl
  have out : ∀ (X : Blk) (x : List UInt8 × Option Nat × List UInt8), wOut ((pre ++ whole) ++ r1) l nn b r (G.set r X) k x = wOut ((pre ++ whole) ++ r1) l nn b r G k x := by
    intro X x
    unfold wOut
    split <;> rw [List.set_set]
  have plain : a34_1N (O) k (L34_2 (O) F k) ⟨r, 0⟩ s4 (whole.length : Int) (digV 0 0 rest) 0 0 [] 0 0 (G.set r (wst ((pre ++ whole) ++ r1) r1 l nn b)) =
      wOut ((pre ++ whole) ++ r1) l nn b r G k (numE s4 whole [] r1) := by
    have := w34_end hF h30 h31 h32 s4 whole [] r1 (digV 0 0 rest) h1 (by omega) (by simp) hw (by simp) (fun hq => by rw [List.append_nil]; exact hval 0 (by simpa using hq)) k
    rw [out] at this
    exact this
  cases r1 with
  | nil =>
    rw [show (hereR [] == 46) = false from rfl, cond_false]
    exact plain
  | cons c ds =>
    cases hc : ((c.toNat : Int) == 46)
    · rw [show (hereR (c :: ds) == 46) = false from hc, cond_false]
      simp only [hc, cond_false]
      exact plain
    · rw [show (hereR (c :: ds) == 46) = true from hc, cond_true]
      simp only [hc, cond_true]
      rw [wl_a (Nat.le_refl 1) h1]
      simp only [Option.bind_some]
      rw [ws_a h1]
      simp only [Option.bind_some, List.set_set]
      have hs2 : ((pre ++ whole) ++ c :: ds) = ((pre ++ whole ++ [c]) ++ ds) := by simp
      have hlen2 : ((pre ++ whole ++ [c]) ++ ds).length < 4000000 := by rw [← hs2, ← hsp]; exact hlen
      rw [next_pre (pre ++ whole) c (by simp at hlen2 ⊢; omega)]
      have h2 : (G.set r (wd ((pre ++ whole) ++ c :: ds) ((pre ++ whole ++ [c]).length : Int) l nn b))[r]? = some (wd ((pre ++ whole ++ [c]) ++ ds) ((pre ++ whole ++ [c]).length : Int) l nn b) := by rw [at_set h, hs2]
      rw [h44 _ h2 hlen2]
      simp only [ivTup2, ivInt_i64, getD0, getD1, Option.bind_some, List.set_set]
      have hp := takeWhile_all digB ds
      have hpl : (ds.takeWhile digB).length ≤ ds.length := (List.takeWhile_prefix digB).length_le
      have hsp2 : (pre ++ whole ++ [c]) ++ ds = ((pre ++ whole ++ [c]) ++ ds.takeWhile digB) ++ ds.dropWhile digB := by rw [List.append_assoc (pre ++ whole ++ [c]), List.takeWhile_append_dropWhile]
      have h3 : (G.set r (wst ((pre ++ whole ++ [c]) ++ ds) (ds.dropWhile digB) l nn b))[r]? = some (wd (((pre ++ whole ++ [c]) ++ ds.takeWhile digB) ++ ds.dropWhile digB) ((pre ++ whole ++ [c]) ++ ds.takeWhile digB).length l nn b) := by rw [at_set h, hsp2, wst_pre]
      have e1 : (((ds.takeWhile digB).length : Int) == 0) = (ds.takeWhile digB == []) := by cases ds.takeWhile digB <;> simp; omega
      rw [e1]
      cases hz : (ds.takeWhile digB == [])
      · simp only [cond_false]
        have := w34_end hF h30 h31 h32 s4 whole (ds.takeWhile digB) (ds.dropWhile digB) (digV (digV 0 0 rest) 0 ds) h3 (by omega) (by simp at hlen2; omega) hw hp (fun hq => by
          rw [hval _ hq, valN_append]
          obtain ⟨q0, q1⟩ := valN_lt whole 0 0 hw (by omega) (by decide)
          exact digV_val ds _ 0 whole.length (by omega) q0 (by simpa using q1) hq (by omega)) k
        rw [← hsp2, ← hs2, out] at this
        rw [← hs2]
        exact this
      · simp only [cond_true]
        rw [h30 h3]
        simp only [ivTup2, ivAgg4, ivInt_i64, ivStr_str, ivFloat_f64, getD0, getD1, getD2, getD3, Option.bind_some, a34_1ret, wOut, List.set_set]
        rw [hs2, hsp2, wst_pre]

theorem w34_body {F : Nat} (hF : 4000000 ≤ F) {O : Ora R} (h30 : S30 O) (h31 : S31 O) (h32 : S32 O) (h44 : S44 O) {G : GH} {pre cs : List UInt8} {c : UInt8} (h : G[r]? = some (wd (pre ++ c :: cs) pre.length l nn b)) (hlen : (pre ++ c :: cs).length < 4000000) (k : IV → GH → Option R) :
    bodyC Try.prog O lo34 F Try.f34 [.ptr (some ⟨r, 0⟩)] G k = wOut (pre ++ c :: cs) l nn b r G k (numR (c :: cs)) := by
  rw [e34]
  simp only [u34, h31 (Nat.le_refl 1) h, ivInt_u8, Option.bind_some, hereR, L34_0, l34_0, u34_0, stepN_F hF, numR]
  cases hc : ((c.toNat : Int) == 45)
  · simp only [cond_false]
    exact w34_mid hF h30 h31 h32 h44 false h hlen k
  · simp only [cond_true, wl_a (Nat.le_refl 1) h, ws_a h, Option.bind_some]
    have hs : (pre ++ c :: cs) = ((pre ++ [c]) ++ cs) := by simp
    rw [next_pre pre c (by simp at hlen; omega), hs]
    have h1 : (G.set r (wd ((pre ++ [c]) ++ cs) ((pre ++ [c]).length : Int) l nn b))[r]? = some (wd ((pre ++ [c]) ++ cs) ((pre ++ [c]).length : Int) l nn b) := at_set h
    rw [w34_mid hF h30 h31 h32 h44 true h1 (by rw [← hs]; exact hlen) k]
    unfold wOut
    split <;> rw [List.set_set]

theorem w34 {F : Nat} (hF : 4000000 ≤ F) (n : Nat) {G : GH} {pre cs : List UInt8} {c : UInt8} (h : G[r]? = some (wd (pre ++ c :: cs) pre.length l nn b)) (hlen : (pre ++ c :: cs).length < 4000000) (k : IV → GH → Option R) :
    runC Try.prog lo0 F (n + 3) 34 [.ptr (some ⟨r, 0⟩)] G k = wOut (pre ++ c :: cs) l nn b r G k (numR (c :: cs)) := by
  rw [r34]
  exact w34_body hF (fun h k => w30 F (n + 1) h k) (fun hm _ _ _ h k => w31 F (n + 1) hm h k) (fun c G k => w32 F (n + 1) c G k) (fun v h hl k => w44 hF n v h hl k) h hlen k
end
end Go.LI.Lex
