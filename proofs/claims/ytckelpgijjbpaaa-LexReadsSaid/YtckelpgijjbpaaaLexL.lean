/- LexReads: the plain side of it, and token by token. -/
import Derived.Test.YtckelpgijjbpaaaLexK
import Derived.Test.YtckelpgijjbpaaaLexG
namespace Go.LI.Lex
open Go.Proofs.Ytckelpgijjbpaaa Go Go.Proofs Go.LI
set_option linter.unusedVariables false
set_option linter.unusedSimpArgs false

/-! ### Numbers are no NaN -/
theorem nn_zero : nn (FloatKind.format .f64) 0 := by unfold nn; decide +kernel

theorem numW_nn (neg : Bool) (whole part : List UInt8) (h : part.length ≤ 15) : nn (FloatKind.format .f64) (numW neg whole part) := by
  unfold numW
  obtain ⟨x, hx, hxn⟩ := num_div (v := valN (whole ++ part) 0) h
  rw [hx]
  cases neg
  · exact hxn
  · obtain ⟨y, hy, hyn⟩ := num_sub hxn
    simp only [Option.getD_some, cond_true, hy]
    exact hyn

theorem numE_nn (neg : Bool) (whole part rest : List UInt8) {w : Nat} (h : (numE neg whole part rest).2.1 = some w) : nn (FloatKind.format .f64) w := by
  unfold numE at h
  simp only at h
  cases hb : numBad whole part rest
  · rw [hb, cond_false] at h
    injection h with h
    subst h
    simp only [numBad, Bool.or_eq_false_iff, decide_eq_false_iff_not] at hb
    exact numW_nn _ _ _ (by omega)
  · rw [hb, cond_true] at h; cases h

theorem numM_nn (neg : Bool) (cs : List UInt8) {w : Nat} (h : (numM neg cs).2.1 = some w) : nn (FloatKind.format .f64) w := by
  unfold numM at h
  split at h
  · exact numE_nn _ _ _ _ h
  · rename_i c ds _
    cases hc : ((c.toNat : Int) == 46)
    · rw [hc, cond_false] at h; exact numE_nn _ _ _ _ h
    · rw [hc, cond_true] at h
      cases hz : (ds.takeWhile digB == [])
      · rw [hz, cond_false] at h; exact numE_nn _ _ _ _ h
      · rw [hz, cond_true] at h; cases h

theorem numR_nn (cs : List UInt8) {w : Nat} (h : (numR cs).2.1 = some w) : nn (FloatKind.format .f64) w := by
  cases cs with
  | nil => cases h
  | cons c cs =>
    simp only [numR] at h
    cases hc : ((c.toNat : Int) == 45)
    · rw [hc, cond_false] at h; exact numM_nn _ _ h
    · rw [hc, cond_true] at h; exact numM_nn _ _ h

/-- What is told of each token. -/
theorem nextR_facts (rest : List UInt8) (l n : Int) : nn (FloatKind.format .f64) (nextR rest l n).x ∧ (nextR rest l n).b = (nextR rest l n).e := by
  unfold nextR
  generalize skipR false rest l = s
  obtain ⟨r1, l1⟩ := s
  cases r1 with
  | nil => exact ⟨nn_zero, rfl⟩
  | cons c cs =>
    dsimp only
    cases decide (n + 1 > 16384)
    · cases letterB (c.toNat : Int)
      · cases (digitB (c.toNat : Int) || (c.toNat : Int) == 45)
        · cases ((c.toNat : Int) == 34)
          · exact ⟨nn_zero, rfl⟩
          · simp only [cond_false, cond_true]
            split
            · exact ⟨nn_zero, rfl⟩
            · rename_i d ds _
              cases ((d.toNat : Int) != 34) <;> exact ⟨nn_zero, rfl⟩
        · simp only [cond_false, cond_true]
          split
          · exact ⟨nn_zero, rfl⟩
          · rename_i w hw
            exact ⟨numR_nn _ hw, rfl⟩
      · exact ⟨nn_zero, rfl⟩
    · exact ⟨nn_zero, rfl⟩

theorem allR_facts : ∀ (f : Nat) (rest : List UInt8) (l n : Int) (out : List Tk × Int × Int), 0 ≤ n → n ≤ 16384 → allR f rest l n = some out → (out.1.length : Int) + n ≤ 16384 ∧ ∀ t ∈ out.1, nn (FloatKind.format .f64) t.x
  | 0, rest, l, n, out, _, _, h => by simp [allR] at h
  | f + 1, rest, l, n, out, h0, h1, h => by
    simp only [allR] at h
    cases he : ((nextR rest l n).e != 0)
    · rw [he, cond_false] at h
      cases hk : ((nextR rest l n).k == 4)
      · rw [hk, cond_false] at h
        obtain ⟨q1, q2⟩ := nextR_less rest l n (by simpa using he) (by simpa using hk)
        cases hy : allR f (nextR rest l n).rest (nextR rest l n).l (nextR rest l n).n with
        | none => rw [hy] at h; cases h
        | some y =>
          rw [hy] at h
          injection h with h
          subst h
          obtain ⟨p1, p2⟩ := allR_facts f _ _ _ y (by omega) (by omega) hy
          refine ⟨by simp; omega, fun t ht => ?_⟩
          rcases List.mem_cons.1 ht with rfl | ht
          · exact (nextR_facts rest l n).1
          · exact p2 t ht
      · rw [hk, cond_true] at h
        injection h with h
        subst h
        exact ⟨by simpa using h1, fun t ht => by simp at ht⟩
    · rw [he, cond_true] at h
      injection h with h
      subst h
      exact ⟨by simpa using h1, fun t ht => by simp at ht⟩

/-- The next token, also of a reader that has failed. -/
def nextF (rest : List UInt8) (l n b : Int) : Nx := bif b == 0 then nextR rest l n else ⟨0, [], 0, 0, b, rest, l, n, b, []⟩

theorem nextF_facts (rest : List UInt8) (l n b : Int) : nn (FloatKind.format .f64) (nextF rest l n b).x ∧ (nextF rest l n b).b = (nextF rest l n b).e ∧ (nextF rest l n b).rest <:+ rest ∧ l ≤ (nextF rest l n b).l ∧ (nextF rest l n b).l + (nextF rest l n b).rest.length ≤ l + rest.length ∧ n ≤ (nextF rest l n b).n ∧ (nextF rest l n b).n ≤ n + 1 := by
  unfold nextF
  cases b == 0
  · exact ⟨nn_zero, rfl, List.suffix_refl _, Int.le_refl _, Int.le_refl _, Int.le_refl _, by simp only [cond_false]; omega⟩
  · have h := nextR_inv rest l n
    have h2 := nextR_facts rest l n
    exact ⟨h2.1, h2.2, h.1, h.2.1, h.2.2.1, h.2.2.2.1, h.2.2.2.2.1⟩

section
variable {R : Type}

abbrev S15 (O : Ora R) : Prop := ∀ {r : Nat} {G : GH} {t rest : List UInt8} {l n b : Int}, G[r]? = some (rs t rest l n b) → rest <:+ t → t.length < 4000000 → 0 ≤ l → l + rest.length < 2 ^ 62 → 0 ≤ n → n < 2 ^ 62 → ∀ k : IV → GH → Option R,
    O 15 [.ptr (some ⟨r, 0⟩)] G k = nxOut t r G k (nextF rest l n b)
abbrev S16B (O : Ora R) : Prop := ∀ {r : Nat} {G : GH} {t rest rest1 : List UInt8} {l n n1 b : Int}, G[r]? = some (wst t rest1 l n1 b) → (b = 0 → rest1 = rest ∧ n1 = n) → rest <:+ t → t.length < 4000000 → 0 ≤ l → l + rest.length < 2 ^ 62 → 0 ≤ n → n < 2 ^ 62 →
    ∃ rest' n', ((nextF rest l n b).b = 0 → rest' = (nextF rest l n b).rest ∧ n' = (nextF rest l n b).n) ∧ ∀ k : IV → GH → Option R,
      O 16 [.ptr (some ⟨r, 0⟩)] G k = k (.tuple [.agg (tokI (nextF rest l n b).k (nextF rest l n b).w (nextF rest l n b).x (nextF rest l n b).tl), .int .i64 (nextF rest l n b).e]) (G.set r (wst t rest' (nextF rest l n b).l n' (nextF rest l n b).b))

theorem s15B (n : Nat) : S15 (runC (R := R) Try.prog lo0 4000000 (n + 4)) := by
  intro r G t rest l m b h hs hlen h0 h1 hn0 hn1 k
  unfold nextF
  cases hb : (b == 0)
  · simp only [cond_false]
    have hne : (b != 0) = true := by simpa using hb
    rw [r15, e15]
    have hl : ldInt G .i64 (GA.add ⟨r, 0⟩ 4) = some b := ld_b h
    rw [hl]
    simp only [Option.bind_some]
    rw [hne, cond_true]
    simp only [nxOut, tokI, List.append_nil]
    rw [set_self h]
  · have hb0 : b = 0 := by simpa using hb
    subst hb0
    exact s15 n h hs hlen h0 h1 hn0 hn1 k

theorem w16B {F : Nat} (hF : 4000000 ≤ F) (n : Nat) : S16B (runC (R := R) Try.prog lo0 F (n + 4)) := by
  intro r G t rest rest1 l m m1 b h hz hs hlen h0 h1 hn0 hn1
  cases hb : (b == 0)
  · have hne : (b != 0) = true := by simpa using hb
    have hx : nextF rest l m b = ⟨0, [], 0, 0, b, rest, l, m, b, []⟩ := by unfold nextF; rw [hb, cond_false]
    rw [hx]
    refine ⟨rest1, m1, fun hc => by have hc0 : b = 0 := hc; rw [hc0] at hne; simp at hne, fun k => ?_⟩
    rw [r16, e16]
    simp only [u16]
    have hl : ldInt G .i64 (GA.add ⟨r, 0⟩ 4) = some b := wl_b (Nat.le_refl 1) h
    rw [hl]
    simp only [Option.bind_some]
    rw [hne, cond_true]
    simp only [tokI]
    rw [set_self h]
  · have hb0 : b = 0 := by simpa using hb
    subst hb0
    obtain ⟨rfl, rfl⟩ := hz rfl
    have hx : nextF rest1 l m1 0 = nextR rest1 l m1 := rfl
    rw [hx]
    obtain ⟨rest', n', q1, q2⟩ := w16 (R := R) hF n h hs hlen h0 h1 hn0 hn1
    exact ⟨rest', n', fun hc => q1 (by rw [← (nextR_facts rest1 l m1).2]; exact hc), q2⟩

abbrev S14 (O : Ora R) : Prop := ∀ (a0 : Int) (a1 : List UInt8) (a2 : Nat) (a3 : Int), nn (FloatKind.format .f64) a2 → ∀ (G : GH) (k : IV → GH → Option R), O 14 [.agg (tokI a0 a1 a2 a3), .agg (tokI a0 a1 a2 a3)] G k = k (.bool true) G
theorem w14 (fuel n : Nat) : S14 (runC (R := R) Try.prog lo0 fuel (n + 1)) := by
  intro a0 a1 a2 a3 hn G k
  rw [show tokI a0 a1 a2 a3 = [.int .i64 a0, .str a1, .float .f64 a2, .int .i64 a3] from rfl, r14, e14]
  simp [feq_self hn]
abbrev S17 (O : Ora R) : Prop := ∀ {r : Nat} {G : GH} {t rest : List UInt8} {l n b : Int}, G[r]? = some (rs t rest l n b) → ∀ k : IV → GH → Option R, O 17 [.ptr (some ⟨r, 0⟩)] (gfreeze G) k = k (.int .i64 l) (gfreeze G)
theorem s17 (fuel n : Nat) : S17 (runC (R := R) Try.prog lo0 fuel (n + 1)) := by
  intro r G t rest l m b h k
  rw [r17, e17]
  have : ldInt (gfreeze G) .i64 (GA.add ⟨r, 0⟩ 2) = some l := by simp [ldInt, gld, GA.add, gfreeze, h, rs, rd]
  rw [this]
  rfl
end
end Go.LI.Lex
