/- The reader of a text: numbers' parts. -/
import Derived.Test.YtckelpgijjbpaaaLexT
import Derived.Test.YtckelpgijjbpaaaLexC
namespace Go.LI.Lex
open Go.Proofs.Ytckelpgijjbpaaa Go Go.Proofs Go.LI
set_option linter.unusedVariables false
set_option linter.unusedSimpArgs false

section
variable {R : Type} {r : Nat} {l nn b : Int} {O : Ora R}

theorem s21 (n : Nat) {G : GH} {t rest : List UInt8} (h : G[r]? = some (rs t rest l nn b)) (hs : rest <:+ t) (hl : t.length < 1152921504606846976) (h0 : 0 ≤ l) (h1 : l + rest.length < 2 ^ 62) (k : IV → GH → Option R) :
    runL Try.prog lexLib lo0 1152921504606846976 (n + 1) 21 [.ptr (some ⟨r, 0⟩)] G k = k (.tuple []) (G.set r (rs t (skipR false rest l).1 (skipR false rest l).2 nn b)) := by
  obtain ⟨pre, rfl⟩ := hs
  rw [r21, e21]
  rw [rs_pre] at h
  exact l21_0_spec _ 1152921504606846976 rest pre l G h (by simp at hl; omega) hl h0 h1

theorem s22 (n : Nat) {G : GH} {t : List UInt8} {a e : Int} (h : G[r]? = some (rd t a l nn b)) (k : IV → GH → Option R) :
    runL Try.prog lexLib lo0 1152921504606846976 (n + 1) 22 [.ptr (some ⟨r, 0⟩), .int .i64 e] G k = k (.tuple [.agg [.int .i64 0, .str [], .float .f64 0, .int .i64 0], .int .i64 e]) (G.set r (rd t a l nn e)) := by
  rw [r22, e22]
  simp only [st_b h, Option.bind_some]

/-- The number that digits tell. -/
def valN (s : List UInt8) (v : Int) : Int := s.foldl (fun v c => 10 * v + ((c.toNat : Int) - 48)) v

theorem ld_byte {G : GH} {g : Nat} {s : List UInt8} (h : G[g]? = some ⟨bytesI s, 5, 1⟩) {i : Nat} {c : UInt8} (hc : s[i]? = some c) : ldInt G .u8 ⟨g, i⟩ = some (c.toNat : Int) := by
  simp [ldInt, gld, h, bytesI, List.getElem?_map, hc]

theorem l27_5_spec (K : GA → Bool → List UInt8 → Int → Int → Int → List UInt8 → Nat → Int → GH → Option R) {G : GH} {g : Nat} {s : List UInt8} (hg : G[g]? = some ⟨bytesI s, 5, 1⟩) (hd : ∀ c ∈ s, digB c = true) (hlen : s.length ≤ 15)
    (s0 : GA) (s4 : Bool) (s6 : List UInt8) (s9 : Int) (b0 : Int) (b1 : List UInt8) (b2 : Nat) (b3 : Int) : ∀ (d i : Nat) (fuel : Nat) (v : Int), d = s.length - i → i ≤ s.length → d < fuel → 0 ≤ v → v < 10 ^ i →
    l27_5 O K fuel s0 s4 s6 v s9 (some ⟨g, 0⟩) s.length (s.length : Int) (i : Int) b0 b1 b2 b3 G = K s0 s4 s6 (valN (s.drop i) v) s9 b0 b1 b2 b3 G
  | d, i, 0, v, hdi, hi, hf, _, _ => by omega
  | 0, i, f + 1, v, hdi, hi, hf, _, _ => by
    have : i = s.length := by omega
    subst this
    simp [l27_5, valN]
  | d + 1, i, f + 1, v, hdi, hi, hf, hv0, hv => by
    have hlt : i < s.length := by omega
    have hc : s[i]? = some s[i] := List.getElem?_eq_getElem hlt
    have hdig := hd s[i] (List.getElem_mem hlt)
    have hrange : 48 ≤ (s[i].toNat : Int) ∧ (s[i].toNat : Int) ≤ 57 := by simpa [digB, digitB] using hdig
    have hidx : idx? (some ⟨g, 0⟩) s.length (i : Int) 1 = some ⟨g, i⟩ := by
      simp only [idx?, GA.add]
      rw [if_pos (by omega)]
      simp
    have hv15 : v < 10 ^ 14 := Int.lt_of_lt_of_le hv (by
      have : (10 : Int) ^ i ≤ 10 ^ 14 := by exact_mod_cast Nat.pow_le_pow_right (by omega) (by omega : i ≤ 14)
      exact this)
    rw [l27_5]
    rw [show decide ((i : Int) < (s.length : Int)) = true by simp; omega]
    simp only [cond_true, hidx, Option.bind_some, ld_byte hg hc]
    rw [IntWalk.u8_in _ (by omega), IntWalk.i64_in ((s[i].toNat : Int) - 48) (by omega), IntWalk.i64_in (10 * v) (by omega), IntWalk.i64_in (10 * v + _) (by omega), IntWalk.i64_in ((i : Int) + 1) (by omega)]
    have := l27_5_spec K hg hd hlen s0 s4 s6 s9 b0 b1 b2 b3 d (i + 1) f (10 * v + ((s[i].toNat : Int) - 48)) (by omega) (by omega) (by omega) (by omega) (by rw [Int.pow_succ]; omega)
    have hv : valN (s.drop i) v = valN (s.drop (i + 1)) (10 * v + ((s[i].toNat : Int) - 48)) := by
      unfold valN; rw [List.drop_eq_getElem_cons hlt]; rfl
    rw [show ((i : Int) + 1) = ((i + 1 : Nat) : Int) by simp, this, hv]

theorem l27_6_spec (K : GA → Bool → Int → Int → Int → List UInt8 → Nat → Int → GH → Option R) {G : GH} (s0 : GA) (s4 : Bool) (s8 : Int) (b0 : Int) (b1 : List UInt8) (b2 : Nat) (b3 : Int) (m : Nat) (hm : m ≤ 15) :
    ∀ (d i : Nat) (fuel : Nat), d = m - i → i ≤ m → d < fuel →
    l27_6 O K fuel s0 s4 s8 (10 ^ i) (m : Int) (i : Int) b0 b1 b2 b3 G = K s0 s4 s8 (10 ^ m) b0 b1 b2 b3 G
  | d, i, 0, hdi, hi, hf => by omega
  | 0, i, f + 1, hdi, hi, hf => by
    have : i = m := by omega
    subst this
    simp [l27_6]
  | d + 1, i, f + 1, hdi, hi, hf => by
    have h10 : (10 : Int) ^ i ≤ 10 ^ 14 := by exact_mod_cast Nat.pow_le_pow_right (by omega) (by omega : i ≤ 14)
    have h0 : (0 : Int) ≤ 10 ^ i := Int.le_of_lt (Int.pow_pos (by omega))
    rw [l27_6]
    rw [show decide ((i : Int) < (m : Int)) = true by simp; omega]
    simp only [cond_true]
    rw [IntWalk.i64_in _ (by omega), IntWalk.i64_in _ (by omega)]
    rw [show ((i : Int) + 1) = ((i + 1 : Nat) : Int) by simp, show (10 : Int) ^ i * 10 = 10 ^ (i + 1) by rw [Int.pow_succ]]
    exact l27_6_spec K s0 s4 s8 b0 b1 b2 b3 m hm d (i + 1) f (by omega) (by omega) (by omega)
end
end Go.LI.Lex
