/- FilmJobs: all are ones. -/
import Derived.Test.YtmhoddmenfondaaFilmJ
namespace Go.LI.Film
open Go.Proofs.Ytmhoddmenfondaa Go Go.Proofs Go.LI
set_option linter.unusedVariables false
set_option linter.unusedSimpArgs false
set_option maxRecDepth 100000
variable {R : Type} {O : Ora R}

theorem ones3 {b M : Nat} {cs : List IV} {G : GH} (hM : M ≤ 1000000) (hG : G[b]? = some ⟨cs, 3, 1⟩) (h1 : ∀ p, p < M → cs[p]? = some (.int .i64 1)) (Kret : Bool → GH → Option R) (K8 : GH → Option R) :
    ∀ (d n i : Nat), i + d = M → d < n → l3_7 O Kret K8 n (some ⟨b, 0⟩) M M i G = K8 G
  | 0, n + 1, i, hid, hn => by
    have hc : decide ((i : Int) < (M : Int)) = false := by simp; omega
    simp only [l3_7, u3_7]
    rw [hc, cond_false]
  | d + 1, n + 1, i, hid, hn => by
    have hc : decide ((i : Int) < (M : Int)) = true := by simp; omega
    have x1 : idx? (some ⟨b, 0⟩) M (i : Int) 1 = some ⟨b, i⟩ := by
      unfold idx?
      simp only
      rw [if_pos ⟨by omega, by omega⟩]
      simp only [GA.add, Int.toNat_natCast, Nat.mul_one, Nat.zero_add]
    have x2 : ldInt G .i64 ⟨b, i⟩ = some 1 := ldInt_of hG (by omega) (h1 i (by omega))
    have wi : IntKind.wrap .i64 ((i : Int) + 1) = ((i + 1 : Nat) : Int) := by rw [wr (by omega) (by omega)]; omega
    simp only [l3_7, u3_7]
    rw [hc, cond_true, x1, Option.bind_some, x2, Option.bind_some]
    simp only [bne_self_eq_false, cond_false]
    rw [wi]
    exact ones3 hM hG h1 Kret K8 d n (i + 1) (by omega) (by omega)

theorem seen_ones {W H S nx ny N : Nat} (hS : 0 < S) (hnx : (W - 1) / S + 1 = nx) (hny : (H - 1) / S + 1 = ny) (hN : nx * ny = N) {p : Nat} (hp : p < W * H) : (seenC W H (fun x y => decide (tileN S nx x y < N)))[p]? = some (.int .i64 1) := by
  have hW : 0 < W := by
    rcases Nat.eq_zero_or_pos W with h0 | h0
    · subst h0; simp at hp
    · exact h0
  have h1 : p % W < W := Nat.mod_lt _ hW
  have h2 : p / W < H := by rw [Nat.div_lt_iff_lt_mul hW, Nat.mul_comm]; exact hp
  have e : p = p / W * W + p % W := by rw [Nat.mul_comm]; exact (Nat.div_add_mod p W).symm
  have hP := seenC_at (P := fun x y => decide (tileN S nx x y < N)) h1 h2
  rw [← e] at hP
  rw [hP]
  have a1 : p % W / S < nx := by
    have : p % W / S ≤ (W - 1) / S := Nat.div_le_div_right (by omega)
    omega
  have a2 : p / W / S < ny := by
    have : p / W / S ≤ (H - 1) / S := Nat.div_le_div_right (by omega)
    omega
  have := pos_lt a1 a2
  unfold tileN
  rw [hN] at this
  simp [this]
end Go.LI.Film
