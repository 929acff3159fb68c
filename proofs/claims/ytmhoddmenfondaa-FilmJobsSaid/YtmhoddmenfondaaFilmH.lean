/- FilmJobs: the pixels are counted. -/
import Derived.Test.YtmhoddmenfondaaFilmG
namespace Go.LI.Film
open Go.Proofs.Ytmhoddmenfondaa Go Go.Proofs Go.LI
set_option linter.unusedVariables false
set_option linter.unusedSimpArgs false
set_option maxRecDepth 100000

def Only (b : Nat) (G G' : GH) : Prop := G'.length = G.length ∧ ∀ i, i ≠ b → G'[i]? = G[i]?
theorem Only.refl (b : Nat) (G : GH) : Only b G G := ⟨rfl, fun _ _ => rfl⟩
theorem Only.trans {b : Nat} {G G1 G2 : GH} (h : Only b G G1) (k : Only b G1 G2) : Only b G G2 := ⟨k.1.trans h.1, fun i hi => (k.2 i hi).trans (h.2 i hi)⟩

/-- What is seen: 1 where P. -/
def seenC (W H : Nat) (P : Nat → Nat → Bool) : List IV := (List.range (W * H)).map fun p => .int .i64 (if P (p % W) (p / W) then 1 else 0)
theorem seenC_length (W H : Nat) (P : Nat → Nat → Bool) : (seenC W H P).length = W * H := by simp [seenC]
theorem pos_lt {W H x y : Nat} (hx : x < W) (hy : y < H) : y * W + x < W * H := by
  have : (y + 1) * W ≤ H * W := Nat.mul_le_mul_right _ (by omega)
  rw [Nat.add_mul, Nat.mul_comm H W] at this
  omega
theorem pos_mod {W x y : Nat} (hx : x < W) : (y * W + x) % W = x := by rw [Nat.mul_add_mod_self_right, Nat.mod_eq_of_lt hx]
theorem pos_div {W x y : Nat} (hx : x < W) : (y * W + x) / W = y := by rw [Nat.add_comm, Nat.add_mul_div_right _ _ (by omega), Nat.div_eq_of_lt hx]; omega
theorem seenC_at {W H : Nat} {P : Nat → Nat → Bool} {x y : Nat} (hx : x < W) (hy : y < H) : (seenC W H P)[y * W + x]? = some (.int .i64 (if P x y then 1 else 0)) := by
  simp only [seenC, List.getElem?_map]
  rw [List.getElem?_range (pos_lt hx hy)]
  simp only [Option.map_some, pos_mod hx, pos_div hx]
theorem seenC_set {W H : Nat} {P Q : Nat → Nat → Bool} {x y : Nat} (hx : x < W) (hy : y < H) (hq : ∀ x' y', x' < W → y' < H → Q x' y' = (P x' y' || (x' == x && y' == y))) :
    (seenC W H P).set (y * W + x) (.int .i64 1) = seenC W H Q := by
  refine List.ext_getElem? fun p => ?_
  rw [List.getElem?_set]
  by_cases hp : p < W * H
  · have hW : 0 < W := by omega
    have h1 : p % W < W := Nat.mod_lt _ hW
    have h2 : p / W < H := by rw [Nat.div_lt_iff_lt_mul hW, Nat.mul_comm]; exact hp
    have e : p = p / W * W + p % W := by rw [Nat.mul_comm]; exact (Nat.div_add_mod p W).symm
    have hQ := seenC_at (P := Q) h1 h2
    have hP := seenC_at (P := P) h1 h2
    rw [← e] at hQ hP
    rw [hQ, hP, hq _ _ h1 h2, seenC_length]
    by_cases hc : y * W + x = p
    · have a1 : p % W = x := by rw [← hc]; exact pos_mod hx
      have a2 : p / W = y := by rw [← hc]; exact pos_div hx
      rw [if_pos hc, if_pos (by omega)]
      simp [a1, a2]
    · rw [if_neg hc]
      have : (p % W == x && p / W == y) = false := by
        cases hb : (p % W == x && p / W == y) with
        | false => rfl
        | true =>
          simp at hb
          exact absurd (by rw [e, hb.1, hb.2]) hc
      rw [this, Bool.or_false]
  · rw [if_neg (by intro h; have := pos_lt hx hy; omega), List.getElem?_eq_none (by rw [seenC_length]; omega), List.getElem?_eq_none (by rw [seenC_length]; omega)]

/-- One pixel more. -/
theorem seen_step {W H b : Nat} {P : Nat → Nat → Bool} {x y : Nat} {G : GH} (hx : x < W) (hy : y < H) (hG : G[b]? = some ⟨seenC W H P, 3, 1⟩) (hp : P x y = false) :
    ∃ G', idx? (some ⟨b, 0⟩) (W * H) ((y * W + x : Nat) : Int) 1 = some ⟨b, y * W + x⟩ ∧ ldInt G .i64 ⟨b, y * W + x⟩ = some 0 ∧ gst G ⟨b, y * W + x⟩ [.int .i64 1] = some G' ∧
      G'[b]? = some ⟨seenC W H (fun x' y' => P x' y' || (x' == x && y' == y)), 3, 1⟩ ∧ Only b G G' := by
  have hpos := pos_lt hx hy
  have hb := (List.getElem?_eq_some_iff.1 hG).1
  refine ⟨G.set b ⟨seenC W H (fun x' y' => P x' y' || (x' == x && y' == y)), 3, 1⟩, ?_, ?_, ?_, ?_, ?_⟩
  · unfold idx?
    simp only
    rw [if_pos ⟨by omega, by omega⟩]
    simp only [GA.add, Int.toNat_natCast, Nat.mul_one, Nat.zero_add]
  · refine ldInt_of hG (by omega) ?_
    rw [seenC_at hx hy, hp]; rfl
  · have hsp : splice (seenC W H P) (y * W + x) [.int .i64 1] = (seenC W H P).set (y * W + x) (.int .i64 1) := by
      unfold splice
      rw [List.set_eq_take_append_cons_drop, if_pos (by rw [seenC_length]; exact hpos)]
      simp
    simp only [gst, hG, List.length_singleton]
    rw [if_pos ⟨trivial, by rw [seenC_length]; omega⟩, hsp, seenC_set hx hy (Q := fun x' y' => P x' y' || (x' == x && y' == y)) fun _ _ _ _ => rfl]
  · rw [List.getElem?_set_self hb]
  · exact ⟨by simp, fun i hi => List.getElem?_set_ne (Ne.symm hi)⟩

theorem seenC_congr {W H : Nat} {P Q : Nat → Nat → Bool} (h : ∀ x y, x < W → y < H → P x y = Q x y) : seenC W H P = seenC W H Q := by
  unfold seenC
  refine List.map_congr_left fun p hp => ?_
  have hp := List.mem_range.1 hp
  have hW : 0 < W := by
    rcases Nat.eq_zero_or_pos W with h0 | h0
    · subst h0; simp at hp
    · exact h0
  rw [h _ _ (Nat.mod_lt _ hW) (by rw [Nat.div_lt_iff_lt_mul hW, Nat.mul_comm]; exact hp)]

variable {R : Type} {O : Ora R}
theorem cols3 {W H b y x1 : Nat} (hW : W ≤ 1024) (hH : H ≤ 1024) (hy : y < H) (hx1 : x1 ≤ W) (K6 : Int → Int → Option GA → Nat → Int → Option GA → Nat → Int → Int → Int → Int → Int → Int → GH → Option R) (s2 : Int) (t : Option GA) (tn : Nat) (s73 s74 b0 b1 b3 : Int) :
    ∀ (d n x : Nat) (P : Nat → Nat → Bool) (G : GH), x + d = x1 → d < n → G[b]? = some ⟨seenC W H P, 3, 1⟩ → (∀ x', x ≤ x' → x' < x1 → P x' y = false) →
      ∃ G', l3_6 O K6 n W s2 (some ⟨b, 0⟩) (W * H) y x t tn s73 s74 b0 b1 x1 b3 G = K6 W s2 (some ⟨b, 0⟩) (W * H) y t tn s73 s74 b0 b1 x1 b3 G' ∧
        G'[b]? = some ⟨seenC W H (fun x' y' => P x' y' || (decide (x ≤ x' ∧ x' < x1) && y' == y)), 3, 1⟩ ∧ Only b G G'
  | 0, n + 1, x, P, G, hxd, hn, hG, hP => by
    have hc : decide ((x : Int) < (x1 : Int)) = false := by simp; omega
    refine ⟨G, ?_, ?_, Only.refl b G⟩
    · simp only [l3_6, u3_6]
      rw [hc, cond_false]
    · rw [hG, seenC_congr (P := P) (Q := fun x' y' => P x' y' || (decide (x ≤ x' ∧ x' < x1) && y' == y)) fun x' y' _ _ => by
        have : decide (x ≤ x' ∧ x' < x1) = false := by simp; omega
        simp [this]]
  | d + 1, n + 1, x, P, G, hxd, hn, hG, hP => by
    have hc : decide ((x : Int) < (x1 : Int)) = true := by simp; omega
    have hx : x < W := by omega
    obtain ⟨G1, e1, e2, e3, e4, e5⟩ := seen_step hx hy hG (hP x (by omega) (by omega))
    have hpos := pos_lt hx hy
    have hm : W * H ≤ 1024 * 1024 := Nat.mul_le_mul hW hH
    have w1 : IntKind.wrap .i64 (IntKind.wrap .i64 ((y : Int) * (W : Int)) + (x : Int)) = ((y * W + x : Nat) : Int) := by
      rw [← Int.natCast_mul, wr (v := ((y * W : Nat) : Int)) (by omega) (by omega), ← Int.natCast_add, wr (by omega) (by omega)]
    have w2 : IntKind.wrap .i64 ((0 : Int) + 1) = 1 := wr (by omega) (by omega)
    have w3 : IntKind.wrap .i64 ((x : Int) + 1) = ((x + 1 : Nat) : Int) := by rw [wr (by omega) (by omega)]; omega
    obtain ⟨G2, f1, f2, f3⟩ := cols3 hW hH hy hx1 K6 s2 t tn s73 s74 b0 b1 b3 d n (x + 1) _ G1 (by omega) (by omega) e4 (fun x' h1 h2 => by
      rw [hP x' (by omega) h2]
      have : (x' == x) = false := by simp; omega
      simp [this])
    refine ⟨G2, ?_, ?_, e5.trans f3⟩
    · simp only [l3_6, u3_6]
      rw [hc, cond_true, w1, e1, Option.bind_some, e2, Option.bind_some, Option.bind_some, w2, e3, Option.bind_some, w3]
      exact f1
    · rw [f2]
      refine congrArg some ?_
      rw [seenC_congr fun x' y' h1 h2 => ?_]
      cases hPx : P x' y' with
      | true => simp
      | false =>
        simp only [Bool.false_or]
        by_cases hyy : y' = y
        · subst hyy
          by_cases hxx : x' = x
          · subst hxx
            have : x' < x1 := by omega
            simp [this]
          · have a1 : (x' == x) = false := by simpa using hxx
            have a2 : decide (x + 1 ≤ x' ∧ x' < x1) = decide (x ≤ x' ∧ x' < x1) := by
              rw [decide_eq_decide]; omega
            simp [a1, a2]
        · have : (y' == y) = false := by simpa using hyy
          simp [this]
end Go.LI.Film
