/- FilmMerges: copying and comparing. -/
import Derived.Test.YtmhoddmenfondaaRdD3
namespace Go.LI.Film
open Go.Proofs.Ytmhoddmenfondaa Go Go.Proofs Go.LI Go.LI.Fl
set_option linter.unusedVariables false
set_option linter.unusedSimpArgs false
set_option maxRecDepth 100000

/-- The document's way: one pixel after the other. -/
def copyL (qs : List Px) (w w' x0 y0 : Nat) : Nat → Nat → List Px → List Px
  | 0, _, ps => ps
  | n + 1, i, ps => copyL qs w w' x0 y0 n (i + 1) (ps.set ((y0 + i / w') * w + (x0 + i % w')) (qs.getD i Px.zero))
theorem copyL_add (qs : List Px) (w w' x0 y0 : Nat) : ∀ (a b i : Nat) (ps : List Px), copyL qs w w' x0 y0 (a + b) i ps = copyL qs w w' x0 y0 b (i + a) (copyL qs w w' x0 y0 a i ps) := by
  intro a
  induction a with
  | zero => intro b i ps; rw [Nat.zero_add]; rfl
  | succ a ih =>
    intro b i ps
    rw [show a + 1 + b = (a + b) + 1 by omega, copyL, copyL, ih, show i + 1 + a = i + (a + 1) by omega]
theorem mrow_copy (qs : List Px) (w w' x0 y0 v : Nat) : ∀ (n u : Nat) (ps : List Px), u + n ≤ w' → mrow qs w w' x0 y0 v n u ps = copyL qs w w' x0 y0 n (v * w' + u) ps := by
  intro n
  induction n with
  | zero => intro u ps _; rfl
  | succ n ih =>
    intro u ps hu
    have h1 : (v * w' + u) / w' = v := by
      rw [Nat.mul_comm, Nat.mul_add_div (by omega), Nat.div_eq_of_lt (by omega), Nat.add_zero]
    have h2 : (v * w' + u) % w' = u := by
      rw [Nat.mul_comm, Nat.mul_add_mod, Nat.mod_eq_of_lt (by omega)]
    rw [mrow, copyL, h1, h2, ih (u + 1) _ (by omega), Nat.add_assoc]
theorem mall_copy (qs : List Px) (w w' x0 y0 : Nat) : ∀ (n v : Nat) (ps : List Px), mall qs w w' x0 y0 n v ps = copyL qs w w' x0 y0 (n * w') (v * w') ps := by
  intro n
  induction n with
  | zero => intro v ps; rw [Nat.zero_mul]; rfl
  | succ n ih =>
    intro v ps
    have e : (n + 1) * w' = w' + n * w' := by rw [Nat.add_mul, Nat.one_mul, Nat.add_comm]
    have e2 : (v + 1) * w' = v * w' + w' := by rw [Nat.add_mul, Nat.one_mul]
    rw [mall, ih, mrow_copy _ _ _ _ _ _ _ _ _ (by omega), e, copyL_add, e2, Nat.add_zero]

theorem Want.ld {G : GH} {q : Nat} {ps : List Px} (hW : Want G q ps) {i : Nat} (hi : i < ps.length) :
    idx? (some (⟨q, 0⟩ : GA)) ps.length (i : Int) 8 = some ⟨q, i * 8⟩ ∧ (∀ j v, j < 8 → (pcs (ps.getD i Px.zero))[j]? = some (.float .f64 v) → ldFloat G .f64 (GA.add ⟨q, i * 8⟩ j) = some v) ∧ (∀ j v, j < 8 → (pcs (ps.getD i Px.zero))[j]? = some (.int .i64 v) → ldInt G .i64 (GA.add ⟨q, i * 8⟩ j) = some v) := by
  obtain ⟨e, hw⟩ := hW
  have hps : ps[i]? = some (ps.getD i Px.zero) := by rw [List.getD_eq_getElem?_getD, List.getElem?_eq_getElem hi]; rfl
  refine ⟨?_, fun j v hj hv => ldF hw (by decide) ((flatP_at hps j hj).trans hv), fun j v hj hv => ldI hw (by decide) ((flatP_at hps j hj).trans hv)⟩
  simp only [idx?]
  rw [if_pos (by omega), Int.toNat_natCast]
  simp [GA.add]

section
variable {R : Type}
/-- The comparing. -/
theorem merges7 {O : Ora R} (hPx : SFPixel O) (hSm : SRSamePx O) (Kret : Bool → Int → Int → Int → Int → GH → Option R) (K2 : Int → Int → Int → Int → GH → Option R) {G : GH} {f b c q : Nat} {ps : List Px} (hI : Flm G f b c 5 4 ps) (hW : Want G q ps) (b0 b1 b2 b3 : Int) :
    ∀ (r i j : Nat), i + r = 20 → r < j → l_law19_FilmMerges_7 O Kret K2 j (some ⟨f, 0⟩) (some ⟨q, 0⟩) ps.length 20 (i : Int) b0 b1 b2 b3 G = K2 b0 b1 b2 b3 G := by
  have hlen : ps.length = 20 := hI.img.len
  intro r
  induction r with
  | zero =>
    intro i j hi hj
    obtain ⟨j, rfl⟩ : ∃ j', j = j' + 1 := ⟨j - 1, by omega⟩
    simp only [l_law19_FilmMerges_7, u_law19_FilmMerges_7]
    rw [decide_eq_false (by omega), cond_false]
  | succ r ih =>
    intro i j hi hj
    obtain ⟨j, rfl⟩ : ∃ j', j = j' + 1 := ⟨j - 1, by omega⟩
    simp only [l_law19_FilmMerges_7, u_law19_FilmMerges_7]
    have e1 : Int.tmod (i : Int) 5 = ((i % 5 : Nat) : Int) := by rw [Int.tmod_eq_emod_of_nonneg (by omega)]; omega
    have e2 : IntKind.wrap .i64 (Int.tdiv (i : Int) 5) = ((i / 5 : Nat) : Int) := by rw [Int.tdiv_eq_ediv_of_nonneg (by omega), wrapI (by omega) (by omega)]; omega
    have hin : inB 5 4 ((i % 5 : Nat) : Int) ((i / 5 : Nat) : Int) = true := decide_eq_true (by omega)
    obtain ⟨l1, l2, l3⟩ := hW.ld (i := i) (by omega)
    rw [decide_eq_true (by omega), cond_true, e1, e2, hPx G f b c 5 4 ps hI, At_open, hin, if_pos rfl, Int.toNat_natCast, Int.toNat_natCast, show i / 5 * 5 + i % 5 = i by omega, l1, Option.bind_some,
      l2 0 _ (by decide) rfl, Option.bind_some, l2 1 _ (by decide) rfl, Option.bind_some, l2 2 _ (by decide) rfl, Option.bind_some, l2 3 _ (by decide) rfl, Option.bind_some, l2 4 _ (by decide) rfl, Option.bind_some, l2 5 _ (by decide) rfl, Option.bind_some, l3 6 _ (by decide) rfl, Option.bind_some, l3 7 _ (by decide) rfl, Option.bind_some]
    have hs := hSm (ps.getD i Px.zero).a (ps.getD i Px.zero).c (ps.getD i Px.zero).d G
    unfold PX at hs
    rw [hs, ivB, Bool.not_true, cond_false, wrapI (by omega) (by omega), show (i : Int) + 1 = ((i + 1 : Nat) : Int) by omega]
    exact ih (i + 1) j (by omega) (by omega)

/-- The copying. -/
theorem merges6 {O : Ora R} (K0 : Option GA → Option GA → Nat → Int → Int → Int → Int → GH → Option R) {s7 : Option GA} {q p w' h' x0 y0 : Nat} {qs : List Px} (hqp : p ≠ q) (hx : x0 + w' ≤ 5) (hy : y0 + h' ≤ 4) (hw : 1 ≤ w') (hql : qs.length = w' * h') (b2 b3 : Int) :
    ∀ (r i j : Nat) (ps : List Px) (G : GH), i + r = w' * h' → r < j → ps.length = 20 → Want G q ps → Want G p qs →
      ∃ G', Want G' q (copyL qs 5 w' x0 y0 r i ps) ∧ G'.length = G.length ∧ (∀ t, t ≠ q → G'[t]? = G[t]?) ∧
        l_law19_FilmMerges_6 O K0 j s7 (some ⟨q, 0⟩) 20 (w' : Int) (some ⟨p, 0⟩) qs.length ((w' * h' : Nat) : Int) (i : Int) (x0 : Int) (y0 : Int) b2 b3 G = K0 s7 (some ⟨q, 0⟩) 20 (x0 : Int) (y0 : Int) b2 b3 G' := by
  intro r
  induction r with
  | zero =>
    intro i j ps G hi hj hl hQ hP
    obtain ⟨j, rfl⟩ : ∃ j', j = j' + 1 := ⟨j - 1, by omega⟩
    refine ⟨G, hQ, rfl, fun _ _ => rfl, ?_⟩
    simp only [l_law19_FilmMerges_6, u_law19_FilmMerges_6]
    rw [decide_eq_false (by omega), cond_false]
  | succ r ih =>
    intro i j ps G hi hj hl hQ hP
    obtain ⟨j, rfl⟩ : ∃ j', j = j' + 1 := ⟨j - 1, by omega⟩
    have hdv : i / w' < h' := by rw [Nat.div_lt_iff_lt_mul (by omega), Nat.mul_comm h']; omega
    have hmd : i % w' < w' := Nat.mod_lt _ (by omega)
    obtain ⟨dv, hdve⟩ : ∃ dv, dv = i / w' := ⟨_, rfl⟩
    obtain ⟨md, hmde⟩ : ∃ md, md = i % w' := ⟨_, rfl⟩
    have hi20 : i < 20 := by
      have : w' * h' ≤ 5 * 4 := Nat.mul_le_mul (by omega) (by omega)
      omega
    have e1 : Int.tmod (i : Int) (w' : Int) = (md : Int) := by rw [Int.tmod_eq_emod_of_nonneg (by omega), hmde]; rfl
    have e2 : IntKind.wrap .i64 (Int.tdiv (i : Int) (w' : Int)) = (dv : Int) := by
      rw [Int.tdiv_eq_ediv_of_nonneg (by omega), ← Int.natCast_ediv, ← hdve, wrapI (by omega) (by omega)]
    rw [← hdve] at hdv
    rw [← hmde] at hmd
    have e3 : IntKind.wrap .i64 ((IntKind.wrap .i64 ((IntKind.wrap .i64 ((IntKind.wrap .i64 ((y0 : Int) + (dv : Int))) * (5 : Int))) + (x0 : Int))) + (md : Int)) = (((y0 + dv) * 5 + (x0 + md) : Nat) : Int) := by
      rw [wrapI (v := (y0 : Int) + dv) (by omega) (by omega), wrapI (v := ((y0 : Int) + dv) * 5) (by omega) (by omega), wrapI (v := ((y0 : Int) + dv) * 5 + x0) (by omega) (by omega), wrapI (by omega) (by omega)]
      omega
    obtain ⟨l1, l2, l3⟩ := hP.ld (i := i) (by rw [hql]; omega)
    obtain ⟨m1, _, _⟩ := hQ.ld (i := (y0 + dv) * 5 + (x0 + md)) (by rw [hl]; omega)
    rw [hl] at m1
    obtain ⟨e, hq⟩ := hQ
    have hqlt : q < G.length := by
      rcases Nat.lt_or_ge q G.length with h' | h'
      · exact h'
      · rw [List.getElem?_eq_none h'] at hq; cases hq
    have hst : gst G ⟨q, ((y0 + dv) * 5 + (x0 + md)) * 8⟩ (pcs (qs.getD i Px.zero)) = some (G.set q ⟨flatP (ps.set ((y0 + dv) * 5 + (x0 + md)) (qs.getD i Px.zero)), e, 1⟩) := by
      unfold gst
      simp only [hq]
      rw [if_pos ⟨by trivial, by rw [pcs_length, flatP_length]; omega⟩, flatP_set _ (by omega)]
    unfold pcs at hst
    have hz : ((w' : Int) == 0) = false := by rw [beq_eq_false_iff_ne]; omega
    simp only [l_law19_FilmMerges_6, u_law19_FilmMerges_6]
    rw [decide_eq_true (by omega), cond_true, hz, cond_false, cond_false, l1, Option.bind_some, l2 0 _ (by decide) rfl, Option.bind_some, l2 1 _ (by decide) rfl, Option.bind_some, l2 2 _ (by decide) rfl, Option.bind_some, l2 3 _ (by decide) rfl, Option.bind_some, l2 4 _ (by decide) rfl, Option.bind_some, l2 5 _ (by decide) rfl, Option.bind_some, l3 6 _ (by decide) rfl, Option.bind_some, l3 7 _ (by decide) rfl, Option.bind_some, e1, e2, e3, m1, Option.bind_some, hst, Option.bind_some, wrapI (by omega) (by omega), show (i : Int) + 1 = ((i + 1 : Nat) : Int) by omega]
    obtain ⟨G2, k1, k2, k3, k4⟩ := ih (i + 1) j (ps.set ((y0 + dv) * 5 + (x0 + md)) (qs.getD i Px.zero)) (G.set q ⟨flatP (ps.set ((y0 + dv) * 5 + (x0 + md)) (qs.getD i Px.zero)), e, 1⟩) (by omega) (by omega) (by rw [List.length_set]; exact hl) ⟨e, by rw [List.getElem?_set_self hqlt]⟩ (by
      obtain ⟨e', hp⟩ := hP
      exact ⟨e', by rw [List.getElem?_set_ne (fun h' => hqp h'.symm)]; exact hp⟩)
    refine ⟨G2, ?_, by rw [k2, List.length_set], fun t ht => ?_, k4⟩
    · rw [copyL, ← hdve, ← hmde]; exact k1
    · rw [k3 t ht, List.getElem?_set_ne (fun h' => ht h'.symm)]
end
end Go.LI.Film
