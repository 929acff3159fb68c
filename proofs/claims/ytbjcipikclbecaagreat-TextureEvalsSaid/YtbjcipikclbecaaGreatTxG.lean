/- Textures' checks: the lists, the copies, and the law over its functions. -/
import Derived.Test.YtbjcipikclbecaaGreatTxF
set_option linter.unusedVariables false
set_option linter.unusedSimpArgs false
set_option maxRecDepth 100000
set_option exponentiation.threshold 2500
namespace Go.LI.Film
open Go.Proofs.YtbjcipikclbecaaGreat Go Go.Proofs Go.LI Go.LI.Fl
theorem zny {α : Type} {f : α → List IV} {c : Nat} (hf : ∀ x, (f x).length = c) : ∀ {ps : List α} {i : Nat} {p : α}, ps[i]? = some p → ∀ j, j < c → ((ps.map f).flatten)[i * c + j]? = (f p)[j]? := by
  intro ps
  induction ps with
  | nil => intro i p h; simp at h
  | cons q ps ih =>
    intro i p h j hj
    cases i with
    | zero =>
      simp at h
      subst h
      rw [List.map_cons, List.flatten_cons, List.getElem?_append_left (by rw [hf]; omega), Nat.zero_mul, Nat.zero_add]
    | succ i =>
      rw [List.getElem?_cons_succ] at h
      rw [List.map_cons, List.flatten_cons, List.getElem?_append_right (by rw [hf, Nat.add_mul]; omega), hf, show (i + 1) * c + j - c = i * c + j by rw [Nat.add_mul]; omega]
      exact ih h j hj
theorem zfU {α : Type} {f : α → List IV} {c : Nat} (hf : ∀ x, (f x).length = c) (ps : List α) : ((ps.map f).flatten).length = ps.length * c := by
  induction ps with
  | nil => simp
  | cons p ps ih => rw [List.map_cons, List.flatten_cons, List.length_append, ih, hf, List.length_cons, Nat.add_mul]; omega
def RL {α : Type} (f : α → List IV) (G : GH) (a : Option GA) (n : Nat) (ps : List α) : Prop := ps.length = n ∧ (0 < n → ∃ b e, a = some ⟨b, 0⟩ ∧ BL G b ((ps.map f).flatten) e)
theorem RL.keep {α : Type} {f : α → List IV} {G G' : GH} {a : Option GA} {n base : Nat} {ps : List α} (h : RL f G a n ps) (k : z9 base G G') (hb : G.length ≤ base) : RL f G' a n ps := by
  refine ⟨h.1, fun hn => ?_⟩
  obtain ⟨b, e, h1, h2⟩ := h.2 hn
  exact ⟨b, e, h1, h2.keep k (by have := h2.lt; omega)⟩
theorem zqE (t : Tx) : (tcs t).length = 8 := rfl
structure Pc where
  w : Int
  h : Int
  a : Option GA
  n : Nat
def zwZ (q : Pc) : List IV := [iL q.w, iL q.h, .slice q.a q.n]
theorem zn9 (q : Pc) : (zwZ q).length = 3 := rfl
theorem zGP {G : GH} {a : Option GA} {n i : Nat} {qs : List Pc} {q : Pc} (h : RL zwZ G a n qs) (hi : qs[i]? = some q) : ∃ p, zbj a n (i : Int) 3 = some p ∧ z0 G .i64 (GA.add p 0) = some q.w ∧ z0 G .i64 (GA.add p 1) = some q.h ∧ zci G (GA.add p 2) = some (q.a, q.n) := by
  have hl := (List.getElem?_eq_some_iff.1 hi).1
  obtain ⟨b, e, rfl, hB⟩ := h.2 (by have := h.1; omega)
  have hn := h.1
  have at' : ∀ j, j < 3 → ((qs.map zwZ).flatten)[i * 3 + j]? = (zwZ q)[j]? := fun j hj => zny zn9 hi j hj
  refine ⟨⟨b, i * 3⟩, ?_, ?_, ?_, ?_⟩
  · simp only [zbj, GA.add, Int.toNat_natCast, Nat.zero_add]
    rw [if_pos ⟨by omega, by omega⟩]
  · exact hB.int (i := i * 3 + 0) (at' 0 (by omega))
  · exact hB.int (i := i * 3 + 1) (at' 1 (by omega))
  · exact hB.sli (i := i * 3 + 2) (at' 2 (by omega))
def zov (p : Int) : List Tx → Nat → Int × Int
  | [], _ => (0, 0)
  | t :: ts, i => bif chk t i p != 0 then ((i : Int), chk t i p) else zov p ts (i + 1)
theorem zyh {p : Int} {ts : List Tx} {i : Nat} {t : Tx} (h : ts[i]? = some t) : zov p (ts.drop i) i = bif chk t i p != 0 then ((i : Int), chk t i p) else zov p (ts.drop (i + 1)) (i + 1) := by
  obtain ⟨hl, rfl⟩ := List.getElem?_eq_some_iff.1 h
  rw [List.drop_eq_getElem_cons hl, zov]
section
variable {R : Type} {O : Ora R}
def zw1 (n m : Nat) (qs : List Pc) : Bool := decide (n > 100) || (decide (m > 10) || qs.any fun q => decide (q.n > 500))
theorem zFo {a : Option GA} {n : Nat} {qs : List Pc} (G : GH) (hQ : RL zwZ G a n qs) (hn : n < 2 ^ 60) (kk : IV → GH → Option R) : ∀ (r i : Nat), i + r = n → ∀ (j : Nat), r < j →
    zaF O (ze3 O kk) (zhp O kk) j a n (i : Int) G = kk (.bool ((qs.drop i).any fun q => decide (q.n > 500))) G := by
  intro r
  have hlen := hQ.1
  induction r with
  | zero =>
    intro i hi j hj
    obtain ⟨j, rfl⟩ : ∃ j', j = j' + 1 := ⟨j - 1, by omega⟩
    rw [List.drop_eq_nil_of_le (by omega)]
    simp only [zaF, zfd]
    rw [decide_eq_false (by omega), cond_false]
    rfl
  | succ r ih =>
    intro i hi j hj
    obtain ⟨j, rfl⟩ : ∃ j', j = j' + 1 := ⟨j - 1, by omega⟩
    have hi' : i < qs.length := by omega
    have hg := List.getElem?_eq_getElem hi'
    obtain ⟨p, l0, l1, l2, l3⟩ := zGP hQ hg
    rw [List.drop_eq_getElem_cons hi', List.any_cons]
    simp only [zaF, zfd]
    rw [decide_eq_true (by omega), cond_true, l0, Option.bind_some, l3, Option.bind_some, zF (by omega) (by omega), show (i : Int) + 1 = ((i + 1 : Nat) : Int) by omega]
    by_cases hx : (qs[i]).n > 500
    · rw [decide_eq_true (by simp only; omega), cond_true, decide_eq_true hx, Bool.true_or]; rfl
    · rw [decide_eq_false (by simp only; omega), cond_false, decide_eq_false hx, Bool.false_or]
      exact ih (i + 1) (by omega) j (by omega)
abbrev SLg (O : Ora R) : Prop := ∀ (a pa : Option GA) (n m : Nat) (qs : List Pc) (G : GH), RL zwZ G pa m qs → ∀ (k : IV → GH → Option R), O zjy [.slice a n, .slice pa m] G k = k (.bool (zw1 n m qs)) G
theorem zFA {F : Nat} (hF : 1000 ≤ F) (a pa : Option GA) (n m : Nat) (qs : List Pc) (G : GH) (hQ : RL zwZ G pa m qs) (k : IV → GH → Option R) : zf Tryz.prog O lo5 F Tryz.f5 [.slice a n, .slice pa m] G k = k (.bool (zw1 n m qs)) G := by
  obtain ⟨F, rfl⟩ : ∃ F', F = F' + 1 := ⟨F - 1, by omega⟩
  rw [zw4]
  simp only [zlW, zfJ, zi, zfK, ziw, ze5, zhj, zfA, zw1]
  by_cases h1 : n > 100
  · rw [decide_eq_true (by omega), cond_true, decide_eq_true h1, Bool.true_or]
  · rw [decide_eq_false (by omega), cond_false, decide_eq_false h1, Bool.false_or]
    by_cases h2 : m > 10
    · rw [decide_eq_true (by omega), cond_true, decide_eq_true h2, Bool.true_or]
    · rw [decide_eq_false (by omega), cond_false, decide_eq_false h2, Bool.false_or]
      have := zFo (O := O) G hQ (by omega) k m 0 (by omega) (F + 1) (by omega)
      rw [List.drop_zero] at this
      exact this
theorem zCF (G : GH) (e sz bytes m : Nat) (x : List IV) (hr : m * bytes ≤ zbo) : ∃ G', zgd (zac G [] e) e sz bytes (some (zaA G)) 0 x m = some (some ⟨G.length + 1, 0⟩, G') ∧ z9 G.length G G' ∧ G'.length = G.length + 2 ∧ G'[G.length + 1]? = some ⟨x, e, 1⟩ := by
  have h1 : (zac G [] e)[G.length]? = some ⟨[], e, 1⟩ := zhr G [] e
  have hgr : grd (zac G [] e) ⟨G.length, 0⟩ (0 * sz) = some [] := by simp [grd, h1]
  have hown : zGN (zac G [] e) G.length e = true := by simp [zGN, h1]
  have hkill : zm7 (zac G [] e) G.length = (zac G [] e).set G.length ⟨[], e, 2⟩ := by simp [zm7, h1]
  refine ⟨zac ((zac G [] e).set G.length ⟨[], e, 2⟩) x e, ?_, ⟨by simp [zp]; omega, fun i hi => ?_⟩, by simp [zp], ?_⟩
  · unfold zgd
    rw [Nat.zero_add, if_pos hr]
    simp only [zaA, hgr, hown, hkill, List.nil_append, List.length_set, zp]
  · rw [zet (by rw [List.length_set, zp]; omega), List.getElem?_set_ne (by omega), zet (by omega)]
  · have := zhr ((zac G [] e).set G.length ⟨[], e, 2⟩) x e
    rw [List.length_set, zp] at this
    exact this
def zFi (G : GH) (q : Pc) : Prop := ∃ x : List IV, x.length = q.n * 3 ∧ ((q.a = none ∧ q.n = 0 ∧ x = []) ∨ ∃ b e, q.a = some ⟨b, 0⟩ ∧ BL G b x e)
theorem zFi.grd {G : GH} {q : Pc} (h : zFi G q) (e : Nat) : ∃ x, zHl (zac G [] e) q.a q.n 3 = some x := by
  obtain ⟨x, h1, ⟨h2, h3, h4⟩ | ⟨b, e', h2, h3⟩⟩ := h
  · exact ⟨[], by rw [h2, h3]; rfl⟩
  · exact ⟨x, by rw [h2]; exact (h3.keep (zaM G [] e (Nat.le_refl _)) h3.lt).grd h1⟩
theorem zFi.keep {G G' : GH} {q : Pc} {base : Nat} (h : zFi G q) (k : z9 base G G') (hb : G.length ≤ base) : zFi G' q := by
  obtain ⟨x, h1, h2 | ⟨b, e, h2, h3⟩⟩ := h
  · exact ⟨x, h1, .inl h2⟩
  · exact ⟨x, h1, .inr ⟨b, e, h2, h3.keep k (by have := h3.lt; omega)⟩⟩
theorem zHy (a : Option GA) (n : Nat) : zn1 (.slice a n) = some (a, n) := rfl
theorem zJm (x y z : IV) : zr 3 (.agg [x, y, z]) = some [x, y, z] := rfl
theorem zFi.some_lt {G : GH} {q : Pc} (h : zFi G q) {b : Nat} (hq : q.a = some ⟨b, 0⟩) : b < G.length := by
  obtain ⟨x, h1, ⟨h2, _⟩ | ⟨b', e, h2, h3⟩⟩ := h
  · rw [h2] at hq; cases hq
  · rw [h2] at hq; cases hq; exact h3.lt
end
end Go.LI.Film
