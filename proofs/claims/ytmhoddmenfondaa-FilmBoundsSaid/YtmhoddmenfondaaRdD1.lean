/- Drops: valid, dropped. -/
import Derived.Test.YtmhoddmenfondaaRdW2
import Derived.Test.YtmhoddmenfondaaRdPg
namespace Go.LI.Film
open Go.Proofs.Ytmhoddmenfondaa Go Go.Proofs Go.LI Go.LI.Fl
set_option linter.unusedVariables false
set_option linter.unusedSimpArgs false
set_option maxRecDepth 100000

/-- A sample at a place. -/
structure Drp where
  x : Int
  y : Int
  a : Nat → Nat
  dim : Bool
def dcs (d : Drp) : List IV := [.int .i64 d.x, .int .i64 d.y, .float .f64 (d.a 0), .float .f64 (d.a 1), .float .f64 (d.a 2), .float .f64 (d.a 3), .float .f64 (d.a 4), .float .f64 (d.a 5), .bool d.dim]
/-- A slice of drops that lies below base. -/
structure Drps (G : GH) (base : Nat) (a : Option GA) (n : Nat) (ds : List Drp) : Prop where
  len : ds.length = n
  at' : n ≠ 0 → ∃ b o e m cs, a = some ⟨b, o⟩ ∧ b < base ∧ G[b]? = some ⟨cs, e, m⟩ ∧ m ≤ 1 ∧ ∀ (i : Nat) (d : Drp), ds[i]? = some d → ∀ j, j < 9 → cs[o + i * 9 + j]? = (dcs d)[j]?
  wide : ∀ d ∈ ds, W6 d.a
theorem Drps.keep {G G' : GH} {base : Nat} {a : Option GA} {n : Nat} {ds : List Drp} (h : Drps G base a n ds) (hk : ∀ i, i < base → G'[i]? = G[i]?) : Drps G' base a n ds := by
  refine ⟨h.len, fun hn => ?_, h.wide⟩
  obtain ⟨b, o, e, m, cs, h1, h2, h3, h4⟩ := h.at' hn
  exact ⟨b, o, e, m, cs, h1, h2, by rw [hk b h2]; exact h3, h4⟩
theorem ldB {G : GH} {b o : Nat} {cs : List IV} {e m : Nat} {v : Bool} (hb : G[b]? = some ⟨cs, e, m⟩) (hm : m ≤ 1) (h : cs[o]? = some (.bool v)) : ldBool G ⟨b, o⟩ = some v := by
  simp [ldBool, gld, hb, hm, h]
theorem Drps.ld {G : GH} {base : Nat} {a : Option GA} {n : Nat} {ds : List Drp} (h : Drps G base a n ds) {i : Nat} {d : Drp} (hi : ds[i]? = some d) : ∃ ga : GA, idx? a n (i : Int) 9 = some ga ∧
    ldInt G .i64 (GA.add ga 0) = some d.x ∧ ldInt G .i64 (GA.add ga 1) = some d.y ∧ (∀ j, j < 6 → ldFloat G .f64 (GA.add ga (2 + j)) = some (d.a j)) ∧ ldBool G (GA.add ga 8) = some d.dim := by
  have hlt : i < n := by rw [← h.len]; exact (List.getElem?_eq_some_iff.1 hi).1
  obtain ⟨b, o, e, m, cs, h1, h2, h3, h4, h5⟩ := h.at' (by omega)
  refine ⟨⟨b, o + i * 9⟩, ?_, ldI h3 h4 (h5 i d hi 0 (by decide)), ldI h3 h4 (h5 i d hi 1 (by decide)), fun j hj => ?_, ldB h3 h4 (h5 i d hi 8 (by decide))⟩
  · rw [h1]
    simp only [idx?]
    rw [if_pos (by omega), Int.toNat_natCast]
    rfl
  · have hc := h5 i d hi (2 + j) (by omega)
    refine ldF h3 h4 (hc.trans ?_)
    have : j = 0 ∨ j = 1 ∨ j = 2 ∨ j = 3 ∨ j = 4 ∨ j = 5 := by omega
    rcases this with rfl | rfl | rfl | rfl | rfl | rfl <;> rfl

def validD (ds : List Drp) : Bool := ds.all fun d => valid6 d.a

section
variable {R : Type}
abbrev SValidD (O : Ora R) (F : Nat) : Prop := ∀ (G : GH) (base : Nat) (a : Option GA) (n : Nat) (ds : List Drp), Drps G base a n ds → n < F → n < 2 ^ 60 → ∀ (k : IV → GH → Option R), O fn_zu [.slice a n] G k = k (.bool (validD ds)) G

theorem valid_loop {O : Ora R} (hV : SRValid O) (Kret : Bool → GH → Option R) (K0 : GH → Option R) {G : GH} {base : Nat} {a : Option GA} {n : Nat} {ds : List Drp} (h : Drps G base a n ds) (hn : n < 2 ^ 60) : ∀ (r i j : Nat), i + r = n → r < j →
    l_zu_0 O Kret K0 j a n (n : Int) (i : Int) G = if validD (ds.drop i) = true then K0 G else Kret false G := by
  intro r
  induction r with
  | zero =>
    intro i j hi hj
    obtain ⟨j, rfl⟩ : ∃ j', j = j' + 1 := ⟨j - 1, by omega⟩
    simp only [l_zu_0, u_zu_0]
    rw [decide_eq_false (by omega), cond_false, List.drop_eq_nil_of_le (by rw [h.len]; omega), if_pos (by rfl)]
  | succ r ih =>
    intro i j hi hj
    obtain ⟨j, rfl⟩ : ∃ j', j = j' + 1 := ⟨j - 1, by omega⟩
    have hlt : i < ds.length := by rw [h.len]; omega
    have hd : ds[i]? = some ds[i] := List.getElem?_eq_getElem hlt
    obtain ⟨ga, l1, _, _, l4, _⟩ := h.ld hd
    have lf : ∀ j, j < 6 → ldFloat G .f64 (GA.add (GA.add ga 2) j) = some (ds[i].a j) := fun j hj => by
      have := l4 j hj
      simpa [GA.add, Nat.add_assoc] using this
    have hv := hV ds[i].a G
    unfold F6 at hv
    simp only [l_zu_0, u_zu_0]
    rw [decide_eq_true (by omega), cond_true, l1, Option.bind_some, lf 0 (by decide), Option.bind_some, lf 1 (by decide), Option.bind_some, lf 2 (by decide), Option.bind_some, lf 3 (by decide), Option.bind_some, lf 4 (by decide), Option.bind_some, lf 5 (by decide), Option.bind_some, hv, ivB]
    have hdrop : validD (ds.drop i) = (valid6 ds[i].a && validD (ds.drop (i + 1))) := by
      rw [List.drop_eq_getElem_cons hlt]; rfl
    rw [hdrop, wrapI (by omega) (by omega), show (i : Int) + 1 = ((i + 1 : Nat) : Int) by omega]
    cases valid6 ds[i].a with
    | true => rw [Bool.not_true, cond_false, Bool.true_and]; exact ih (i + 1) j (by omega) (by omega)
    | false => rw [Bool.not_false, cond_true, Bool.false_and, if_neg (by simp)]

theorem wValidD {F n : Nat} (hn : 5 ≤ n) : SValidD (runC (R := R) Try.prog lo0 F n) F := by
  obtain ⟨n, rfl⟩ : ∃ j, n = j + 5 := ⟨n - 5, by omega⟩
  intro G base a m ds h hF hm k
  have hr : runC (R := R) Try.prog lo0 F (n + 5) fn_zu [.slice a m] G k = u_zu (runC (R := R) Try.prog lo0 F (n + 4)) k (L_zu_0 (runC (R := R) Try.prog lo0 F (n + 4)) F k) a m G := by
    rw [r_zu, e_zu]
  have hV := wRValid (R := R) (F := F) (n := n + 4) (by omega)
  rw [hr]
  clear hr
  generalize runC (R := R) Try.prog lo0 F (n + 4) = O at hV
  simp only [u_zu, L_zu_0]
  have hl := valid_loop hV (a_zu_0ret O k) (a_zu_00 O k) h hm m 0 F (by omega) hF
  rw [List.drop_zero] at hl
  refine hl.trans ?_
  simp only [a_zu_0ret, a_zu_00]
  cases validD ds with
  | true => rw [if_pos rfl]
  | false => rw [if_neg (by simp)]
end
end Go.LI.Film
