/- Drops as arguments. -/
import Derived.Test.YtmhoddmenfondaaRdD1
import Derived.Test.YtmhoddmenfondaaLiAll2
namespace Go.LI.Film
open Go.Proofs.Ytmhoddmenfondaa Go Go.Proofs Go.LI Go.LI.Fl
set_option linter.unusedVariables false
set_option linter.unusedSimpArgs false

/-- The kinds of a drop's cells. -/
def dk : List Lk := [.int .i64, .int .i64, .f64, .f64, .f64, .f64, .f64, .f64, .bool]

def six (b0 b1 b2 b3 b4 b5 : Nat) : Nat → Nat
  | 0 => b0 | 1 => b1 | 2 => b2 | 3 => b3 | 4 => b4 | 5 => b5 | _ => 0
theorem six_w {b0 b1 b2 b3 b4 b5 : Nat} (h0 : b0 < 2 ^ 64) (h1 : b1 < 2 ^ 64) (h2 : b2 < 2 ^ 64) (h3 : b3 < 2 ^ 64) (h4 : b4 < 2 ^ 64) (h5 : b5 < 2 ^ 64) : W6 (six b0 b1 b2 b3 b4 b5) := by
  intro i
  unfold six
  split <;> first | assumption | exact Nat.two_pow_pos 64

theorem drops_of {cells : List IV} {n : Nat} (hl : cells.length = n * dk.length) (K : ∀ (i : Nat) (iv : IV), cells[i]? = some iv → ∃ l, dk[i % dk.length]? = some l ∧ l.ok iv) :
    ∃ ds : List Drp, ds.length = n ∧ ∀ i d, ds[i]? = some d → (W6 d.a ∧ (-9223372036854775808 ≤ d.x ∧ d.x < 9223372036854775808) ∧ (-9223372036854775808 ≤ d.y ∧ d.y < 9223372036854775808)) ∧ ∀ j, j < 9 → cells[i * 9 + j]? = (dcs d)[j]? := by
  refine choose_list (fun i (d : Drp) => (W6 d.a ∧ (-9223372036854775808 ≤ d.x ∧ d.x < 9223372036854775808) ∧ (-9223372036854775808 ≤ d.y ∧ d.y < 9223372036854775808)) ∧ ∀ j, j < 9 → cells[i * 9 + j]? = (dcs d)[j]?) n fun i hi => ?_
  have h9 : dk.length = 9 := rfl
  rw [h9] at hl
  have get : ∀ j, j < 9 → ∃ iv l, cells[i * 9 + j]? = some iv ∧ dk[j]? = some l ∧ l.ok iv := by
    intro j hj
    have hlt : i * 9 + j < cells.length := by omega
    obtain ⟨l, h1, h2⟩ := K (i * 9 + j) cells[i * 9 + j] (List.getElem?_eq_getElem hlt)
    rw [h9, Nat.mul_comm, Nat.mul_add_mod, Nat.mod_eq_of_lt hj] at h1
    exact ⟨_, l, List.getElem?_eq_getElem hlt, h1, h2⟩
  have int : ∀ j, j < 9 → dk[j]? = some (.int .i64) → ∃ x : Int, (-9223372036854775808 ≤ x ∧ x < 9223372036854775808) ∧ cells[i * 9 + j]? = some (.int .i64 x) := by
    intro j hj hk
    obtain ⟨iv, l, h1, h2, h3⟩ := get j hj
    rw [hk] at h2
    injection h2 with h2; subst h2
    obtain ⟨x, rfl, h4, h5⟩ := h3
    have e4 : IntKind.i64.min = -9223372036854775808 := by decide
    have e5 : IntKind.i64.max = 9223372036854775807 := by decide
    exact ⟨x, ⟨by omega, by omega⟩, h1⟩
  have flo : ∀ j, j < 9 → dk[j]? = some .f64 → ∃ x : Nat, x < 2 ^ 64 ∧ cells[i * 9 + j]? = some (.float .f64 x) := by
    intro j hj hk
    obtain ⟨iv, l, h1, h2, h3⟩ := get j hj
    rw [hk] at h2
    injection h2 with h2; subst h2
    obtain ⟨x, rfl, hx⟩ := h3
    exact ⟨x, hx, h1⟩
  obtain ⟨x, rx, c0⟩ := int 0 (by decide) rfl
  obtain ⟨y, ry, c1⟩ := int 1 (by decide) rfl
  obtain ⟨b0, w0, c2⟩ := flo 2 (by decide) rfl
  obtain ⟨b1, w1, c3⟩ := flo 3 (by decide) rfl
  obtain ⟨b2, w2, c4⟩ := flo 4 (by decide) rfl
  obtain ⟨b3, w3, c5⟩ := flo 5 (by decide) rfl
  obtain ⟨b4, w4, c6⟩ := flo 6 (by decide) rfl
  obtain ⟨b5, w5, c7⟩ := flo 7 (by decide) rfl
  obtain ⟨iv, l, c8, h2, h3⟩ := get 8 (by decide)
  have hk : dk[8]? = some .bool := rfl
  rw [hk] at h2
  injection h2 with h2; subst h2
  obtain ⟨b, rfl⟩ := h3
  refine ⟨⟨x, y, six b0 b1 b2 b3 b4 b5, b⟩, ⟨six_w w0 w1 w2 w3 w4 w5, rx, ry⟩, fun j hj => ?_⟩
  have : j = 0 ∨ j = 1 ∨ j = 2 ∨ j = 3 ∨ j = 4 ∨ j = 5 ∨ j = 6 ∨ j = 7 ∨ j = 8 := by omega
  rcases this with rfl | rfl | rfl | rfl | rfl | rfl | rfl | rfl | rfl
  · exact c0
  · exact c1
  · exact c2
  · exact c3
  · exact c4
  · exact c5
  · exact c6
  · exact c7
  · exact c8

theorem drps_of2 {G : GH} {e : Nat} {a : Option GA} {n : Nat} {cells : List IV} (S : RSl G e a n cells) (hl : cells.length = n * dk.length) (K : ∀ (i : Nat) (iv : IV), cells[i]? = some iv → ∃ l, dk[i % dk.length]? = some l ∧ l.ok iv) :
    ∃ ds, Drps G G.length a n ds ∧ ∀ d ∈ ds, (-9223372036854775808 ≤ d.x ∧ d.x < 9223372036854775808) ∧ (-9223372036854775808 ≤ d.y ∧ d.y < 9223372036854775808) := by
  obtain ⟨ds, h1, h2⟩ := drops_of hl K
  refine ⟨ds, ⟨h1, fun hn => ?_, fun d hd => ?_⟩, fun d hd => ?_⟩
  · rcases S with ⟨_, h0, _⟩ | ⟨ga, h3, h4, h5⟩
    · exact absurd h0 hn
    · have h5 := h5 (by omega)
      refine ⟨ga.b, 0, e, 0, cells, ?_, (List.getElem?_eq_some_iff.1 h4).1, h4, by omega, fun i d hi j hj => ?_⟩
      · rw [h3]; cases ga; simp_all
      · rw [Nat.zero_add]; exact (h2 i d hi).2 j hj
  · obtain ⟨i, hi⟩ := List.getElem?_of_mem hd
    exact (h2 i d hi).1.1
  · obtain ⟨i, hi⟩ := List.getElem?_of_mem hd
    exact (h2 i d hi).1.2
theorem drps_of {G : GH} {e : Nat} {a : Option GA} {n : Nat} {cells : List IV} (S : RSl G e a n cells) (hl : cells.length = n * dk.length) (K : ∀ (i : Nat) (iv : IV), cells[i]? = some iv → ∃ l, dk[i % dk.length]? = some l ∧ l.ok iv) :
    ∃ ds, Drps G G.length a n ds := (drps_of2 S hl K).imp fun _ h => h.1
end Go.LI.Film
