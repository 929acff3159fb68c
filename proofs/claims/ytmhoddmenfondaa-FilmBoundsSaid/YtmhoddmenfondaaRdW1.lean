/- Images of pixels in the interpreter's heap. -/
import Derived.Test.YtmhoddmenfondaaRdV3
import Derived.Test.YtmhoddmenfondaaRdPe
import Derived.Test.YtmhoddmenfondaaHpA
namespace Go.LI.Film
open Go.Proofs.Ytmhoddmenfondaa Go Go.Proofs Go.LI Go.LI.Fl
set_option linter.unusedVariables false
set_option linter.unusedSimpArgs false
set_option maxRecDepth 100000

/-- A pixel: the ends of its spans, its two counts. -/
structure Px where
  a : Nat → Nat
  c : Int
  d : Int
def Px.zero : Px := ⟨fun _ => 0, 0, 0⟩
def pcs (p : Px) : List IV := [.float .f64 (p.a 0), .float .f64 (p.a 1), .float .f64 (p.a 2), .float .f64 (p.a 3), .float .f64 (p.a 4), .float .f64 (p.a 5), .int .i64 p.c, .int .i64 p.d]
def flatP : List Px → List IV
  | [] => []
  | p :: ps => pcs p ++ flatP ps
theorem pcs_length (p : Px) : (pcs p).length = 8 := rfl
theorem flatP_length (ps : List Px) : (flatP ps).length = ps.length * 8 := by
  induction ps with
  | nil => rfl
  | cons p ps ih => rw [flatP, List.length_append, ih, pcs_length, List.length_cons]; omega
theorem flatP_at {ps : List Px} : ∀ {i : Nat} {p : Px}, ps[i]? = some p → ∀ j, j < 8 → (flatP ps)[i * 8 + j]? = (pcs p)[j]? := by
  induction ps with
  | nil => intro i p h; simp at h
  | cons q ps ih =>
    intro i p h j hj
    cases i with
    | zero =>
      simp at h
      subst h
      rw [flatP, List.getElem?_append_left (by rw [pcs_length]; omega), Nat.zero_mul, Nat.zero_add]
    | succ i =>
      rw [List.getElem?_cons_succ] at h
      rw [flatP, List.getElem?_append_right (by rw [pcs_length]; omega), pcs_length, show (i + 1) * 8 + j - 8 = i * 8 + j by omega]
      exact ih h j hj
theorem flatP_set {ps : List Px} : ∀ {i : Nat} (p : Px), i < ps.length → splice (flatP ps) (i * 8) (pcs p) = flatP (ps.set i p) := by
  induction ps with
  | nil => intro i p h; simp at h
  | cons q ps ih =>
    intro i p h
    cases i with
    | zero =>
      rw [List.set_cons_zero, flatP, flatP, splice, Nat.zero_mul, List.take_zero, List.nil_append, Nat.zero_add]
      rw [show (pcs p).length = (pcs q).length from rfl, List.drop_left]
    | succ i =>
      rw [List.set_cons_succ, flatP, flatP, ← ih p (by simpa using h)]
      unfold splice
      have h8 : (i + 1) * 8 = (pcs q).length + i * 8 := by rw [pcs_length]; omega
      rw [h8, List.take_append, List.drop_append]
      rw [List.take_of_length_le (by omega), List.drop_eq_nil_of_le (by omega), List.nil_append, show (pcs q).length + i * 8 - (pcs q).length = i * 8 by omega, show (pcs q).length + i * 8 + (pcs p).length - (pcs q).length = i * 8 + (pcs p).length by omega, List.append_assoc, List.append_assoc, List.append_assoc]

/-- An image at b, its pixels at c. -/
structure Img (G : GH) (b c w h : Nat) (ps : List Px) : Prop where
  hb : ∃ e, G[b]? = some ⟨[.int .i64 w, .int .i64 h, .slice (some ⟨c, 0⟩) (w * h)], e, 1⟩
  hc : ∃ e, G[c]? = some ⟨flatP ps, e, 1⟩
  ne : b ≠ c
  len : ps.length = w * h
  hw : w ≤ 1024
  hh : h ≤ 1024

theorem ldI {G : GH} {b o : Nat} {cs : List IV} {e m : Nat} {v : Int} (hb : G[b]? = some ⟨cs, e, m⟩) (hm : m ≤ 1) (h : cs[o]? = some (.int .i64 v)) : ldInt G .i64 ⟨b, o⟩ = some v := by
  simp [ldInt, gld, hb, hm, h]
theorem ldF {G : GH} {b o : Nat} {cs : List IV} {e m : Nat} {v : Nat} (hb : G[b]? = some ⟨cs, e, m⟩) (hm : m ≤ 1) (h : cs[o]? = some (.float .f64 v)) : ldFloat G .f64 ⟨b, o⟩ = some v := by
  simp [ldFloat, gld, hb, hm, h]
theorem ldS {G : GH} {b o : Nat} {cs : List IV} {e m : Nat} {a : Option GA} {n : Nat} (hb : G[b]? = some ⟨cs, e, m⟩) (hm : m ≤ 1) (h : cs[o]? = some (.slice a n)) : ldSlice G ⟨b, o⟩ = some (a, n) := by
  simp [ldSlice, gld, hb, hm, h]

theorem Img.w_ld {G : GH} {b c w h : Nat} {ps : List Px} (hI : Img G b c w h ps) : ldInt G .i64 (GA.add ⟨b, 0⟩ 0) = some (w : Int) := by
  obtain ⟨e, hb⟩ := hI.hb
  exact ldI hb (by decide) rfl
theorem Img.h_ld {G : GH} {b c w h : Nat} {ps : List Px} (hI : Img G b c w h ps) : ldInt G .i64 (GA.add ⟨b, 0⟩ 1) = some (h : Int) := by
  obtain ⟨e, hb⟩ := hI.hb
  exact ldI hb (by decide) rfl
theorem Img.s_ld {G : GH} {b c w h : Nat} {ps : List Px} (hI : Img G b c w h ps) : ldSlice G (GA.add ⟨b, 0⟩ 2) = some (some ⟨c, 0⟩, w * h) := by
  obtain ⟨e, hb⟩ := hI.hb
  exact ldS hb (by decide) rfl

/-- Is the place within? -/
def inB (w h : Nat) (x y : Int) : Bool := decide (0 ≤ x ∧ x < w ∧ 0 ≤ y ∧ y < h)
theorem place {w h : Nat} {x y : Int} (hw : w ≤ 1024) (hh : h ≤ 1024) (hin : inB w h x y = true) : ∃ i : Nat, i < w * h ∧ IntKind.wrap .i64 (IntKind.wrap .i64 (y * w) + x) = (i : Int) ∧ i = y.toNat * w + x.toNat := by
  obtain ⟨h1, h2, h3, h4⟩ := of_decide_eq_true hin
  obtain ⟨u, rfl⟩ : ∃ u : Nat, x = u := ⟨x.toNat, by omega⟩
  obtain ⟨v, rfl⟩ : ∃ v : Nat, y = v := ⟨y.toNat, by omega⟩
  have hv : v * w ≤ 1024 * 1024 := Nat.mul_le_mul (by omega) hw
  have hlt : v * w + u < w * h := by
    have : (v + 1) * w ≤ h * w := Nat.mul_le_mul_right _ (by omega)
    rw [Nat.add_mul, Nat.one_mul, Nat.mul_comm h w] at this
    omega
  refine ⟨v * w + u, hlt, ?_, by simp⟩
  rw [← Int.natCast_mul, wrapI (v := ((v * w : Nat) : Int)) (by omega) (by omega), wrapI (by omega) (by omega)]
  omega

section
variable {R : Type}
abbrev SInside (O : Ora R) : Prop := ∀ (G : GH) (b c w h : Nat) (ps : List Px), Img G b c w h ps → ∀ (x y : Int) (k : IV → GH → Option R), O fn_zx1 [.ptr (some ⟨b, 0⟩), .int .i64 x, .int .i64 y] G k = k (.bool (inB w h x y)) G
abbrev SSize (O : Ora R) : Prop := ∀ (G : GH) (b c w h : Nat) (ps : List Px), Img G b c w h ps → ∀ (k : IV → GH → Option R), O fn_zj1 [.ptr (some ⟨b, 0⟩)] G k = k (.tuple [.int .i64 w, .int .i64 h]) G
abbrev SAt (O : Ora R) : Prop := ∀ (G : GH) (b c w h : Nat) (ps : List Px), Img G b c w h ps → ∀ (x y : Int) (k : IV → GH → Option R), O fn_zk1 [.ptr (some ⟨b, 0⟩), .int .i64 x, .int .i64 y] G k =
  k (.tuple [.agg (pcs (if inB w h x y = true then ps.getD (y.toNat * w + x.toNat) Px.zero else Px.zero)), .int .i64 (if inB w h x y = true then 0 else 2)]) G
abbrev SSet (O : Ora R) : Prop := ∀ (G : GH) (b c w h : Nat) (ps : List Px), Img G b c w h ps → ∀ (x y : Int) (p : Px) (k : IV → GH → Option R),
  (inB w h x y = false → O fn_zZ [.ptr (some ⟨b, 0⟩), .int .i64 x, .int .i64 y, .agg (pcs p)] G k = k (.int .i64 2) G) ∧
  (inB w h x y = true → ∃ G', Img G' b c w h (ps.set (y.toNat * w + x.toNat) p) ∧ G'.length = G.length ∧ (∀ i, i ≠ c → G'[i]? = G[i]?) ∧ O fn_zZ [.ptr (some ⟨b, 0⟩), .int .i64 x, .int .i64 y, .agg (pcs p)] G k = k (.int .i64 0) G')

theorem inside_body {O : Ora R} {F : Nat} {G : GH} {b c w h : Nat} {ps : List Px} (hI : Img G b c w h ps) (x y : Int) (k : IV → GH → Option R) : bodyC Try.prog O [777777] F Try.f64 [.ptr (some ⟨b, 0⟩), .int .i64 x, .int .i64 y] G k = k (.bool (inB w h x y)) G := by
  rw [e_zx1, hI.w_ld, hI.h_ld, Option.bind_some, Option.bind_some]
  unfold inB
  by_cases h1 : x ≥ 0
  · rw [decide_eq_true h1, cond_true]
    by_cases h2 : x < (w : Int)
    · rw [decide_eq_true h2, cond_true]
      by_cases h3 : y ≥ 0
      · rw [decide_eq_true h3, cond_true]
        congr 2
        rw [decide_eq_decide]
        omega
      · rw [decide_eq_false h3, cond_false, decide_eq_false (by omega)]
    · rw [decide_eq_false h2, cond_false, decide_eq_false (by omega)]
  · rw [decide_eq_false h1, cond_false, decide_eq_false (by omega)]
theorem wInside {F n : Nat} (hn : 1 ≤ n) : SInside (runC (R := R) Try.prog lo0 F n) := by
  obtain ⟨n, rfl⟩ : ∃ j, n = j + 1 := ⟨n - 1, by omega⟩
  intro G b c w h ps hI x y k
  rw [r_zx1]
  exact inside_body hI x y k
theorem size_body {O : Ora R} {F : Nat} {G : GH} {b c w h : Nat} {ps : List Px} (hI : Img G b c w h ps) (k : IV → GH → Option R) : bodyC Try.prog O [777777] F Try.f46 [.ptr (some ⟨b, 0⟩)] G k = k (.tuple [.int .i64 w, .int .i64 h]) G := by
  rw [e_zj1, hI.w_ld, hI.h_ld, Option.bind_some, Option.bind_some]
theorem wSize {F n : Nat} (hn : 1 ≤ n) : SSize (runC (R := R) Try.prog lo0 F n) := by
  obtain ⟨n, rfl⟩ : ∃ j, n = j + 1 := ⟨n - 1, by omega⟩
  intro G b c w h ps hI k
  rw [r_zj1]
  exact size_body hI k

theorem at_body {O : Ora R} {F : Nat} (hIn : SInside O) {G : GH} {b c w h : Nat} {ps : List Px} (hI : Img G b c w h ps) (x y : Int) (k : IV → GH → Option R) : bodyC Try.prog O [6, 8, 777777] F Try.f47 [.ptr (some ⟨b, 0⟩), .int .i64 x, .int .i64 y] G k =
    k (.tuple [.agg (pcs (if inB w h x y = true then ps.getD (y.toNat * w + x.toNat) Px.zero else Px.zero)), .int .i64 (if inB w h x y = true then 0 else 2)]) G := by
  rw [e_zk1, hIn G b c w h ps hI, ivB]
  cases hin : inB w h x y with
  | false => rw [Bool.not_false, cond_true, if_neg (by simp), if_neg (by simp)]; rfl
  | true =>
    obtain ⟨i, hi1, hi2, hi3⟩ := place hI.hw hI.hh hin
    rw [Bool.not_true, cond_false, hI.s_ld, hI.w_ld, Option.bind_some, Option.bind_some, if_pos rfl, if_pos rfl, hi2, ← hi3]
    have hidx : idx? (some (⟨c, 0⟩ : GA)) (w * h) (i : Int) 8 = some ⟨c, i * 8⟩ := by
      simp only [idx?]
      rw [if_pos (by omega), Int.toNat_natCast]
      simp [GA.add]
    rw [hidx, Option.bind_some]
    obtain ⟨e, hc⟩ := hI.hc
    have hlt : i < ps.length := by rw [hI.len]; exact hi1
    have hp : ps[i]? = some (ps.getD i Px.zero) := by rw [List.getD_eq_getElem?_getD, List.getElem?_eq_getElem hlt]; rfl
    have hf : ∀ j v, j < 8 → (pcs (ps.getD i Px.zero))[j]? = some (.float .f64 v) → ldFloat G .f64 (GA.add ⟨c, i * 8⟩ j) = some v := fun j v hj hv => ldF hc (by decide) ((flatP_at hp j hj).trans hv)
    have hn : ∀ j v, j < 8 → (pcs (ps.getD i Px.zero))[j]? = some (.int .i64 v) → ldInt G .i64 (GA.add ⟨c, i * 8⟩ j) = some v := fun j v hj hv => ldI hc (by decide) ((flatP_at hp j hj).trans hv)
    rw [hf 0 _ (by decide) rfl, hf 1 _ (by decide) rfl, hf 2 _ (by decide) rfl, hf 3 _ (by decide) rfl, hf 4 _ (by decide) rfl, hf 5 _ (by decide) rfl, hn 6 _ (by decide) rfl, hn 7 _ (by decide) rfl]
    rfl
theorem wAt {F n : Nat} (hn : 2 ≤ n) : SAt (runC (R := R) Try.prog lo0 F n) := by
  obtain ⟨n, rfl⟩ : ∃ j, n = j + 2 := ⟨n - 2, by omega⟩
  intro G b c w h ps hI x y k
  rw [r_zk1]
  exact at_body (wInside (by omega)) hI x y k

theorem set_body {O : Ora R} {F : Nat} (hIn : SInside O) {G : GH} {b c w h : Nat} {ps : List Px} (hI : Img G b c w h ps) (x y : Int) (p : Px) (k : IV → GH → Option R) :
    (inB w h x y = false → bodyC Try.prog O [7, 777777] F Try.f48 [.ptr (some ⟨b, 0⟩), .int .i64 x, .int .i64 y, .agg (pcs p)] G k = k (.int .i64 2) G) ∧
    (inB w h x y = true → ∃ G', Img G' b c w h (ps.set (y.toNat * w + x.toNat) p) ∧ G'.length = G.length ∧ (∀ i, i ≠ c → G'[i]? = G[i]?) ∧ bodyC Try.prog O [7, 777777] F Try.f48 [.ptr (some ⟨b, 0⟩), .int .i64 x, .int .i64 y, .agg (pcs p)] G k = k (.int .i64 0) G') := by
  refine ⟨fun hin => ?_, fun hin => ?_⟩
  · unfold pcs
    rw [e_zZ, hIn G b c w h ps hI, ivB, hin, Bool.not_false, cond_true]
  · obtain ⟨i, hi1, hi2, hi3⟩ := place hI.hw hI.hh hin
    obtain ⟨e, hc⟩ := hI.hc
    obtain ⟨eb, hb⟩ := hI.hb
    have hlt : i < ps.length := by rw [hI.len]; exact hi1
    have hcl : c < G.length := by
      rcases Nat.lt_or_ge c G.length with h' | h'
      · exact h'
      · rw [List.getElem?_eq_none h'] at hc; cases hc
    refine ⟨G.set c ⟨flatP (ps.set i p), e, 1⟩, ?_, by simp, fun j hj => List.getElem?_set_ne (fun h' => hj h'.symm), ?_⟩
    · rw [← hi3]
      exact ⟨⟨eb, by rw [List.getElem?_set_ne (fun h' => hI.ne h'.symm)]; exact hb⟩, ⟨e, by rw [List.getElem?_set_self hcl]⟩, hI.ne, by rw [List.length_set]; exact hI.len, hI.hw, hI.hh⟩
    · have hidx : idx? (some (⟨c, 0⟩ : GA)) (w * h) (i : Int) 8 = some ⟨c, i * 8⟩ := by
        simp only [idx?]
        rw [if_pos (by omega), Int.toNat_natCast]
        simp [GA.add]
      have hst : gst G ⟨c, i * 8⟩ (pcs p) = some (G.set c ⟨flatP (ps.set i p), e, 1⟩) := by
        unfold gst
        simp only [hc]
        rw [if_pos ⟨by trivial, by rw [pcs_length, flatP_length]; omega⟩, flatP_set p hlt]
      unfold pcs at hst ⊢
      rw [e_zZ, hIn G b c w h ps hI, ivB, hin, Bool.not_true, cond_false, hI.s_ld, hI.w_ld, Option.bind_some, Option.bind_some, hi2, hidx, Option.bind_some, hst, Option.bind_some]
theorem wSet {F n : Nat} (hn : 2 ≤ n) : SSet (runC (R := R) Try.prog lo0 F n) := by
  obtain ⟨n, rfl⟩ : ∃ j, n = j + 2 := ⟨n - 2, by omega⟩
  intro G b c w h ps hI x y p k
  obtain ⟨h1, h2⟩ := set_body (F := F) (wInside (R := R) (F := F) (n := n + 1) (by omega)) hI x y p k
  unfold pcs at h1 h2 ⊢
  refine ⟨fun hin => ?_, fun hin => ?_⟩
  · rw [r_zZ]; exact h1 hin
  · obtain ⟨G', a1, a2, a3, a4⟩ := h2 hin
    exact ⟨G', a1, a2, a3, by rw [r_zZ]; exact a4⟩
end
end Go.LI.Film
