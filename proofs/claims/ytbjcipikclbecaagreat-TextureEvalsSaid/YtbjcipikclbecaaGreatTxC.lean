/- A picture of one sample as a texture: what each function gives. -/
import Derived.Test.YtbjcipikclbecaaGreatTxB
import Derived.Test.YtbjcipikclbecaaGreatRdPt2
import Derived.Test.YtbjcipikclbecaaGreatHpA
set_option linter.unusedVariables false
set_option linter.unusedSimpArgs false
set_option maxRecDepth 100000
set_option exponentiation.threshold 2500
namespace Go.LI.Film
open Go.Proofs.YtbjcipikclbecaaGreat Go Go.Proofs Go.LI Go.LI.Fl
def BL (G : GH) (b : Nat) (cs : List IV) (e : Nat) : Prop := ∃ md, md ≤ 1 ∧ G[b]? = some ⟨cs, e, md⟩
theorem BL.gld {G : GH} {b e : Nat} {cs : List IV} (h : BL G b cs e) (i : Nat) : gld G ⟨b, i⟩ = cs[i]? := by
  obtain ⟨md, h1, h2⟩ := h
  simp [Go.LI.gld, h1, h2]
theorem BL.keep {G G' : GH} {b e base : Nat} {cs : List IV} (h : BL G b cs e) (k : z9 base G G') (hb : b < base) : BL G' b cs e := by
  obtain ⟨md, h1, h2⟩ := h
  exact ⟨md, h1, by rw [k.2 b hb]; exact h2⟩
theorem BL.lt {G : GH} {b e : Nat} {cs : List IV} (h : BL G b cs e) : b < G.length := by
  obtain ⟨md, h1, h2⟩ := h
  exact (List.getElem?_eq_some_iff.1 h2).1
theorem BL.freeze {G : GH} {b e : Nat} {cs : List IV} (h : BL G b cs e) : BL (zj G) b cs e := by
  obtain ⟨md, h1, h2⟩ := h
  exact ⟨0, by decide, by simp [zj, h2, h1]⟩
theorem BL.new (G : GH) (cs : List IV) (e : Nat) : BL (zac G cs e) G.length cs e := ⟨1, by decide, zhr G cs e⟩
theorem BL.cut {G : GH} {b e o : Nat} {cs : List IV} (h : BL G b cs e) : ztU G (some ⟨b, o⟩) e = true := by
  obtain ⟨md, h1, h2⟩ := h
  simp [ztU, h1, h2]
theorem BL.grd {G : GH} {b e n : Nat} {cs : List IV} (h : BL G b cs e) (hn : cs.length = n) : grd G ⟨b, 0⟩ n = some cs := by
  obtain ⟨md, h1, h2⟩ := h
  subst hn
  simp [Go.LI.grd, h1, h2]
theorem BL.flo {G : GH} {b e i x : Nat} {cs : List IV} (h : BL G b cs e) (hi : cs[i]? = some (fL x)) : zg G .f64 ⟨b, i⟩ = some x := by
  simp [zg, h.gld, hi]
theorem BL.int {G : GH} {b e i : Nat} {x : Int} {cs : List IV} (h : BL G b cs e) (hi : cs[i]? = some (iL x)) : z0 G .i64 ⟨b, i⟩ = some x := by
  simp [z0, h.gld, hi]
theorem BL.boo {G : GH} {b e i : Nat} {x : Bool} {cs : List IV} (h : BL G b cs e) (hi : cs[i]? = some (.bool x)) : zfZ G ⟨b, i⟩ = some x := by
  simp [zfZ, h.gld, hi]
theorem BL.sli {G : GH} {b e i n : Nat} {a : Option GA} {cs : List IV} (h : BL G b cs e) (hi : cs[i]? = some (.slice a n)) : zci G ⟨b, i⟩ = some (a, n) := by
  simp [zci, h.gld, hi]
theorem zGE {G : GH} {b e : Nat} {cs vs : List IV} (h : G[b]? = some ⟨cs, e, 1⟩) (hl : vs.length = cs.length) : ∃ G', gst G ⟨b, 0⟩ vs = some G' ∧ G'[b]? = some ⟨vs, e, 1⟩ ∧ (∀ i, i ≠ b → G'[i]? = G[i]?) ∧ G'.length = G.length := by
  have hb := (List.getElem?_eq_some_iff.1 h).1
  refine ⟨G.set b ⟨zcq cs 0 vs, e, 1⟩, ?_, ?_, ?_, by simp⟩
  · simp only [gst, h]
    rw [if_pos (by simp; omega)]
  · rw [List.getElem?_set, if_pos rfl, if_pos hb]
    congr 2
    simp [zcq, hl]
  · intro i hi
    rw [List.getElem?_set, if_neg (fun h => hi h.symm)]
theorem zG0 (b i : Nat) : GA.add ⟨b, 0⟩ i = ⟨b, i⟩ := by simp [GA.add]
def ts (s : Nat) : List IV := [iL 4, fL 0, fL 0, fL 0, iL 0, iL 0, fL s, iL 0]
section
variable {R : Type} {O : Ora R}
theorem zGl {β : Type} (a0 a1 a2 a3 a4 a5 : Nat) (f : Nat → Nat → Nat → Nat → Nat → Nat → Option β) : ((zr 6 (.agg [fL a0, fL a1, fL a2, fL a3, fL a4, fL a5])).bind fun c => (zc .f64 (c.getD 0 za)).bind fun x0 => (zc .f64 (c.getD 1 za)).bind fun x1 => (zc .f64 (c.getD 2 za)).bind fun x2 => (zc .f64 (c.getD 3 za)).bind fun x3 => (zc .f64 (c.getD 4 za)).bind fun x4 => (zc .f64 (c.getD 5 za)).bind fun x5 => f x0 x1 x2 x3 x4 x5) = f a0 a1 a2 a3 a4 a5 := rfl
theorem zJy {β : Type} (a0 a1 a2 : Nat) (f : Nat → Nat → Nat → Option β) : ((zr 3 (.agg [fL a0, fL a1, fL a2])).bind fun c => (zc .f64 (c.getD 0 za)).bind fun x0 => (zc .f64 (c.getD 1 za)).bind fun x1 => (zc .f64 (c.getD 2 za)).bind fun x2 => f x0 x1 x2) = f a0 a1 a2 := rfl
theorem zJg {β : Type} (a0 a1 a2 a3 a4 a5 : Nat) (a6 : Int) (f : Nat → Nat → Nat → Nat → Nat → Nat → Int → Option β) : ((zr 7 (.agg [fL a0, fL a1, fL a2, fL a3, fL a4, fL a5, iL a6])).bind fun c => (zc .f64 (c.getD 0 za)).bind fun x0 => (zc .f64 (c.getD 1 za)).bind fun x1 => (zc .f64 (c.getD 2 za)).bind fun x2 => (zc .f64 (c.getD 3 za)).bind fun x3 => (zc .f64 (c.getD 4 za)).bind fun x4 => (zc .f64 (c.getD 5 za)).bind fun x5 => (zk .i64 (c.getD 6 za)).bind fun x6 => f x0 x1 x2 x3 x4 x5 x6) = f a0 a1 a2 a3 a4 a5 a6 := rfl
theorem zBN {β : Type} (a : Option GA) (b : Int) (f : Option GA → Int → Option β) : ((zY 2 (.tuple [.ptr a, iL b])).bind fun c => (zEt (c.getD 0 za)).bind fun x => (zk .i64 (c.getD 1 za)).bind fun y => f x y) = f a b := rfl
theorem zyW : fin 4607182418800017408 = true := by decide +kernel
end
end Go.LI.Film
