/- Mixes: the list's check, what is needed, Eval, and the law. -/
import Derived.Test.YtbjcipikclbecaaGreatTxQ
set_option linter.unusedVariables false
set_option linter.unusedSimpArgs false
set_option maxRecDepth 100000
set_option exponentiation.threshold 2500
namespace Go.LI.Film
open Go.Proofs.YtbjcipikclbecaaGreat Go Go.Proofs Go.LI Go.LI.Fl
def RP {α : Type} (f : α → List IV) (G : GH) (a : Option GA) (n : Nat) (ps : List α) : Prop := ps.length = n ∧ (0 < n → ∃ b e rest, a = some ⟨b, 0⟩ ∧ BL G b ((ps.map f).flatten ++ rest) e)
theorem RP.keep {α : Type} {f : α → List IV} {G G' : GH} {a : Option GA} {n base : Nat} {ps : List α} (h : RP f G a n ps) (k : z9 base G G') (hb : G.length ≤ base) : RP f G' a n ps := by
  refine ⟨h.1, fun hn => ?_⟩
  obtain ⟨b, e, rest, h1, h2⟩ := h.2 hn
  exact ⟨b, e, rest, h1, h2.keep k (by have := h2.lt; omega)⟩
theorem zvd {G : GH} {a : Option GA} {n i : Nat} {ts : List Tx} {t : Tx} (h : RP tcs G a n ts) (hi : ts[i]? = some t) : ∃ p, zbj a n (i : Int) 8 = some p ∧ z0 G .i64 (GA.add p 0) = some t.k ∧ zg G .f64 (GA.add p 1) = some t.c0 ∧ zg G .f64 (GA.add p 2) = some t.c1 ∧ zg G .f64 (GA.add p 3) = some t.c2 ∧
    z0 G .i64 (GA.add p 4) = some t.a ∧ z0 G .i64 (GA.add p 5) = some t.b ∧ zg G .f64 (GA.add p 6) = some t.s ∧ z0 G .i64 (GA.add p 7) = some t.im := by
  have hl := (List.getElem?_eq_some_iff.1 hi).1
  obtain ⟨b, e, rest, rfl, hB⟩ := h.2 (by have := h.1; omega)
  have hn := h.1
  have at' : ∀ j, j < 8 → ((ts.map tcs).flatten ++ rest)[i * 8 + j]? = (tcs t)[j]? := fun j hj => (List.getElem?_append_left (by rw [zfU zqE]; omega)).trans (zny zqE hi j hj)
  refine ⟨⟨b, i * 8⟩, ?_, ?_, ?_, ?_, ?_, ?_, ?_, ?_, ?_⟩
  · simp only [zbj, GA.add, Int.toNat_natCast, Nat.zero_add]
    rw [if_pos ⟨by omega, by omega⟩]
  · exact hB.int (i := i * 8 + 0) (at' 0 (by omega))
  · exact hB.flo (i := i * 8 + 1) (at' 1 (by omega))
  · exact hB.flo (i := i * 8 + 2) (at' 2 (by omega))
  · exact hB.flo (i := i * 8 + 3) (at' 3 (by omega))
  · exact hB.int (i := i * 8 + 4) (at' 4 (by omega))
  · exact hB.int (i := i * 8 + 5) (at' 5 (by omega))
  · exact hB.flo (i := i * 8 + 6) (at' 6 (by omega))
  · exact hB.int (i := i * 8 + 7) (at' 7 (by omega))
section
variable {R : Type} {O : Ora R}
theorem zEd (hC : zH0 O) {a : Option GA} {n : Nat} {ts : List Tx} {m : Nat} (pa : Option GA) (hw : ∀ t ∈ ts, t.w) (hn : n < 2 ^ 60) : ∀ (r i : Nat) (G : GH), i + r = n → RP tcs G a n ts → ∃ G', z9 G.length G G' ∧ ∀ (kk : IV → GH → Option R) (j : Nat), r < j →
    zI O (zaB O kk) (za4 O kk) j pa m a n (n : Int) (i : Int) G = kk (.tuple [iL (zov (m : Int) (ts.drop i) i).1, iL (zov (m : Int) (ts.drop i) i).2]) G' := by
  intro r
  induction r with
  | zero =>
    intro i G hi hT
    refine ⟨G, z9.refl _ _, fun kk j hj => ?_⟩
    obtain ⟨j, rfl⟩ : ∃ j', j = j' + 1 := ⟨j - 1, by omega⟩
    have hlen := hT.1
    rw [List.drop_eq_nil_of_le (by omega)]
    simp only [zI, zcR]
    rw [decide_eq_false (by omega), cond_false]
    rfl
  | succ r ih =>
    intro i G hi hT
    have hlen := hT.1
    have hi' : i < ts.length := by omega
    have hg := List.getElem?_eq_getElem hi'
    obtain ⟨p, l0, l1, l2, l3, l4, l5, l6, l7, l8⟩ := zvd hT hg
    have hc := hC ts[i] (i : Int) (m : Int) (hw _ (List.getElem_mem hi')) G
    unfold tcs at hc
    obtain ⟨G', k1, h1⟩ := ih (i + 1) (zac G [iL i] 3) (by omega) (hT.keep (zaM G _ _ (Nat.le_refl _)) (Nat.le_refl _))
    have kn : z9 G.length G (zac G [iL i] 3) := zaM G _ _ (Nat.le_refl _)
    have step : ∀ (kk : IV → GH → Option R) (j : Nat), zI O (zaB O kk) (za4 O kk) (j + 1) pa m a n (n : Int) (i : Int) G =
        bif chk ts[i] i m != 0 then kk (.tuple [iL (i : Int), iL (chk ts[i] i m)]) (zac G [iL i] 3) else zI O (zaB O kk) (za4 O kk) j pa m a n (n : Int) ((i + 1 : Nat) : Int) (zac G [iL i] 3) := by
      intro kk j
      simp only [zI, zcR]
      rw [decide_eq_true (by omega), cond_true, l0, Option.bind_some, l1, Option.bind_some, l2, Option.bind_some, l3, Option.bind_some, l4, Option.bind_some, l5, Option.bind_some, l6, Option.bind_some, l7, Option.bind_some, l8, Option.bind_some, hc, ivI, zF (by omega) (by omega), show (i : Int) + 1 = ((i + 1 : Nat) : Int) by omega]
      rfl
    rw [zyh hg]
    cases hch : (chk ts[i] i m != 0) with
    | true =>
      refine ⟨_, kn, fun kk j hj => ?_⟩
      obtain ⟨j, rfl⟩ : ∃ j', j = j' + 1 := ⟨j - 1, by omega⟩
      rw [step, hch, cond_true]
      rfl
    | false =>
      refine ⟨G', kn.trans (k1.mono (by rw [zp]; omega)), fun kk j hj => ?_⟩
      obtain ⟨j, rfl⟩ : ∃ j', j = j' + 1 := ⟨j - 1, by omega⟩
      rw [step, hch, cond_false, h1 kk j (by omega)]
      rfl
abbrev zJL (O : Ora R) : Prop := ∀ (a pa : Option GA) (n m : Nat) (ts : List Tx) (G : GH), RP tcs G a n ts → (∀ t ∈ ts, t.w) → n ≤ 200 → ∃ G', z9 G.length G G' ∧ ∀ (k : IV → GH → Option R), O zgl [.slice a n, .slice pa m] G k = k (.tuple [iL (zov (m : Int) ts 0).1, iL (zov (m : Int) ts 0).2]) G'
theorem zDH (hC : zH0 O) {F : Nat} (hF : 1000 ≤ F) (a pa : Option GA) (n m : Nat) (ts : List Tx) (G : GH) (hT : RP tcs G a n ts) (hw : ∀ t ∈ ts, t.w) (hn : n ≤ 200) : ∃ G', z9 G.length G G' ∧ ∀ (k : IV → GH → Option R), zf Tryz.prog O zA2 F Tryz.f15 [.slice a n, .slice pa m] G k = k (.tuple [iL (zov (m : Int) ts 0).1, iL (zov (m : Int) ts 0).2]) G' := by
  obtain ⟨G', k1, h1⟩ := zEd hC (m := m) pa hw (by omega) n 0 G (by omega) hT
  refine ⟨G', k1, fun k => ?_⟩
  rw [ztF, zhv, zcS]
  have := h1 k F (by omega)
  rw [List.drop_zero] at this
  exact this
theorem zEk (x : Nat) : sv (zw x) = sv x := by
  unfold zw
  split
  · rename_i h
    rw [zzB]
    unfold sv
    rw [h, (zaE dbl).2 rfl]
    cases sg dbl x <;> rfl
  · rfl
theorem Scl.flt {s : Nat} (h : Scl s) : flt .f64 s (0 : Nat) = false := by
  have h1 := h.lo
  rw [zEk] at h1
  rw [zug (zeD h.w h.f) zDr, zzB]
  exact decide_eq_false (by omega)
theorem Scl.fgt {s : Nat} (h : Scl s) : fgt .f64 s (4607182418800017408 : Nat) = false := by
  have h1 := h.hi
  rw [zEk] at h1
  rw [ztL (zeD h.w h.f) zzv.1, zzv.2.1]
  exact decide_eq_false (by omega)
theorem zAc {G : GH} {b o e : Nat} {cs vs : List IV} (h : G[b]? = some ⟨cs, e, 1⟩) (hl : o + vs.length ≤ cs.length) : ∃ G', gst G ⟨b, o⟩ vs = some G' ∧ G'[b]? = some ⟨zcq cs o vs, e, 1⟩ ∧ (∀ i, i ≠ b → G'[i]? = G[i]?) ∧ G'.length = G.length := by
  have hb := (List.getElem?_eq_some_iff.1 h).1
  refine ⟨G.set b ⟨zcq cs o vs, e, 1⟩, ?_, ?_, ?_, by simp⟩
  · simp only [gst, h]
    rw [if_pos ⟨by trivial, hl⟩]
  · rw [List.getElem?_set, if_pos rfl, if_pos hb]
  · intro i hi
    rw [List.getElem?_set, if_neg (fun h => hi h.symm)]
end
end Go.LI.Film
