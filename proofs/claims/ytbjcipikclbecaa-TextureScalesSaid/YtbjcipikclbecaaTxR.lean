/- Mixes: the list's check, what is needed, Eval, and the law. -/
import Derived.Test.YtbjcipikclbecaaTxQ
namespace Go.LI.Film
open Go.Proofs.Ytbjcipikclbecaa Go Go.Proofs Go.LI Go.LI.Fl
set_option linter.unusedVariables false
set_option linter.unusedSimpArgs false
set_option maxRecDepth 100000
set_option exponentiation.threshold 2500

/-- A slice of records at the head of a block. -/
def RP {α : Type} (f : α → List IV) (G : GH) (a : Option GA) (n : Nat) (ps : List α) : Prop := ps.length = n ∧ (0 < n → ∃ b e rest, a = some ⟨b, 0⟩ ∧ BL G b ((ps.map f).flatten ++ rest) e)
theorem RP.keep {α : Type} {f : α → List IV} {G G' : GH} {a : Option GA} {n base : Nat} {ps : List α} (h : RP f G a n ps) (k : Keeps base G G') (hb : G.length ≤ base) : RP f G' a n ps := by
  refine ⟨h.1, fun hn => ?_⟩
  obtain ⟨b, e, rest, h1, h2⟩ := h.2 hn
  exact ⟨b, e, rest, h1, h2.keep k (by have := h2.lt; omega)⟩
theorem tl_ldP {G : GH} {a : Option GA} {n i : Nat} {ts : List Tx} {t : Tx} (h : RP tcs G a n ts) (hi : ts[i]? = some t) : ∃ p, idx? a n (i : Int) 8 = some p ∧ ldInt G .i64 (GA.add p 0) = some t.k ∧ ldFloat G .f64 (GA.add p 1) = some t.c0 ∧ ldFloat G .f64 (GA.add p 2) = some t.c1 ∧ ldFloat G .f64 (GA.add p 3) = some t.c2 ∧
    ldInt G .i64 (GA.add p 4) = some t.a ∧ ldInt G .i64 (GA.add p 5) = some t.b ∧ ldFloat G .f64 (GA.add p 6) = some t.s ∧ ldInt G .i64 (GA.add p 7) = some t.im := by
  have hl := (List.getElem?_eq_some_iff.1 hi).1
  obtain ⟨b, e, rest, rfl, hB⟩ := h.2 (by have := h.1; omega)
  have hn := h.1
  have at' : ∀ j, j < 8 → ((ts.map tcs).flatten ++ rest)[i * 8 + j]? = (tcs t)[j]? := fun j hj => (List.getElem?_append_left (by rw [recs_len tcs_length]; omega)).trans (recs_at tcs_length hi j hj)
  refine ⟨⟨b, i * 8⟩, ?_, ?_, ?_, ?_, ?_, ?_, ?_, ?_, ?_⟩
  · simp only [idx?, GA.add, Int.toNat_natCast, Nat.zero_add]
    rw [if_pos ⟨by omega, by omega⟩]
  · exact hB.int (i := i * 8 + 0) (at' 0 (by omega))
  · exact hB.flo (i := i * 8 + 1) (at' 1 (by omega))
  · exact hB.flo (i := i * 8 + 2) (at' 2 (by omega))
  · exact hB.flo (i := i * 8 + 3) (at' 3 (by omega))
  · exact hB.int (i := i * 8 + 4) (at' 4 (by omega))
  · exact hB.int (i := i * 8 + 5) (at' 5 (by omega))
  · exact hB.flo (i := i * 8 + 6) (at' 6 (by omega))
  · exact hB.int (i := i * 8 + 7) (at' 7 (by omega))

section
variable {R : Type} {O : Ora R}
theorem cl_bodyP (hC : SChp O) {a : Option GA} {n : Nat} {ts : List Tx} {m : Nat} (pa : Option GA) (hw : ∀ t ∈ ts, t.w) (hn : n < 2 ^ 60) : ∀ (r i : Nat) (G : GH), i + r = n → RP tcs G a n ts → ∃ G', Keeps G.length G G' ∧ ∀ (kk : IV → GH → Option R) (j : Nat), r < j →
    l_texture_Check_0 O (a_texture_Check_0ret O kk) (a_texture_Check_00 O kk) j pa m a n (n : Int) (i : Int) G = kk (.tuple [.int .i64 (chkA (m : Int) (ts.drop i) i).1, .int .i64 (chkA (m : Int) (ts.drop i) i).2]) G' := by
  intro r
  induction r with
  | zero =>
    intro i G hi hT
    refine ⟨G, Keeps.refl _ _, fun kk j hj => ?_⟩
    obtain ⟨j, rfl⟩ : ∃ j', j = j' + 1 := ⟨j - 1, by omega⟩
    have hlen := hT.1
    rw [List.drop_eq_nil_of_le (by omega)]
    simp only [l_texture_Check_0, u_texture_Check_0]
    rw [decide_eq_false (by omega), cond_false]
    rfl
  | succ r ih =>
    intro i G hi hT
    have hlen := hT.1
    have hi' : i < ts.length := by omega
    have hg := List.getElem?_eq_getElem hi'
    obtain ⟨p, l0, l1, l2, l3, l4, l5, l6, l7, l8⟩ := tl_ldP hT hg
    have hc := hC ts[i] (i : Int) (m : Int) (hw _ (List.getElem_mem hi')) G
    unfold tcs at hc
    obtain ⟨G', k1, h1⟩ := ih (i + 1) (gnew G [.int .i64 i] 3) (by omega) (hT.keep (keeps_new G _ _ (Nat.le_refl _)) (Nat.le_refl _))
    have kn : Keeps G.length G (gnew G [.int .i64 i] 3) := keeps_new G _ _ (Nat.le_refl _)
    have step : ∀ (kk : IV → GH → Option R) (j : Nat), l_texture_Check_0 O (a_texture_Check_0ret O kk) (a_texture_Check_00 O kk) (j + 1) pa m a n (n : Int) (i : Int) G =
        bif chk ts[i] i m != 0 then kk (.tuple [.int .i64 (i : Int), .int .i64 (chk ts[i] i m)]) (gnew G [.int .i64 i] 3) else l_texture_Check_0 O (a_texture_Check_0ret O kk) (a_texture_Check_00 O kk) j pa m a n (n : Int) ((i + 1 : Nat) : Int) (gnew G [.int .i64 i] 3) := by
      intro kk j
      simp only [l_texture_Check_0, u_texture_Check_0]
      rw [decide_eq_true (by omega), cond_true, l0, Option.bind_some, l1, Option.bind_some, l2, Option.bind_some, l3, Option.bind_some, l4, Option.bind_some, l5, Option.bind_some, l6, Option.bind_some, l7, Option.bind_some, l8, Option.bind_some, hc, ivI, wrapI (by omega) (by omega), show (i : Int) + 1 = ((i + 1 : Nat) : Int) by omega]
      rfl
    rw [chkA_drop hg]
    cases hch : (chk ts[i] i m != 0) with
    | true =>
      refine ⟨_, kn, fun kk j hj => ?_⟩
      obtain ⟨j, rfl⟩ : ∃ j', j = j' + 1 := ⟨j - 1, by omega⟩
      rw [step, hch, cond_true]
      rfl
    | false =>
      refine ⟨G', kn.trans (k1.mono (by rw [gnew_length]; omega)), fun kk j hj => ?_⟩
      obtain ⟨j, rfl⟩ : ∃ j', j = j' + 1 := ⟨j - 1, by omega⟩
      rw [step, hch, cond_false, h1 kk j (by omega)]
      rfl
abbrev SCkq (O : Ora R) : Prop := ∀ (a pa : Option GA) (n m : Nat) (ts : List Tx) (G : GH), RP tcs G a n ts → (∀ t ∈ ts, t.w) → n ≤ 200 → ∃ G', Keeps G.length G G' ∧ ∀ (k : IV → GH → Option R), O fn_texture_Check [.slice a n, .slice pa m] G k = k (.tuple [.int .i64 (chkA (m : Int) ts 0).1, .int .i64 (chkA (m : Int) ts 0).2]) G'
theorem ckq_body (hC : SChp O) {F : Nat} (hF : 1000 ≤ F) (a pa : Option GA) (n m : Nat) (ts : List Tx) (G : GH) (hT : RP tcs G a n ts) (hw : ∀ t ∈ ts, t.w) (hn : n ≤ 200) : ∃ G', Keeps G.length G G' ∧ ∀ (k : IV → GH → Option R), bodyC Try.prog O lo10 F Try.f10 [.slice a n, .slice pa m] G k = k (.tuple [.int .i64 (chkA (m : Int) ts 0).1, .int .i64 (chkA (m : Int) ts 0).2]) G' := by
  obtain ⟨G', k1, h1⟩ := cl_bodyP hC (m := m) pa hw (by omega) n 0 G (by omega) hT
  refine ⟨G', k1, fun k => ?_⟩
  rw [e_texture_Check, u_texture_Check, L_texture_Check_0]
  have := h1 k F (by omega)
  rw [List.drop_zero] at this
  exact this


theorem sv_zw (x : Nat) : sv (zw x) = sv x := by
  unfold zw
  split
  · rename_i h
    rw [sv_zero']
    unfold sv
    rw [h, (mag_zero dbl).2 rfl]
    cases sg dbl x <;> rfl
  · rfl
theorem Scl.flt {s : Nat} (h : Scl s) : flt .f64 s (0 : Nat) = false := by
  have h1 := h.lo
  rw [sv_zw] at h1
  rw [flt_sv (num_fin h.w h.f) num_nil, sv_zero']
  exact decide_eq_false (by omega)
theorem Scl.fgt {s : Nat} (h : Scl s) : fgt .f64 s (4607182418800017408 : Nat) = false := by
  have h1 := h.hi
  rw [sv_zw] at h1
  rw [fgt_sv (num_fin h.w h.f) one_sv.1, one_sv.2.1]
  exact decide_eq_false (by omega)
/-- Cells are written. -/
theorem gst_at {G : GH} {b o e : Nat} {cs vs : List IV} (h : G[b]? = some ⟨cs, e, 1⟩) (hl : o + vs.length ≤ cs.length) : ∃ G', gst G ⟨b, o⟩ vs = some G' ∧ G'[b]? = some ⟨splice cs o vs, e, 1⟩ ∧ (∀ i, i ≠ b → G'[i]? = G[i]?) ∧ G'.length = G.length := by
  have hb := (List.getElem?_eq_some_iff.1 h).1
  refine ⟨G.set b ⟨splice cs o vs, e, 1⟩, ?_, ?_, ?_, by simp⟩
  · simp only [gst, h]
    rw [if_pos ⟨by trivial, hl⟩]
  · rw [List.getElem?_set, if_pos rfl, if_pos hb]
  · intro i hi
    rw [List.getElem?_set, if_neg (fun h => hi h.symm)]
end
end Go.LI.Film
