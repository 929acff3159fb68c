/- Drops: dropped. -/
import Derived.Test.YtmhoddmenfondaaRdD1
namespace Go.LI.Film
open Go.Proofs.Ytmhoddmenfondaa Go Go.Proofs Go.LI Go.LI.Fl
set_option linter.unusedVariables false
set_option linter.unusedSimpArgs false
set_option maxRecDepth 100000

/-- The document's pixels, a slice of their own. -/
def Want (G : GH) (q : Nat) (ps : List Px) : Prop := ∃ e, G[q]? = some ⟨flatP ps, e, 1⟩
/-- A drop more. -/
def dropPx (w h : Nat) (ps : List Px) (d : Drp) : List Px := if inB w h d.x d.y = true then ps.set (d.y.toNat * w + d.x.toNat) (addPx (ps.getD (d.y.toNat * w + d.x.toNat) Px.zero) d.a (!d.dim)) else ps
def dropsPx (w h : Nat) (ps : List Px) (ds : List Drp) : List Px := ds.foldl (dropPx w h) ps

theorem PX_open {β : Type} (p : Px) (f : Nat → Nat → Nat → Nat → Nat → Nat → Int → Int → Option β) :
    ((ivAgg 8 (.agg (pcs p))).bind fun c5 => (ivFloat .f64 (c5.getD 0 undefI)).bind fun x6 => (ivFloat .f64 (c5.getD 1 undefI)).bind fun x7 => (ivFloat .f64 (c5.getD 2 undefI)).bind fun x8 => (ivFloat .f64 (c5.getD 3 undefI)).bind fun x9 => (ivFloat .f64 (c5.getD 4 undefI)).bind fun x10 => (ivFloat .f64 (c5.getD 5 undefI)).bind fun x11 => (ivInt .i64 (c5.getD 6 undefI)).bind fun x12 => (ivInt .i64 (c5.getD 7 undefI)).bind fun x13 => f x6 x7 x8 x9 x10 x11 x12 x13) =
      f (p.a 0) (p.a 1) (p.a 2) (p.a 3) (p.a 4) (p.a 5) p.c p.d := rfl

section
variable {R : Type}
/-- The sample at a place: film and document alike. -/
theorem drop_one {O : Ora R} (hAdd : SFAdd O) (hR : SRPixAdd O) (Kret : Option GA → Option GA → Nat → Bool → GH → Option R) (KN : Int → Int → Option GA → Nat → Option GA → Option GA → Nat → Int → GH → Option R) {G : GH} {f b c w h q : Nat} {ps : List Px} (hI : Flm G f b c w h ps) (hW : Want G q ps) (hq1 : q ≠ f) (hq2 : q ≠ b) (hq3 : q ≠ c) (d : Drp) (hd : W6 d.a) (sa : Option GA) (sn : Nat) (i : Int) :
    ∃ G', Flm G' f b c w h (dropPx w h ps d) ∧ Want G' q (dropPx w h ps d) ∧ G'.length = G.length ∧ (∀ j, j ≠ c → j ≠ q → G'[j]? = G[j]?) ∧
      a_zg_3N O Kret KN w h sa sn (some ⟨f, 0⟩) (some ⟨q, 0⟩) (w * h) i (inB w h d.x d.y) d.x d.y (d.a 0) (d.a 1) (d.a 2) (d.a 3) (d.a 4) (d.a 5) d.dim (d.a 0) (d.a 1) (d.a 2) (d.a 3) (d.a 4) (d.a 5) (!d.dim) none 0 G = KN w h sa sn (some ⟨f, 0⟩) (some ⟨q, 0⟩) (w * h) i G' := by
  simp only [a_zg_3N]
  unfold dropPx
  cases hin : inB w h d.x d.y with
  | false =>
    have hA := fun k => (hAdd G f b c w h ps hI d.x d.y d.a (!d.dim) none 0 hd k).1 hin
    unfold SM at hA
    rw [if_neg (by simp)]
    refine ⟨G, hI, hW, rfl, fun _ _ _ => rfl, ?_⟩
    rw [hA, ivI, show (((2 : Int) == 0) == false) = true from rfl, Bool.not_true, cond_false, cond_false]
  | true =>
    rw [if_pos rfl]
    obtain ⟨m, hm1, hm2, hm3⟩ := place hI.img.hw hI.img.hh hin
    rw [← hm3]
    obtain ⟨p, hp⟩ : ∃ p, p = ps.getD m Px.zero := ⟨_, rfl⟩
    rw [← hp]
    have hpw : W6 p.a := by rw [hp]; exact getD_w hI.wide m
    have hlen := hI.img.len
    have hlt : m < ps.length := by rw [hlen]; exact hm1
    have hps : ps[m]? = some p := by rw [hp, List.getD_eq_getElem?_getD, List.getElem?_eq_getElem hlt]; rfl
    obtain ⟨e, hw⟩ := hW
    -- what is done behind the film's Add
    have rest : ∀ G1 : GH, G1[q]? = some ⟨flatP ps, e, 1⟩ → ∃ G', G' = G1.set q ⟨flatP (ps.set m (addPx p d.a (!d.dim))), e, 1⟩ ∧ q < G1.length ∧
        ((idx? (some (⟨q, 0⟩ : GA)) (w * h) (IntKind.wrap .i64 ((IntKind.wrap .i64 (d.y * w)) + d.x)) 8).bind fun a4 =>
          (ldFloat G1 .f64 (GA.add a4 0)).bind fun x5 => (ldFloat G1 .f64 (GA.add a4 1)).bind fun x6 => (ldFloat G1 .f64 (GA.add a4 2)).bind fun x7 => (ldFloat G1 .f64 (GA.add a4 3)).bind fun x8 => (ldFloat G1 .f64 (GA.add a4 4)).bind fun x9 => (ldFloat G1 .f64 (GA.add a4 5)).bind fun x10 => (ldInt G1 .i64 (GA.add a4 6)).bind fun x11 => (ldInt G1 .i64 (GA.add a4 7)).bind fun x12 =>
          O fn_zw1 [.agg [.float .f64 x5, .float .f64 x6, .float .f64 x7, .float .f64 x8, .float .f64 x9, .float .f64 x10, .int .i64 x11, .int .i64 x12], .agg [.float .f64 (d.a 0), .float .f64 (d.a 1), .float .f64 (d.a 2), .float .f64 (d.a 3), .float .f64 (d.a 4), .float .f64 (d.a 5), .bool (!d.dim), .slice none 0]] (gfreeze G1) fun v13 _ =>
          (ivAgg 8 v13).bind fun c14 => (ivFloat .f64 (c14.getD 0 undefI)).bind fun x15 => (ivFloat .f64 (c14.getD 1 undefI)).bind fun x16 => (ivFloat .f64 (c14.getD 2 undefI)).bind fun x17 => (ivFloat .f64 (c14.getD 3 undefI)).bind fun x18 => (ivFloat .f64 (c14.getD 4 undefI)).bind fun x19 => (ivFloat .f64 (c14.getD 5 undefI)).bind fun x20 => (ivInt .i64 (c14.getD 6 undefI)).bind fun x21 => (ivInt .i64 (c14.getD 7 undefI)).bind fun x22 =>
          (idx? (some (⟨q, 0⟩ : GA)) (w * h) (IntKind.wrap .i64 ((IntKind.wrap .i64 (d.y * w)) + d.x)) 8).bind fun a23 =>
          (gst G1 a23 [.float .f64 x15, .float .f64 x16, .float .f64 x17, .float .f64 x18, .float .f64 x19, .float .f64 x20, .int .i64 x21, .int .i64 x22]).bind fun G24 =>
          KN w h sa sn (some ⟨f, 0⟩) (some ⟨q, 0⟩) (w * h) i G24) = KN w h sa sn (some ⟨f, 0⟩) (some ⟨q, 0⟩) (w * h) i G' := by
      intro G1 hq
      have hql : q < G1.length := by
        rcases Nat.lt_or_ge q G1.length with h' | h'
        · exact h'
        · rw [List.getElem?_eq_none h'] at hq; cases hq
      refine ⟨_, rfl, hql, ?_⟩
      have hidx : idx? (some (⟨q, 0⟩ : GA)) (w * h) (m : Int) 8 = some ⟨q, m * 8⟩ := by
        simp only [idx?]
        rw [if_pos (by omega), Int.toNat_natCast]
        simp [GA.add]
      have hf : ∀ j v, j < 8 → (pcs p)[j]? = some (.float .f64 v) → ldFloat G1 .f64 (GA.add ⟨q, m * 8⟩ j) = some v := fun j v hj hv => ldF hq (by decide) ((flatP_at hps j hj).trans hv)
      have hn : ∀ j v, j < 8 → (pcs p)[j]? = some (.int .i64 v) → ldInt G1 .i64 (GA.add ⟨q, m * 8⟩ j) = some v := fun j v hj hv => ldI hq (by decide) ((flatP_at hps j hj).trans hv)
      have hr := hR p.a d.a p.c p.d (!d.dim) none 0 hpw hd (gfreeze G1)
      have ho := fun f => PX_open (β := R) (addPx p d.a (!d.dim)) f
      have hst : gst G1 ⟨q, m * 8⟩ (pcs (addPx p d.a (!d.dim))) = some (G1.set q ⟨flatP (ps.set m (addPx p d.a (!d.dim))), e, 1⟩) := by
        unfold gst
        simp only [hq]
        rw [if_pos ⟨by trivial, by rw [pcs_length, flatP_length]; omega⟩, flatP_set _ hlt]
      unfold PX SM at hr
      unfold pcs addPx at ho
      unfold pcs at hst
      rw [hm2, hidx, Option.bind_some, hf 0 _ (by decide) rfl, Option.bind_some, hf 1 _ (by decide) rfl, Option.bind_some, hf 2 _ (by decide) rfl, Option.bind_some, hf 3 _ (by decide) rfl, Option.bind_some, hf 4 _ (by decide) rfl, Option.bind_some, hf 5 _ (by decide) rfl, Option.bind_some, hn 6 _ (by decide) rfl, Option.bind_some, hn 7 _ (by decide) rfl, Option.bind_some, hr, ho, Option.bind_some]
      refine Eq.trans (congrArg (fun z : Option GH => z.bind fun G24 => KN w h sa sn (some ⟨f, 0⟩) (some ⟨q, 0⟩) (w * h) i G24) hst) ?_
      rfl
    obtain ⟨G1, g1, g2, g3, g4⟩ := (hAdd G f b c w h ps hI d.x d.y d.a (!d.dim) none 0 hd _).2 hin
    rw [← hm3, ← hp] at g1
    obtain ⟨G', r1, r2, r3⟩ := rest G1 (by rw [g3 q hq3]; exact hw)
    unfold SM at g4
    refine ⟨G', ?_, ⟨e, by rw [r1, List.getElem?_set_self r2]⟩, by rw [r1, List.length_set, g2], fun j hj1 hj2 => by rw [r1, List.getElem?_set_ne (fun h' => hj2 h'.symm), g3 j hj1], ?_⟩
    · refine g1.keep fun j hj => ?_
      rw [r1, List.getElem?_set_ne]
      rintro rfl
      rcases hj with h' | h' | h'
      · exact hq1 h'
      · exact hq2 h'
      · exact hq3 h'
    · refine g4.trans ?_
      rw [ivI, show (((0 : Int) == 0) == true) = true from rfl, Bool.not_true, cond_false, cond_true]
      exact r3
end
end Go.LI.Film
