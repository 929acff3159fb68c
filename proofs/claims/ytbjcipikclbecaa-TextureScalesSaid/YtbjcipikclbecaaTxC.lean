/- A picture of one sample as a texture: what each function gives. -/
import Derived.Test.YtbjcipikclbecaaTxB
import Derived.Test.YtbjcipikclbecaaRdPt2
import Derived.Test.YtbjcipikclbecaaHpA
namespace Go.LI.Film
open Go.Proofs.Ytbjcipikclbecaa Go Go.Proofs Go.LI Go.LI.Fl
set_option linter.unusedVariables false
set_option linter.unusedSimpArgs false
set_option maxRecDepth 100000
set_option exponentiation.threshold 2500

/-- A block that can be read. -/
def BL (G : GH) (b : Nat) (cs : List IV) (e : Nat) : Prop := ∃ md, md ≤ 1 ∧ G[b]? = some ⟨cs, e, md⟩
theorem BL.gld {G : GH} {b e : Nat} {cs : List IV} (h : BL G b cs e) (i : Nat) : gld G ⟨b, i⟩ = cs[i]? := by
  obtain ⟨md, h1, h2⟩ := h
  simp [Go.LI.gld, h1, h2]
theorem BL.keep {G G' : GH} {b e base : Nat} {cs : List IV} (h : BL G b cs e) (k : Keeps base G G') (hb : b < base) : BL G' b cs e := by
  obtain ⟨md, h1, h2⟩ := h
  exact ⟨md, h1, by rw [k.2 b hb]; exact h2⟩
theorem BL.lt {G : GH} {b e : Nat} {cs : List IV} (h : BL G b cs e) : b < G.length := by
  obtain ⟨md, h1, h2⟩ := h
  exact (List.getElem?_eq_some_iff.1 h2).1
theorem BL.freeze {G : GH} {b e : Nat} {cs : List IV} (h : BL G b cs e) : BL (gfreeze G) b cs e := by
  obtain ⟨md, h1, h2⟩ := h
  exact ⟨0, by decide, by simp [gfreeze, h2, h1]⟩
theorem BL.new (G : GH) (cs : List IV) (e : Nat) : BL (gnew G cs e) G.length cs e := ⟨1, by decide, gnew_at G cs e⟩
theorem BL.cut {G : GH} {b e o : Nat} {cs : List IV} (h : BL G b cs e) : gcut G (some ⟨b, o⟩) e = true := by
  obtain ⟨md, h1, h2⟩ := h
  simp [gcut, h1, h2]
theorem BL.grd {G : GH} {b e n : Nat} {cs : List IV} (h : BL G b cs e) (hn : cs.length = n) : grd G ⟨b, 0⟩ n = some cs := by
  obtain ⟨md, h1, h2⟩ := h
  subst hn
  simp [Go.LI.grd, h1, h2]
theorem BL.flo {G : GH} {b e i x : Nat} {cs : List IV} (h : BL G b cs e) (hi : cs[i]? = some (.float .f64 x)) : ldFloat G .f64 ⟨b, i⟩ = some x := by
  simp [ldFloat, h.gld, hi]
theorem BL.int {G : GH} {b e i : Nat} {x : Int} {cs : List IV} (h : BL G b cs e) (hi : cs[i]? = some (.int .i64 x)) : ldInt G .i64 ⟨b, i⟩ = some x := by
  simp [ldInt, h.gld, hi]
theorem BL.boo {G : GH} {b e i : Nat} {x : Bool} {cs : List IV} (h : BL G b cs e) (hi : cs[i]? = some (.bool x)) : ldBool G ⟨b, i⟩ = some x := by
  simp [ldBool, h.gld, hi]
theorem BL.sli {G : GH} {b e i n : Nat} {a : Option GA} {cs : List IV} (h : BL G b cs e) (hi : cs[i]? = some (.slice a n)) : ldSlice G ⟨b, i⟩ = some (a, n) := by
  simp [ldSlice, h.gld, hi]
theorem gst_all {G : GH} {b e : Nat} {cs vs : List IV} (h : G[b]? = some ⟨cs, e, 1⟩) (hl : vs.length = cs.length) : ∃ G', gst G ⟨b, 0⟩ vs = some G' ∧ G'[b]? = some ⟨vs, e, 1⟩ ∧ (∀ i, i ≠ b → G'[i]? = G[i]?) ∧ G'.length = G.length := by
  have hb := (List.getElem?_eq_some_iff.1 h).1
  refine ⟨G.set b ⟨splice cs 0 vs, e, 1⟩, ?_, ?_, ?_, by simp⟩
  · simp only [gst, h]
    rw [if_pos (by simp; omega)]
  · rw [List.getElem?_set, if_pos rfl, if_pos hb]
    congr 2
    simp [splice, hl]
  · intro i hi
    rw [List.getElem?_set, if_neg (fun h => hi h.symm)]
theorem add00 (b i : Nat) : GA.add ⟨b, 0⟩ i = ⟨b, i⟩ := by simp [GA.add]
theorem idx0 (b sz : Nat) : idx? (some (⟨b, 0⟩ : GA)) 1 (0 : Int) sz = some ⟨b, 0⟩ := by simp [idx?, GA.add]

/-- A texture of the first picture. -/
def ts (s : Nat) : List IV := [.int .i64 4, .float .f64 0, .float .f64 0, .float .f64 0, .int .i64 0, .int .i64 0, .float .f64 s, .int .i64 0]

section
variable {R : Type} {O : Ora R}
abbrev SIw (O : Ora R) : Prop := ∀ (x : Int) (G : GH) (k : IV → GH → Option R), O fn_image_wrap [.int .i64 x, .int .i64 1] G k = k (.int .i64 0) G
theorem iw_body {F : Nat} (x : Int) (G : GH) (k : IV → GH → Option R) : bodyC Try.prog O [777777] F Try.f77 [.int .i64 x, .int .i64 1] G k = k (.int .i64 0) G := by
  rw [e_image_wrap, Int.tmod_one]
  rfl
abbrev SINew (O : Ora R) : Prop := ∀ (G : GH) (k : IV → GH → Option R), O fn_image_New_api_Triple [.int .i64 1, .int .i64 1] G k = k (.tuple [.ptr (some ⟨G.length + 1, 0⟩), .int .i64 0]) (gnew (gnew G [.float .f64 0, .float .f64 0, .float .f64 0] 48) [.int .i64 1, .int .i64 1, .slice (some ⟨G.length, 0⟩) 1] 110)
theorem inew_raw {F : Nat} (G : GH) (k : IV → GH → Option R) : bodyC Try.prog O lo76 (F + 1) Try.f76 [.int .i64 1, .int .i64 1] G k = k (.tuple [.ptr (some (gaddr (gnew G [.float .f64 0, .float .f64 0, .float .f64 0] 48))), .int .i64 0]) (gnew (gnew G [.float .f64 0, .float .f64 0, .float .f64 0] 48) [.int .i64 1, .int .i64 1, .slice (some (gaddr G)) 1] 110) := by kernel_rfl
theorem inew_body {F : Nat} (hF : 1 ≤ F) (G : GH) (k : IV → GH → Option R) : bodyC Try.prog O lo76 F Try.f76 [.int .i64 1, .int .i64 1] G k = k (.tuple [.ptr (some ⟨G.length + 1, 0⟩), .int .i64 0]) (gnew (gnew G [.float .f64 0, .float .f64 0, .float .f64 0] 48) [.int .i64 1, .int .i64 1, .slice (some ⟨G.length, 0⟩) 1] 110) := by
  obtain ⟨F, rfl⟩ : ∃ F', F = F' + 1 := ⟨F - 1, by omega⟩
  rw [inew_raw]
  simp only [gaddr, gnew_length]

abbrev SIOf (O : Ora R) : Prop := ∀ (bx c0 c1 c2 : Nat) (G : GH), BL G bx [.float .f64 c0, .float .f64 c1, .float .f64 c2] 48 → ∃ (b1 b2 : Nat) (G' : GH), BL G' b1 [.float .f64 c0, .float .f64 c1, .float .f64 c2] 48 ∧ BL G' b2 [.int .i64 1, .int .i64 1, .slice (some ⟨b1, 0⟩) 1] 110 ∧
  ∀ (k : IV → GH → Option R), O fn_image_Of_api_Triple [.int .i64 1, .int .i64 1, .slice (some ⟨bx, 0⟩) 1] G k = k (.tuple [.ptr (some ⟨b2, 0⟩), .int .i64 0]) G'
theorem iof_body (hN : SINew O) {F : Nat} (bx c0 c1 c2 : Nat) (G : GH) (hB : BL G bx [.float .f64 c0, .float .f64 c1, .float .f64 c2] 48) : ∃ (b1 b2 : Nat) (G' : GH), BL G' b1 [.float .f64 c0, .float .f64 c1, .float .f64 c2] 48 ∧ BL G' b2 [.int .i64 1, .int .i64 1, .slice (some ⟨b1, 0⟩) 1] 110 ∧
    ∀ (k : IV → GH → Option R), bodyC Try.prog O [777777] F Try.f64 [.int .i64 1, .int .i64 1, .slice (some ⟨bx, 0⟩) 1] G k = k (.tuple [.ptr (some ⟨b2, 0⟩), .int .i64 0]) G' := by
  have hbx := hB.lt
  have h1 : (gnew (gnew G [.float .f64 0, .float .f64 0, .float .f64 0] 48) [.int .i64 1, .int .i64 1, .slice (some ⟨G.length, 0⟩) 1] 110)[G.length]? = some ⟨[.float .f64 0, .float .f64 0, .float .f64 0], 48, 1⟩ := by
    rw [gnew_old (by rw [gnew_length]; omega)]; exact gnew_at G _ 48
  have h2 : (gnew (gnew G [.float .f64 0, .float .f64 0, .float .f64 0] 48) [.int .i64 1, .int .i64 1, .slice (some ⟨G.length, 0⟩) 1] 110)[G.length + 1]? = some ⟨[.int .i64 1, .int .i64 1, .slice (some ⟨G.length, 0⟩) 1], 110, 1⟩ := by
    have := gnew_at (gnew G [.float .f64 0, .float .f64 0, .float .f64 0] 48) [.int .i64 1, .int .i64 1, .slice (some ⟨G.length, 0⟩) 1] 110
    rwa [gnew_length] at this
  have kp : Keeps G.length G (gnew (gnew G [.float .f64 0, .float .f64 0, .float .f64 0] 48) [.int .i64 1, .int .i64 1, .slice (some ⟨G.length, 0⟩) 1] 110) := (keeps_new G _ 48 (Nat.le_refl _)).trans (keeps_new _ _ 110 (by rw [gnew_length]; omega))
  have hB2 := hB.keep kp hbx
  have hn := fun k => hN G k
  generalize gnew (gnew G [.float .f64 0, .float .f64 0, .float .f64 0] 48) [.int .i64 1, .int .i64 1, .slice (some ⟨G.length, 0⟩) 1] 110 = G2 at h1 h2 hB2 kp hn
  obtain ⟨G3, g1, g2, g3, g4⟩ := gst_all h1 (vs := [.float .f64 c0, .float .f64 c1, .float .f64 c2]) rfl
  have q2 : BL G2 (G.length + 1) [.int .i64 1, .int .i64 1, .slice (some ⟨G.length, 0⟩) 1] 110 := ⟨1, by decide, h2⟩
  refine ⟨G.length, G.length + 1, G3, ⟨1, by decide, g2⟩, ⟨1, by decide, by rw [g3 _ (by omega)]; exact h2⟩, fun k => ?_⟩
  have t2 : ∀ a b : IV, ivTup 2 (.tuple [a, b]) = some [a, b] := fun _ _ => rfl
  have ip : ∀ a, ivPtr (.ptr a) = some a := fun _ => rfl
  have e1 : ((0 : Int) != 0) = false := by decide
  have hs := q2.sli (i := 2) (a := some ⟨G.length, 0⟩) (n := 1) rfl
  have hg := hB2.grd (n := min 1 1 * 3) rfl
  rw [e_image_Of_api_Triple, hn, t2, Option.bind_some]
  simp only [List.getD_cons_zero, List.getD_cons_succ, ip, Option.bind_some, ivI, e1, cond_false, add00]
  have e2' : (((1 : Nat) : Int) != IntKind.wrap .i64 ((1 : Int) * (1 : Int))) = false := by decide
  rw [e2', cond_false, hs, Option.bind_some]
  simp only [copyK, hg, g1]

abbrev SWp (O : Ora R) : Prop := ∀ (b1 b2 c0 c1 c2 : Nat) (x y : Int) (G : GH) (k : IV → GH → Option R), BL G b1 [.float .f64 c0, .float .f64 c1, .float .f64 c2] 48 → BL G b2 [.int .i64 1, .int .i64 1, .slice (some ⟨b1, 0⟩) 1] 110 →
  O fn_image_Image_api_Triple_Wrapped [.ptr (some ⟨b2, 0⟩), .int .i64 x, .int .i64 y] G k = k (.agg [.float .f64 c0, .float .f64 c1, .float .f64 c2]) G
theorem wp_body (hW : SIw O) {F : Nat} (b1 b2 c0 c1 c2 : Nat) (x y : Int) (G : GH) (k : IV → GH → Option R) (h1 : BL G b1 [.float .f64 c0, .float .f64 c1, .float .f64 c2] 48) (h2 : BL G b2 [.int .i64 1, .int .i64 1, .slice (some ⟨b1, 0⟩) 1] 110) :
    bodyC Try.prog O [6, 7, 777777] F Try.f65 [.ptr (some ⟨b2, 0⟩), .int .i64 x, .int .i64 y] G k = k (.agg [.float .f64 c0, .float .f64 c1, .float .f64 c2]) G := by
  have s2 := h2.sli (i := 2) (a := some ⟨b1, 0⟩) (n := 1) rfl
  have i0 := h2.int (i := 0) (x := 1) rfl
  have i1 := h2.int (i := 1) (x := 1) rfl
  have f0 := h1.flo (i := 0) (x := c0) rfl
  have f1 := h1.flo (i := 1) (x := c1) rfl
  have f2 := h1.flo (i := 2) (x := c2) rfl
  have w : IntKind.wrap .i64 ((IntKind.wrap .i64 ((0 : Int) * (1 : Int))) + (0 : Int)) = 0 := by decide
  rw [e_image_Image_api_Triple_Wrapped]
  simp only [add00, s2, i0, i1, Option.bind_some]
  rw [hW]
  simp only [ivI, hW]
  rw [w, idx0, Option.bind_some]
  simp only [add00, f0, f1, f2, Option.bind_some]

abbrev SVOf (O : Ora R) : Prop := ∀ (c0 c1 c2 : Nat), c0 < 2 ^ 64 → c1 < 2 ^ 64 → c2 < 2 ^ 64 → fin c0 = true → fin c1 = true → fin c2 = true → ∀ (G : GH) (k : IV → GH → Option R), O fn_vec_Of [.agg [.float .f64 c0, .float .f64 c1, .float .f64 c2]] G k = k (.agg [.float .f64 (zw c0), .float .f64 (zw c0), .float .f64 (zw c1), .float .f64 (zw c1), .float .f64 (zw c2), .float .f64 (zw c2)]) G
theorem vof_body (hO : SOf O) {F c0 c1 c2 : Nat} (w0 : c0 < 2 ^ 64) (w1 : c1 < 2 ^ 64) (w2 : c2 < 2 ^ 64) (h0 : fin c0 = true) (h1 : fin c1 = true) (h2 : fin c2 = true) (G : GH) (k : IV → GH → Option R) :
    bodyC Try.prog O [1, 2, 777777] F Try.f53 [.agg [.float .f64 c0, .float .f64 c1, .float .f64 c2]] G k = k (.agg [.float .f64 (zw c0), .float .f64 (zw c0), .float .f64 (zw c1), .float .f64 (zw c1), .float .f64 (zw c2), .float .f64 (zw c2)]) G := by
  rw [e_vec_Of, hO c0 w0 h0, agg2, hO c1 w1 h1, agg2, hO c2 w2 h2, agg2]
theorem agg6 {β : Type} (a0 a1 a2 a3 a4 a5 : Nat) (f : Nat → Nat → Nat → Nat → Nat → Nat → Option β) : ((ivAgg 6 (.agg [.float .f64 a0, .float .f64 a1, .float .f64 a2, .float .f64 a3, .float .f64 a4, .float .f64 a5])).bind fun c => (ivFloat .f64 (c.getD 0 undefI)).bind fun x0 => (ivFloat .f64 (c.getD 1 undefI)).bind fun x1 => (ivFloat .f64 (c.getD 2 undefI)).bind fun x2 => (ivFloat .f64 (c.getD 3 undefI)).bind fun x3 => (ivFloat .f64 (c.getD 4 undefI)).bind fun x4 => (ivFloat .f64 (c.getD 5 undefI)).bind fun x5 => f x0 x1 x2 x3 x4 x5) = f a0 a1 a2 a3 a4 a5 := rfl
theorem agg3 {β : Type} (a0 a1 a2 : Nat) (f : Nat → Nat → Nat → Option β) : ((ivAgg 3 (.agg [.float .f64 a0, .float .f64 a1, .float .f64 a2])).bind fun c => (ivFloat .f64 (c.getD 0 undefI)).bind fun x0 => (ivFloat .f64 (c.getD 1 undefI)).bind fun x1 => (ivFloat .f64 (c.getD 2 undefI)).bind fun x2 => f x0 x1 x2) = f a0 a1 a2 := rfl
theorem agg7 {β : Type} (a0 a1 a2 a3 a4 a5 : Nat) (a6 : Int) (f : Nat → Nat → Nat → Nat → Nat → Nat → Int → Option β) : ((ivAgg 7 (.agg [.float .f64 a0, .float .f64 a1, .float .f64 a2, .float .f64 a3, .float .f64 a4, .float .f64 a5, .int .i64 a6])).bind fun c => (ivFloat .f64 (c.getD 0 undefI)).bind fun x0 => (ivFloat .f64 (c.getD 1 undefI)).bind fun x1 => (ivFloat .f64 (c.getD 2 undefI)).bind fun x2 => (ivFloat .f64 (c.getD 3 undefI)).bind fun x3 => (ivFloat .f64 (c.getD 4 undefI)).bind fun x4 => (ivFloat .f64 (c.getD 5 undefI)).bind fun x5 => (ivInt .i64 (c.getD 6 undefI)).bind fun x6 => f x0 x1 x2 x3 x4 x5 x6) = f a0 a1 a2 a3 a4 a5 a6 := rfl
theorem tupPI {β : Type} (a : Option GA) (b : Int) (f : Option GA → Int → Option β) : ((ivTup 2 (.tuple [.ptr a, .int .i64 b])).bind fun c => (ivPtr (c.getD 0 undefI)).bind fun x => (ivInt .i64 (c.getD 1 undefI)).bind fun y => f x y) = f a b := rfl

abbrev SBo (O : Ora R) : Prop := ∀ (a b : Int), ∃ c : Int, ∀ (G : GH) (k : IV → GH → Option R), O fn_texture_both [.int .i64 a, .int .i64 b] G k = k (.int .i64 c) G
theorem bo_body {F : Nat} (a b : Int) : ∃ c : Int, ∀ (G : GH) (k : IV → GH → Option R), bodyC Try.prog O [777777] F Try.f47 [.int .i64 a, .int .i64 b] G k = k (.int .i64 c) G := by
  cases h1 : (a == (1 : Int)) with
  | false => exact ⟨2, fun G k => by rw [e_texture_both, h1, cond_false]⟩
  | true =>
    cases h2 : (b == (1 : Int)) with
    | false => exact ⟨2, fun G k => by rw [e_texture_both, h1, cond_true, h2, cond_false]⟩
    | true => exact ⟨1, fun G k => by rw [e_texture_both, h1, cond_true, h2, cond_true]⟩

theorem one1 : FloatKind.nearest .f64 1 = 4607182418800017408 := by decide +kernel
theorem one_w : (4607182418800017408 : Nat) < 2 ^ 64 := by decide
theorem one_fin : fin 4607182418800017408 = true := by decide +kernel
/-- The colour as spans. -/
def sp (c0 c1 c2 : Nat) (a : Int) : List IV := [.float .f64 (zw c0), .float .f64 (zw c0), .float .f64 (zw c1), .float .f64 (zw c1), .float .f64 (zw c2), .float .f64 (zw c2), .int .i64 a]
abbrev SSa (O : Ora R) : Prop := ∀ (bx c0 c1 c2 u0 u1 v0 v1 : Nat) (G : GH), c0 < 2 ^ 64 → c1 < 2 ^ 64 → c2 < 2 ^ 64 → fin c0 = true → fin c1 = true → fin c2 = true → u0 < 2 ^ 64 → u1 < 2 ^ 64 → v0 < 2 ^ 64 → v1 < 2 ^ 64 → BL G bx [.float .f64 c0, .float .f64 c1, .float .f64 c2] 48 →
  ∃ (a : Int) (G' : GH), ∀ (k : IV → GH → Option R), O fn_texture_sample [.agg [.int .i64 1, .int .i64 1, .slice (some ⟨bx, 0⟩) 1], .agg [.float .f64 u0, .float .f64 u1], .agg [.float .f64 v0, .float .f64 v1]] G k = k (.agg (sp c0 c1 c2 a)) G'
theorem sa_body (hI : SIOf O) (hO : SOf O) (hM : SMulT O) (hFl : SSFl O) (hW : SWp O) (hV : SVOf O) (hB0 : SBo O) {F : Nat} (bx c0 c1 c2 u0 u1 v0 v1 : Nat) (G : GH) (w0 : c0 < 2 ^ 64) (w1 : c1 < 2 ^ 64) (w2 : c2 < 2 ^ 64) (h0 : fin c0 = true) (h1 : fin c1 = true) (h2 : fin c2 = true) (hu0 : u0 < 2 ^ 64) (hu1 : u1 < 2 ^ 64) (hv0 : v0 < 2 ^ 64) (hv1 : v1 < 2 ^ 64) (hB : BL G bx [.float .f64 c0, .float .f64 c1, .float .f64 c2] 48) :
    ∃ (a : Int) (G' : GH), ∀ (k : IV → GH → Option R), bodyC Try.prog O [3, 4, 5, 6, 777777] F Try.f51 [.agg [.int .i64 1, .int .i64 1, .slice (some ⟨bx, 0⟩) 1], .agg [.float .f64 u0, .float .f64 u1], .agg [.float .f64 v0, .float .f64 v1]] G k = k (.agg (sp c0 c1 c2 a)) G' := by
  obtain ⟨b1, b2, G2, q1, q2, q3⟩ := hI bx c0 c1 c2 G hB
  have nz : zw 4607182418800017408 < 2 ^ 64 := (zw_num (num_fin one_w one_fin)).1
  obtain ⟨l1, r1, n1, n2, m1⟩ := hM u0 u1 _ _ hu0 hu1 nz nz
  obtain ⟨l2, r2, n3, n4, m2⟩ := hM v0 v1 _ _ hv0 hv1 nz nz
  obtain ⟨x, a, f1⟩ := hFl l1 r1 n1.1 n2.1
  obtain ⟨y, b, f2⟩ := hFl l2 r2 n3.1 n4.1
  obtain ⟨c, hc⟩ := hB0 a b
  have e1 : ((0 : Int) != 0) = false := by decide
  refine ⟨c, G2, fun k => ?_⟩
  rw [e_texture_sample, q3, tupPI, e1, cond_false]
  rw [show FloatKind.nearest .f64 1 = 4607182418800017408 from one1, hO _ one_w one_fin, agg2, m1, agg2, f1, tupII, hO _ one_w one_fin, agg2, m2, agg2, f2, tupII, hW b1 b2 c0 c1 c2 x y G2 _ q1 q2, agg3, hV c0 c1 c2 w0 w1 w2 h0 h1 h2, agg6, hc, ivI]
  rfl

abbrev SOne (O : Ora R) : Prop := ∀ (bp bx c0 c1 c2 s u0 u1 v0 v1 : Nat) (va : Option GA) (vn : Nat) (G : GH), c0 < 2 ^ 64 → c1 < 2 ^ 64 → c2 < 2 ^ 64 → fin c0 = true → fin c1 = true → fin c2 = true → s < 2 ^ 64 → fin s = true → u0 < 2 ^ 64 → u1 < 2 ^ 64 → v0 < 2 ^ 64 → v1 < 2 ^ 64 → BL G bx [.float .f64 c0, .float .f64 c1, .float .f64 c2] 48 →
  (∃ e, BL G bp [.int .i64 1, .int .i64 1, .slice (some ⟨bx, 0⟩) 1] e) →
  ∃ (a : Int), ∀ (k : IV → GH → Option R), O fn_texture_one [.agg (ts s), .slice (some ⟨bp, 0⟩) 1, .slice va vn, .agg [.float .f64 u0, .float .f64 u1], .agg [.float .f64 v0, .float .f64 v1]] G k = k (.agg (sp c0 c1 c2 a)) G
theorem one_body (hO : SOf O) (hM : SMulT O) (hS : SSa O) {F : Nat} (bp bx c0 c1 c2 s u0 u1 v0 v1 : Nat) (va : Option GA) (vn : Nat) (G : GH) (w0 : c0 < 2 ^ 64) (w1 : c1 < 2 ^ 64) (w2 : c2 < 2 ^ 64) (h0 : fin c0 = true) (h1 : fin c1 = true) (h2 : fin c2 = true) (ws : s < 2 ^ 64) (hs : fin s = true) (hu0 : u0 < 2 ^ 64) (hu1 : u1 < 2 ^ 64) (hv0 : v0 < 2 ^ 64) (hv1 : v1 < 2 ^ 64) (hB : BL G bx [.float .f64 c0, .float .f64 c1, .float .f64 c2] 48)
    (hP : ∃ e, BL G bp [.int .i64 1, .int .i64 1, .slice (some ⟨bx, 0⟩) 1] e) :
    ∃ (a : Int), ∀ (k : IV → GH → Option R), bodyC Try.prog O lo28 F Try.f28 [.agg (ts s), .slice (some ⟨bp, 0⟩) 1, .slice va vn, .agg [.float .f64 u0, .float .f64 u1], .agg [.float .f64 v0, .float .f64 v1]] G k = k (.agg (sp c0 c1 c2 a)) G := by
  obtain ⟨e, hP⟩ := hP
  have ns : zw s < 2 ^ 64 := (zw_num (num_fin ws hs)).1
  obtain ⟨l1, r1, n1, n2, m1⟩ := hM u0 u1 _ _ hu0 hu1 ns ns
  obtain ⟨l2, r2, n3, n4, m2⟩ := hM v0 v1 _ _ hv0 hv1 ns ns
  obtain ⟨a, G', hsa⟩ := hS bx c0 c1 c2 l1 r1 l2 r2 (gfreeze G) w0 w1 w2 h0 h1 h2 n1.1 n2.1 n3.1 n4.1 hB.freeze
  have i0 := hP.int (i := 0) (x := 1) rfl
  have i1 := hP.int (i := 1) (x := 1) rfl
  have i2 := hP.sli (i := 2) (a := some ⟨bx, 0⟩) (n := 1) rfl
  have k2 : ((4 : Int) == 2) = false := by decide
  have k3 : ((4 : Int) == 3) = false := by decide
  have k4 : ((4 : Int) == 4) = true := by decide
  refine ⟨a, fun k => ?_⟩
  unfold ts
  rw [e_texture_one]
  unfold u_texture_one
  rw [hO s ws hs, agg2, k2, cond_false, k3, cond_false, k4, cond_true, idx0, Option.bind_some]
  simp only [add00, i0, i1, i2, Option.bind_some]
  rw [m1, agg2, m2, agg2, hsa]
  unfold sp
  rw [agg7]
end
end Go.LI.Film
