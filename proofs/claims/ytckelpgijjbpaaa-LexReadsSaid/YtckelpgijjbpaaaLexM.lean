/- LexReads: what the interpreter gives is true. -/
import Derived.Test.YtckelpgijjbpaaaLexL
namespace Go.LI.Lex
open Go.Proofs.Ytckelpgijjbpaaa Go Go.Proofs Go.LI
set_option linter.unusedVariables false
set_option linter.unusedSimpArgs false

/-- A row of tokens stands at an address (or nowhere, if there are none). -/
def At (G : GH) (a : Option GA) (ts : List Tk) : Prop :=
  match a with
  | none => ts = []
  | some a => a.o = 0 ∧ G[a.b]? = some ⟨tkCells ts, 32, 1⟩
theorem Laid.at {G : GH} {r : Nat} {a : Option GA} {ts : List Tk} (h : Laid G r a ts) : At G a ts := by
  cases a with
  | none => exact h
  | some a => exact ⟨h.1, h.2.2⟩

theorem tk_get {ts : List Tk} {i : Nat} {x : Tk} (h : ts[i]? = some x) (j : Nat) (hj : j < 4) : (tkCells ts)[i * 4 + j]? = x.cells[j]? := by
  induction ts generalizing i with
  | nil => simp at h
  | cons t ts ih =>
    cases i with
    | zero =>
      simp at h
      subst h
      simp only [tkCells, List.flatMap_cons, Nat.zero_mul, Nat.zero_add]
      exact List.getElem?_append_left (by simp [Tk.cells, tokI]; omega)
    | succ i =>
      have := ih (i := i) (by simpa using h)
      rw [← this]
      simp only [tkCells, List.flatMap_cons]
      rw [List.getElem?_append_right (by simp [Tk.cells, tokI]; omega)]
      congr 1
      simp [Tk.cells, tokI]; omega

section
variable {R : Type} {G : GH} {a : Option GA} {ts : List Tk} {i : Nat} {x : Tk}

theorem at_idx (h : At G a ts) (hi : ts[i]? = some x) : ∃ ga, idx? a ts.length (i : Int) 4 = some ga ∧ ldInt G .i64 (GA.add ga 0) = some x.k ∧ ldStr G (GA.add ga 1) = some x.w ∧ ldFloat G .f64 (GA.add ga 2) = some x.x ∧ ldInt G .i64 (GA.add ga 3) = some x.l := by
  have hlt : i < ts.length := (List.getElem?_eq_some_iff.1 hi).1
  cases a with
  | none => have h : ts = [] := h; subst h; simp at hlt
  | some a =>
    obtain ⟨h1, h2⟩ := h
    refine ⟨a.add (i * 4), ?_, ?_⟩
    · simp only [idx?, Int.toNat_natCast]
      rw [if_pos (by omega)]
    · have c : ∀ j, j < 4 → gld G (GA.add (GA.add a (i * 4)) j) = x.cells[j]? := by
        intro j hj
        simp only [gld, GA.add, h1, h2, Nat.zero_add]
        rw [if_pos (by decide)]
        exact tk_get hi j hj
      have c0 := c 0 (by decide)
      have c1 := c 1 (by decide)
      have c2 := c 2 (by decide)
      have c3 := c 3 (by decide)
      simp only [ldInt, ldStr, ldFloat, c0, c1, c2, c3]
      refine ⟨rfl, rfl, rfl, rfl⟩
end

section
variable {H : GH} {b : Nat} {k : Int} {w : List UInt8} {x : Nat} {l : Int}
theorem tk_ld0 (h : H[b]? = some ⟨tokI k w x l, 32, 1⟩) : ldInt H .i64 (GA.add ⟨b, 0⟩ 0) = some k := by simp [ldInt, gld, GA.add, h]; simp [tokI]
theorem tk_ld1 (h : H[b]? = some ⟨tokI k w x l, 32, 1⟩) : ldStr H (GA.add ⟨b, 0⟩ 1) = some w := by simp [ldStr, gld, GA.add, h]; simp [tokI]
theorem tk_ld2 (h : H[b]? = some ⟨tokI k w x l, 32, 1⟩) : ldFloat H .f64 (GA.add ⟨b, 0⟩ 2) = some x := by simp [ldFloat, gld, GA.add, h]; simp [tokI]
theorem tk_ld3 (h : H[b]? = some ⟨tokI k w x l, 32, 1⟩) : ldInt H .i64 (GA.add ⟨b, 0⟩ 3) = some l := by simp [ldInt, gld, GA.add, h]; simp [tokI]
end

/-- Both readers stand alike; the tokens that both have told stand. -/
structure Both (t : List UInt8) (ts : List Tk) (a1 a2 : Option GA) (rb wb : Nat) (rest : List UInt8) (l n b : Int) (G : GH) : Prop where
  r : G[rb]? = some (rs t rest l n b)
  w : ∃ rest' n', G[wb]? = some (wst t rest' l n' b) ∧ (b = 0 → rest' = rest ∧ n' = n)
  at1 : At G a1 ts
  at2 : At G a2 ts
  ne : rb ≠ wb
  n1 : ∀ y, a1 = some y → y.b ≠ rb ∧ y.b ≠ wb
  n2 : ∀ y, a2 = some y → y.b ≠ rb ∧ y.b ≠ wb

theorem At.grow {G G' : GH} {a : Option GA} {ts : List Tk} (h : At G a ts) (hg : ∀ y, a = some y → G'[y.b]? = G[y.b]?) : At G' a ts := by
  cases a with
  | none => exact h
  | some a => exact ⟨h.1, by rw [hg a rfl]; exact h.2⟩

section
variable {R : Type} {t : List UInt8} {ts : List Tk} {a1 a2 : Option GA} {rb wb : Nat}

/-- One round behind the comparison of the lists. -/
theorem reads_step {F : Nat} {O : Ora R} (h14 : S14 O) (h15 : S15 O) (h16 : S16B O) (h17 : S17 O) (hlen : t.length < 4000000) {rest : List UInt8} {l n b : Int} {G : GH} (hB : Both t ts a1 a2 rb wb rest l n b G) (hs : rest <:+ t) (h0 : 0 ≤ l) (h1 : l + rest.length < 2 ^ 62) (hn0 : 0 ≤ n) (hn1 : n < 2 ^ 62) :
    ∃ G', Both t ts a1 a2 rb wb (nextF rest l n b).rest (nextF rest l n b).l (nextF rest l n b).n (nextF rest l n b).b G' ∧
      ∀ (Kret : Bool → GH → Option R) (KN : Option GA → Nat → Option GA → Nat → Option GA → Option GA → Int → GH → Option R) (m1 m2 : Nat) (i : Int), a4_3N O Kret KN a1 m1 a2 m2 (some ⟨rb, 0⟩) (some ⟨wb, 0⟩) i G = KN a1 m1 a2 m2 (some ⟨rb, 0⟩) (some ⟨wb, 0⟩) i G' := by
  obtain ⟨hr, ⟨rest1, n1, hw, hz⟩, A1, A2, hne, N1, N2⟩ := hB
  obtain ⟨hnn, hbe, _⟩ := nextF_facts rest l n b
  have q15 := fun k : IV → GH → Option R => h15 hr hs hlen h0 h1 hn0 hn1 k
  simp only [nxOut] at q15
  have hrl : rb < G.length := (List.getElem?_eq_some_iff.1 hr).1
  have hwl : wb < G.length := (List.getElem?_eq_some_iff.1 hw).1
  have hal : ∀ {a : Option GA}, At G a ts → ∀ y, a = some y → y.b < G.length := by
    intro a hA y hy
    subst hy
    exact (List.getElem?_eq_some_iff.1 hA.2).1
  -- behind the program's token
  generalize hx : nextF rest l n b = x at q15 hnn hbe ⊢
  have g1 : ∀ j, j < G.length → j ≠ rb → (G.set rb (rs t x.rest x.l x.n x.b) ++ x.gb)[j]? = G[j]? := fun j hj hj2 => by
    rw [List.getElem?_append_left (by simpa using hj), List.getElem?_set_ne (Ne.symm hj2)]
  have g1r : (G.set rb (rs t x.rest x.l x.n x.b) ++ x.gb)[rb]? = some (rs t x.rest x.l x.n x.b) := by
    rw [List.getElem?_append_left (by simpa using hrl), at_set hr]
  have g1l : G.length ≤ (G.set rb (rs t x.rest x.l x.n x.b) ++ x.gb).length := by simp
  generalize (G.set rb (rs t x.rest x.l x.n x.b) ++ x.gb) = G2 at q15 g1 g1r g1l
  have e1 := gst_new G2 [.int .i64 0, .str [], .float .f64 0, .int .i64 0] (tokI x.k x.w x.x x.tl) 32 rfl
  -- behind the reference's
  have hw2 : (gnew G2 (tokI x.k x.w x.x x.tl) 32)[wb]? = some (wst t rest1 l n1 b) := get_new (by rw [g1 wb hwl (Ne.symm hne)]; exact hw)
  obtain ⟨rest', n', hz2, q16⟩ := h16 hw2 hz hs hlen h0 h1 hn0 hn1
  rw [hx] at hz2 q16
  have g2 : ∀ j, j < G2.length → j ≠ wb → ((gnew G2 (tokI x.k x.w x.x x.tl) 32).set wb (wst t rest' x.l n' x.b))[j]? = G2[j]? := fun j hj hj2 => by
    rw [List.getElem?_set_ne (Ne.symm hj2)]
    exact List.getElem?_append_left hj
  have g2w : ((gnew G2 (tokI x.k x.w x.x x.tl) 32).set wb (wst t rest' x.l n' x.b))[wb]? = some (wst t rest' x.l n' x.b) := at_set hw2
  have g2l : G2.length + 1 = ((gnew G2 (tokI x.k x.w x.x x.tl) 32).set wb (wst t rest' x.l n' x.b)).length := by simp [gnew]
  have g2t : ((gnew G2 (tokI x.k x.w x.x x.tl) 32).set wb (wst t rest' x.l n' x.b))[G2.length]? = some ⟨tokI x.k x.w x.x x.tl, 32, 1⟩ := by
    rw [List.getElem?_set_ne (by omega)]
    simp [gnew]
  generalize ((gnew G2 (tokI x.k x.w x.x x.tl) 32).set wb (wst t rest' x.l n' x.b)) = G12 at q16 g2 g2w g2l g2t
  have e2 := gst_new G12 [.int .i64 0, .str [], .float .f64 0, .int .i64 0] (tokI x.k x.w x.x x.tl) 32 rfl
  have g3 : ∀ j, j < G12.length → (gnew G12 (tokI x.k x.w x.x x.tl) 32)[j]? = G12[j]? := fun j hj => List.getElem?_append_left hj
  have hrF : (gnew G12 (tokI x.k x.w x.x x.tl) 32)[rb]? = some (rs t x.rest x.l x.n x.b) := by rw [g3 rb (by omega), g2 rb (by omega) hne, g1r]
  have hwF : (gnew G12 (tokI x.k x.w x.x x.tl) 32)[wb]? = some (wst t rest' x.l n' x.b) := by rw [g3 wb (by omega), g2w]
  have gA : ∀ {a : Option GA}, At G a ts → (∀ y, a = some y → y.b ≠ rb ∧ y.b ≠ wb) → At (gnew G12 (tokI x.k x.w x.x x.tl) 32) a ts := by
    intro a hA hN
    refine hA.grow fun y hy => ?_
    have hlt := hal hA y hy
    obtain ⟨y1, y2⟩ := hN y hy
    rw [g3 _ (by omega), g2 _ (by omega) y2, g1 _ hlt y1]
  refine ⟨gnew G12 (tokI x.k x.w x.x x.tl) 32, ⟨hrF, ⟨rest', n', hwF, hz2⟩, gA A1 N1, gA A2 N2, hne, N1, N2⟩, fun Kret KN m1 m2 i => ?_⟩
  have tA : (gnew G12 (tokI x.k x.w x.x x.tl) 32)[G2.length]? = some ⟨tokI x.k x.w x.x x.tl, 32, 1⟩ := by rw [g3 _ (by omega), g2t]
  have c0 : ldInt (gnew G12 (tokI x.k x.w x.x x.tl) 32) .i64 (GA.add (gaddr G2) 0) = some x.k := tk_ld0 tA
  have c1 : ldStr (gnew G12 (tokI x.k x.w x.x x.tl) 32) (GA.add (gaddr G2) 1) = some x.w := tk_ld1 tA
  have c2 : ldFloat (gnew G12 (tokI x.k x.w x.x x.tl) 32) .f64 (GA.add (gaddr G2) 2) = some x.x := tk_ld2 tA
  have c3 : ldInt (gnew G12 (tokI x.k x.w x.x x.tl) 32) .i64 (GA.add (gaddr G2) 3) = some x.tl := tk_ld3 tA
  have d0 := ld_new_k G12 x.k x.w x.x x.tl
  have d1 := ld_new_w G12 x.k x.w x.x x.tl
  have d2 := ld_new_x G12 x.k x.w x.x x.tl
  have d3 := ld_new_l G12 x.k x.w x.x x.tl
  have s14 := h14 x.k x.w x.x x.tl hnn
  have s17 := h17 hrF
  have lw := wl_l (Nat.le_refl 1) hwF
  simp only [a4_3N]
  rw [q15]
  simp only [tokI] at e1 e2 c0 c1 c2 c3 d0 d1 d2 d3 s14 s17 lw q16 ⊢
  simp only [ivTup2, ivAgg4, ivInt_i64, ivStr_str, ivFloat_f64, getD0, getD1, getD2, getD3, Option.bind_some]
  rw [e1]
  simp only [Option.bind_some]
  rw [q16]
  simp only [ivTup2, ivAgg4, ivInt_i64, ivStr_str, ivFloat_f64, getD0, getD1, getD2, getD3, Option.bind_some]
  rw [e2]
  simp only [Option.bind_some, c0, c1, c2, c3, d0, d1, d2, d3]
  rw [s14]
  simp only [ivBool_bool, Option.bind_some, Bool.not_true, cond_false]
  rw [show (x.e != x.e) = false by simp, cond_false, s17]
  simp only [ivInt_i64, Option.bind_some, lw]
  rw [show (x.l != x.l) = false by simp, cond_false]

/-- All rounds. -/
theorem reads_loop {F : Nat} (hF : 4000000 ≤ F) {O : Ora R} (h14 : S14 O) (h15 : S15 O) (h16 : S16B O) (h17 : S17 O) (hlen : t.length < 4000000) (hts : ∀ x ∈ ts, nn (FloatKind.format .f64) x.x) (hm : ts.length ≤ 16384) (Kret : Bool → GH → Option R) (K0 : GH → Option R) :
    ∀ (d i : Nat) (fuel : Nat) (rest : List UInt8) (l n b : Int) (G : GH), Both t ts a1 a2 rb wb rest l n b G → rest <:+ t → 0 ≤ l → l + rest.length < 2 ^ 62 → 0 ≤ n → n + d < 2 ^ 62 → d = ts.length + 3 - i → i ≤ ts.length + 3 → d < fuel →
      ∃ G', l4_1 O F Kret K0 fuel a1 ts.length a2 ts.length (some ⟨rb, 0⟩) (some ⟨wb, 0⟩) (i : Int) G = K0 G'
  | d, i, 0, rest, l, n, b, G, hB, hs, h0, h1, hn0, hn1, hd, hi, hf => by omega
  | 0, i, f + 1, rest, l, n, b, G, hB, hs, h0, h1, hn0, hn1, hd, hi, hf => by
    refine ⟨G, ?_⟩
    simp only [l4_1, u4_1]
    rw [IntWalk.i64_in _ (by omega), show decide ((i : Int) < (ts.length : Int) + 3) = false by simp; omega, cond_false]
  | d + 1, i, f + 1, rest, l, n, b, G, hB, hs, h0, h1, hn0, hn1, hd, hi, hf => by
    obtain ⟨_, _, p1, p2, p3, p4, p5⟩ := nextF_facts rest l n b
    obtain ⟨G1, B1, q1⟩ := reads_step (F := F) h14 h15 h16 h17 hlen hB hs h0 h1 hn0 (by omega)
    obtain ⟨G2, q2⟩ := reads_loop hF h14 h15 h16 h17 hlen hts hm Kret K0 d (i + 1) f _ _ _ _ G1 B1 (p1.trans hs) (by omega) (by omega) (by omega) (by omega) (by omega) (by omega) (by omega)
    refine ⟨G2, ?_⟩
    simp only [l4_1, u4_1]
    rw [IntWalk.i64_in _ (by omega), show decide ((i : Int) < (ts.length : Int) + 3) = true by simp; omega, cond_true]
    simp only [L4_2, l4_2, u4_2, L4_3, l4_3, u4_3, stepN_F hF]
    have fin : a4_3N O (a4_2ret O Kret (l4_1 O F Kret K0 f) K0) (a4_2N O Kret (l4_1 O F Kret K0 f) K0) a1 ts.length a2 ts.length (some ⟨rb, 0⟩) (some ⟨wb, 0⟩) (i : Int) G = K0 G2 := by
      rw [q1]
      simp only [a4_2N]
      rw [IntWalk.i64_in _ (by omega)]
      exact q2
    by_cases hlt : i < ts.length
    · rw [show decide ((i : Int) < (ts.length : Int)) = true by simp; omega, cond_true]
      obtain ⟨x, hx⟩ : ∃ x, ts[i]? = some x := ⟨_, List.getElem?_eq_getElem hlt⟩
      obtain ⟨g1, i1, k1, k2, k3, k4⟩ := at_idx hB.at1 hx
      obtain ⟨g2, i2, m1, m2, m3, m4⟩ := at_idx hB.at2 hx
      have s14 := h14 x.k x.w x.x x.l (hts x (List.mem_of_getElem? hx))
      simp only [tokI] at s14
      rw [i1]
      simp only [Option.bind_some, k1, k2, k3, k4]
      rw [i2]
      simp only [Option.bind_some, m1, m2, m3, m4]
      rw [s14]
      simp only [ivBool_bool, Option.bind_some, Bool.not_true, cond_false]
      exact fin
    · rw [show decide ((i : Int) < (ts.length : Int)) = false by simp; omega, cond_false]
      exact fin
end
end Go.LI.Lex
