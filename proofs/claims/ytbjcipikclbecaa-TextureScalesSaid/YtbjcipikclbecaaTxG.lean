/- Textures' checks: the lists, the copies, and the law over its functions. -/
import Derived.Test.YtbjcipikclbecaaTxF
namespace Go.LI.Film
open Go.Proofs.Ytbjcipikclbecaa Go Go.Proofs Go.LI Go.LI.Fl
set_option linter.unusedVariables false
set_option linter.unusedSimpArgs false
set_option maxRecDepth 100000
set_option exponentiation.threshold 2500

/-- Lists of records of c cells. -/
theorem recs_at {α : Type} {f : α → List IV} {c : Nat} (hf : ∀ x, (f x).length = c) : ∀ {ps : List α} {i : Nat} {p : α}, ps[i]? = some p → ∀ j, j < c → ((ps.map f).flatten)[i * c + j]? = (f p)[j]? := by
  intro ps
  induction ps with
  | nil => intro i p h; simp at h
  | cons q ps ih =>
    intro i p h j hj
    cases i with
    | zero =>
      simp at h
      subst h
      rw [List.map_cons, List.flatten_cons, List.getElem?_append_left (by rw [hf]; omega), Nat.zero_mul, Nat.zero_add]
    | succ i =>
      rw [List.getElem?_cons_succ] at h
      rw [List.map_cons, List.flatten_cons, List.getElem?_append_right (by rw [hf, Nat.add_mul]; omega), hf, show (i + 1) * c + j - c = i * c + j by rw [Nat.add_mul]; omega]
      exact ih h j hj
theorem recs_len {α : Type} {f : α → List IV} {c : Nat} (hf : ∀ x, (f x).length = c) (ps : List α) : ((ps.map f).flatten).length = ps.length * c := by
  induction ps with
  | nil => simp
  | cons p ps ih => rw [List.map_cons, List.flatten_cons, List.length_append, ih, hf, List.length_cons, Nat.add_mul]; omega

/-- A slice of records that can be read. -/
def RL {α : Type} (f : α → List IV) (G : GH) (a : Option GA) (n : Nat) (ps : List α) : Prop := ps.length = n ∧ (0 < n → ∃ b e, a = some ⟨b, 0⟩ ∧ BL G b ((ps.map f).flatten) e)
theorem RL.keep {α : Type} {f : α → List IV} {G G' : GH} {a : Option GA} {n base : Nat} {ps : List α} (h : RL f G a n ps) (k : Keeps base G G') (hb : G.length ≤ base) : RL f G' a n ps := by
  refine ⟨h.1, fun hn => ?_⟩
  obtain ⟨b, e, h1, h2⟩ := h.2 hn
  exact ⟨b, e, h1, h2.keep k (by have := h2.lt; omega)⟩

theorem tcs_length (t : Tx) : (tcs t).length = 8 := rfl
theorem tl_ld {G : GH} {a : Option GA} {n i : Nat} {ts : List Tx} {t : Tx} (h : RL tcs G a n ts) (hi : ts[i]? = some t) : ∃ p, idx? a n (i : Int) 8 = some p ∧ ldInt G .i64 (GA.add p 0) = some t.k ∧ ldFloat G .f64 (GA.add p 1) = some t.c0 ∧ ldFloat G .f64 (GA.add p 2) = some t.c1 ∧ ldFloat G .f64 (GA.add p 3) = some t.c2 ∧
    ldInt G .i64 (GA.add p 4) = some t.a ∧ ldInt G .i64 (GA.add p 5) = some t.b ∧ ldFloat G .f64 (GA.add p 6) = some t.s ∧ ldInt G .i64 (GA.add p 7) = some t.im := by
  have hl := (List.getElem?_eq_some_iff.1 hi).1
  obtain ⟨b, e, rfl, hB⟩ := h.2 (by have := h.1; omega)
  have hn := h.1
  have at' : ∀ j, j < 8 → ((ts.map tcs).flatten)[i * 8 + j]? = (tcs t)[j]? := fun j hj => recs_at tcs_length hi j hj
  refine ⟨⟨b, i * 8⟩, ?_, ?_, ?_, ?_, ?_, ?_, ?_, ?_, ?_⟩
  · simp only [idx?, GA.add, Int.toNat_natCast, Nat.zero_add]
    rw [if_pos ⟨by omega, by omega⟩]
  · exact hB.int (i := i * 8 + 0) (at' 0 (by omega))
  · exact hB.flo (i := i * 8 + 1) (at' 1 (by omega))
  · exact hB.flo (i := i * 8 + 2) (at' 2 (by omega))
  · exact hB.flo (i := i * 8 + 3) (at' 3 (by omega))
  · exact hB.int (i := i * 8 + 4) (at' 4 (by omega))
  · exact hB.int (i := i * 8 + 5) (at' 5 (by omega))
  · exact hB.flo (i := i * 8 + 6) (at' 6 (by omega))
  · exact hB.int (i := i * 8 + 7) (at' 7 (by omega))

/-- A picture. -/
structure Pc where
  w : Int
  h : Int
  a : Option GA
  n : Nat
def pics (q : Pc) : List IV := [.int .i64 q.w, .int .i64 q.h, .slice q.a q.n]
theorem pics_length (q : Pc) : (pics q).length = 3 := rfl
theorem pl_ld {G : GH} {a : Option GA} {n i : Nat} {qs : List Pc} {q : Pc} (h : RL pics G a n qs) (hi : qs[i]? = some q) : ∃ p, idx? a n (i : Int) 3 = some p ∧ ldInt G .i64 (GA.add p 0) = some q.w ∧ ldInt G .i64 (GA.add p 1) = some q.h ∧ ldSlice G (GA.add p 2) = some (q.a, q.n) := by
  have hl := (List.getElem?_eq_some_iff.1 hi).1
  obtain ⟨b, e, rfl, hB⟩ := h.2 (by have := h.1; omega)
  have hn := h.1
  have at' : ∀ j, j < 3 → ((qs.map pics).flatten)[i * 3 + j]? = (pics q)[j]? := fun j hj => recs_at pics_length hi j hj
  refine ⟨⟨b, i * 3⟩, ?_, ?_, ?_, ?_⟩
  · simp only [idx?, GA.add, Int.toNat_natCast, Nat.zero_add]
    rw [if_pos ⟨by omega, by omega⟩]
  · exact hB.int (i := i * 3 + 0) (at' 0 (by omega))
  · exact hB.int (i := i * 3 + 1) (at' 1 (by omega))
  · exact hB.sli (i := i * 3 + 2) (at' 2 (by omega))

/-- The first texture with which something is wrong. -/
def chkA (p : Int) : List Tx → Nat → Int × Int
  | [], _ => (0, 0)
  | t :: ts, i => bif chk t i p != 0 then ((i : Int), chk t i p) else chkA p ts (i + 1)
theorem chkA_drop {p : Int} {ts : List Tx} {i : Nat} {t : Tx} (h : ts[i]? = some t) : chkA p (ts.drop i) i = bif chk t i p != 0 then ((i : Int), chk t i p) else chkA p (ts.drop (i + 1)) (i + 1) := by
  obtain ⟨hl, rfl⟩ := List.getElem?_eq_some_iff.1 h
  rw [List.drop_eq_getElem_cons hl, chkA]

section
variable {R : Type} {O : Ora R}
theorem cl_body (hC : SChp O) {a : Option GA} {n : Nat} {ts : List Tx} {m : Nat} (pa : Option GA) (hw : ∀ t ∈ ts, t.w) (hn : n < 2 ^ 60) : ∀ (r i : Nat) (G : GH), i + r = n → RL tcs G a n ts → ∃ G', Keeps G.length G G' ∧ ∀ (kk : IV → GH → Option R) (j : Nat), r < j →
    l_texture_Check_0 O (a_texture_Check_0ret O kk) (a_texture_Check_00 O kk) j pa m a n (n : Int) (i : Int) G = kk (.tuple [.int .i64 (chkA (m : Int) (ts.drop i) i).1, .int .i64 (chkA (m : Int) (ts.drop i) i).2]) G' := by
  intro r
  induction r with
  | zero =>
    intro i G hi hT
    refine ⟨G, Keeps.refl _ _, fun kk j hj => ?_⟩
    obtain ⟨j, rfl⟩ : ∃ j', j = j' + 1 := ⟨j - 1, by omega⟩
    have hlen := hT.1
    rw [List.drop_eq_nil_of_le (by omega)]
    simp only [l_texture_Check_0, u_texture_Check_0]
    rw [decide_eq_false (by omega), cond_false]
    rfl
  | succ r ih =>
    intro i G hi hT
    have hlen := hT.1
    have hi' : i < ts.length := by omega
    have hg := List.getElem?_eq_getElem hi'
    obtain ⟨p, l0, l1, l2, l3, l4, l5, l6, l7, l8⟩ := tl_ld hT hg
    have hc := hC ts[i] (i : Int) (m : Int) (hw _ (List.getElem_mem hi')) G
    unfold tcs at hc
    obtain ⟨G', k1, h1⟩ := ih (i + 1) (gnew G [.int .i64 i] 3) (by omega) (hT.keep (keeps_new G _ _ (Nat.le_refl _)) (Nat.le_refl _))
    have kn : Keeps G.length G (gnew G [.int .i64 i] 3) := keeps_new G _ _ (Nat.le_refl _)
    have step : ∀ (kk : IV → GH → Option R) (j : Nat), l_texture_Check_0 O (a_texture_Check_0ret O kk) (a_texture_Check_00 O kk) (j + 1) pa m a n (n : Int) (i : Int) G =
        bif chk ts[i] i m != 0 then kk (.tuple [.int .i64 (i : Int), .int .i64 (chk ts[i] i m)]) (gnew G [.int .i64 i] 3) else l_texture_Check_0 O (a_texture_Check_0ret O kk) (a_texture_Check_00 O kk) j pa m a n (n : Int) ((i + 1 : Nat) : Int) (gnew G [.int .i64 i] 3) := by
      intro kk j
      simp only [l_texture_Check_0, u_texture_Check_0]
      rw [decide_eq_true (by omega), cond_true, l0, Option.bind_some, l1, Option.bind_some, l2, Option.bind_some, l3, Option.bind_some, l4, Option.bind_some, l5, Option.bind_some, l6, Option.bind_some, l7, Option.bind_some, l8, Option.bind_some, hc, ivI, wrapI (by omega) (by omega), show (i : Int) + 1 = ((i + 1 : Nat) : Int) by omega]
      rfl
    rw [chkA_drop hg]
    cases hch : (chk ts[i] i m != 0) with
    | true =>
      refine ⟨_, kn, fun kk j hj => ?_⟩
      obtain ⟨j, rfl⟩ : ∃ j', j = j' + 1 := ⟨j - 1, by omega⟩
      rw [step, hch, cond_true]
      rfl
    | false =>
      refine ⟨G', kn.trans (k1.mono (by rw [gnew_length]; omega)), fun kk j hj => ?_⟩
      obtain ⟨j, rfl⟩ : ∃ j', j = j' + 1 := ⟨j - 1, by omega⟩
      rw [step, hch, cond_false, h1 kk j (by omega)]
      rfl
abbrev SCkp (O : Ora R) : Prop := ∀ (a pa : Option GA) (n m : Nat) (ts : List Tx) (G : GH), RL tcs G a n ts → (∀ t ∈ ts, t.w) → n ≤ 200 → ∃ G', Keeps G.length G G' ∧ ∀ (k : IV → GH → Option R), O fn_texture_Check [.slice a n, .slice pa m] G k = k (.tuple [.int .i64 (chkA (m : Int) ts 0).1, .int .i64 (chkA (m : Int) ts 0).2]) G'
theorem ckp_body (hC : SChp O) {F : Nat} (hF : 1000 ≤ F) (a pa : Option GA) (n m : Nat) (ts : List Tx) (G : GH) (hT : RL tcs G a n ts) (hw : ∀ t ∈ ts, t.w) (hn : n ≤ 200) : ∃ G', Keeps G.length G G' ∧ ∀ (k : IV → GH → Option R), bodyC Try.prog O lo10 F Try.f10 [.slice a n, .slice pa m] G k = k (.tuple [.int .i64 (chkA (m : Int) ts 0).1, .int .i64 (chkA (m : Int) ts 0).2]) G' := by
  obtain ⟨G', k1, h1⟩ := cl_body hC (m := m) pa hw (by omega) n 0 G (by omega) hT
  refine ⟨G', k1, fun k => ?_⟩
  rw [e_texture_Check, u_texture_Check, L_texture_Check_0]
  have := h1 k F (by omega)
  rw [List.drop_zero] at this
  exact this

theorem rl_body (hC : SChr O) {a : Option GA} {n : Nat} {ts : List Tx} {m : Nat} (hw : ∀ t ∈ ts, t.w) (hn : n < 2 ^ 60) (G : GH) (hT : RL tcs G a n ts) : ∀ (r i : Nat), i + r = n → ∀ (kk : IV → GH → Option R) (j : Nat), r < j →
    l_ref09_Check_0 O (a_ref09_Check_0ret O kk) (a_ref09_Check_00 O kk) j a n (m : Int) (i : Int) G = kk (.tuple [.int .i64 (chkA (m : Int) (ts.drop i) i).1, .int .i64 (chkA (m : Int) (ts.drop i) i).2]) G := by
  intro r
  have hlen := hT.1
  induction r with
  | zero =>
    intro i hi kk j hj
    obtain ⟨j, rfl⟩ : ∃ j', j = j' + 1 := ⟨j - 1, by omega⟩
    rw [List.drop_eq_nil_of_le (by omega)]
    simp only [l_ref09_Check_0, u_ref09_Check_0]
    rw [decide_eq_false (by omega), cond_false]
    rfl
  | succ r ih =>
    intro i hi kk j hj
    obtain ⟨j, rfl⟩ : ∃ j', j = j' + 1 := ⟨j - 1, by omega⟩
    have hi' : i < ts.length := by omega
    have hg := List.getElem?_eq_getElem hi'
    obtain ⟨p, l0, l1, l2, l3, l4, l5, l6, l7, l8⟩ := tl_ld hT hg
    have hc := hC ts[i] (i : Int) (m : Int) (hw _ (List.getElem_mem hi')) G
    unfold tcs at hc
    rw [chkA_drop hg]
    simp only [l_ref09_Check_0, u_ref09_Check_0]
    rw [decide_eq_true (by omega), cond_true, l0, Option.bind_some, l1, Option.bind_some, l2, Option.bind_some, l3, Option.bind_some, l4, Option.bind_some, l5, Option.bind_some, l6, Option.bind_some, l7, Option.bind_some, l8, Option.bind_some, hc, ivI, wrapI (by omega) (by omega), show (i : Int) + 1 = ((i + 1 : Nat) : Int) by omega]
    cases hch : (chk ts[i] i m != 0) with
    | true => rfl
    | false =>
      rw [cond_false, cond_false]
      exact ih (i + 1) (by omega) kk j (by omega)
abbrev SCkr (O : Ora R) : Prop := ∀ (a : Option GA) (n m : Nat) (ts : List Tx) (G : GH), RL tcs G a n ts → (∀ t ∈ ts, t.w) → n ≤ 200 → ∀ (k : IV → GH → Option R), O fn_ref09_Check [.slice a n, .int .i64 (m : Int)] G k = k (.tuple [.int .i64 (chkA (m : Int) ts 0).1, .int .i64 (chkA (m : Int) ts 0).2]) G
theorem ckr_body (hC : SChr O) {F : Nat} (hF : 1000 ≤ F) (a : Option GA) (n m : Nat) (ts : List Tx) (G : GH) (hT : RL tcs G a n ts) (hw : ∀ t ∈ ts, t.w) (hn : n ≤ 200) (k : IV → GH → Option R) : bodyC Try.prog O lo12 F Try.f12 [.slice a n, .int .i64 (m : Int)] G k = k (.tuple [.int .i64 (chkA (m : Int) ts 0).1, .int .i64 (chkA (m : Int) ts 0).2]) G := by
  rw [e_ref09_Check, u_ref09_Check, L_ref09_Check_0]
  have := rl_body hC (m := m) hw (by omega) G hT n 0 (by omega) k F (by omega)
  rw [List.drop_zero] at this
  exact this

/-- More than is asked. -/
def longB (n m : Nat) (qs : List Pc) : Bool := decide (n > 100) || (decide (m > 10) || qs.any fun q => decide (q.n > 500))
theorem lg_loop {a : Option GA} {n : Nat} {qs : List Pc} (G : GH) (hQ : RL pics G a n qs) (hn : n < 2 ^ 60) (kk : IV → GH → Option R) : ∀ (r i : Nat), i + r = n → ∀ (j : Nat), r < j →
    l_law09_long_1 O (a_law09_long_1ret O kk) (a_law09_long_10 O kk) j a n (i : Int) G = kk (.bool ((qs.drop i).any fun q => decide (q.n > 500))) G := by
  intro r
  have hlen := hQ.1
  induction r with
  | zero =>
    intro i hi j hj
    obtain ⟨j, rfl⟩ : ∃ j', j = j' + 1 := ⟨j - 1, by omega⟩
    rw [List.drop_eq_nil_of_le (by omega)]
    simp only [l_law09_long_1, u_law09_long_1]
    rw [decide_eq_false (by omega), cond_false]
    rfl
  | succ r ih =>
    intro i hi j hj
    obtain ⟨j, rfl⟩ : ∃ j', j = j' + 1 := ⟨j - 1, by omega⟩
    have hi' : i < qs.length := by omega
    have hg := List.getElem?_eq_getElem hi'
    obtain ⟨p, l0, l1, l2, l3⟩ := pl_ld hQ hg
    rw [List.drop_eq_getElem_cons hi', List.any_cons]
    simp only [l_law09_long_1, u_law09_long_1]
    rw [decide_eq_true (by omega), cond_true, l0, Option.bind_some, l3, Option.bind_some, wrapI (by omega) (by omega), show (i : Int) + 1 = ((i + 1 : Nat) : Int) by omega]
    by_cases hx : (qs[i]).n > 500
    · rw [decide_eq_true (by simp only; omega), cond_true, decide_eq_true hx, Bool.true_or]; rfl
    · rw [decide_eq_false (by simp only; omega), cond_false, decide_eq_false hx, Bool.false_or]
      exact ih (i + 1) (by omega) j (by omega)
abbrev SLg (O : Ora R) : Prop := ∀ (a pa : Option GA) (n m : Nat) (qs : List Pc) (G : GH), RL pics G pa m qs → ∀ (k : IV → GH → Option R), O fn_law09_long [.slice a n, .slice pa m] G k = k (.bool (longB n m qs)) G
theorem lg_body {F : Nat} (hF : 1000 ≤ F) (a pa : Option GA) (n m : Nat) (qs : List Pc) (G : GH) (hQ : RL pics G pa m qs) (k : IV → GH → Option R) : bodyC Try.prog O lo9 F Try.f9 [.slice a n, .slice pa m] G k = k (.bool (longB n m qs)) G := by
  obtain ⟨F, rfl⟩ : ∃ F', F = F' + 1 := ⟨F - 1, by omega⟩
  rw [e_law09_long]
  simp only [u_law09_long, L_law09_long_0, stepN, l_law09_long_0, u_law09_long_0, a_law09_long_0ret, a_law09_long_0N, L_law09_long_1, longB]
  by_cases h1 : n > 100
  · rw [decide_eq_true (by omega), cond_true, decide_eq_true h1, Bool.true_or]
  · rw [decide_eq_false (by omega), cond_false, decide_eq_false h1, Bool.false_or]
    by_cases h2 : m > 10
    · rw [decide_eq_true (by omega), cond_true, decide_eq_true h2, Bool.true_or]
    · rw [decide_eq_false (by omega), cond_false, decide_eq_false h2, Bool.false_or]
      have := lg_loop (O := O) G hQ (by omega) k m 0 (by omega) (F + 1) (by omega)
      rw [List.drop_zero] at this
      exact this

/-- append to a new list. -/
theorem app_new (G : GH) (e sz bytes m : Nat) (x : List IV) (hr : m * bytes ≤ roomI) : ∃ G', gappend (gnew G [] e) e sz bytes (some (gaddr G)) 0 x m = some (some ⟨G.length + 1, 0⟩, G') ∧ Keeps G.length G G' ∧ G'.length = G.length + 2 ∧ G'[G.length + 1]? = some ⟨x, e, 1⟩ := by
  have h1 : (gnew G [] e)[G.length]? = some ⟨[], e, 1⟩ := gnew_at G [] e
  have hgr : grd (gnew G [] e) ⟨G.length, 0⟩ (0 * sz) = some [] := by simp [grd, h1]
  have hown : gown (gnew G [] e) G.length e = true := by simp [gown, h1]
  have hkill : gkill (gnew G [] e) G.length = (gnew G [] e).set G.length ⟨[], e, 2⟩ := by simp [gkill, h1]
  refine ⟨gnew ((gnew G [] e).set G.length ⟨[], e, 2⟩) x e, ?_, ⟨by simp [gnew_length]; omega, fun i hi => ?_⟩, by simp [gnew_length], ?_⟩
  · unfold gappend
    rw [Nat.zero_add, if_pos hr]
    simp only [gaddr, hgr, hown, hkill, List.nil_append, List.length_set, gnew_length]
  · rw [gnew_old (by rw [List.length_set, gnew_length]; omega), List.getElem?_set_ne (by omega), gnew_old (by omega)]
  · have := gnew_at ((gnew G [] e).set G.length ⟨[], e, 2⟩) x e
    rw [List.length_set, gnew_length] at this
    exact this

/-- A picture whose samples can be read. -/
def PxOk (G : GH) (q : Pc) : Prop := ∃ x : List IV, x.length = q.n * 3 ∧ ((q.a = none ∧ q.n = 0 ∧ x = []) ∨ ∃ b e, q.a = some ⟨b, 0⟩ ∧ BL G b x e)
theorem PxOk.grd {G : GH} {q : Pc} (h : PxOk G q) (e : Nat) : ∃ x, grdO (gnew G [] e) q.a q.n 3 = some x := by
  obtain ⟨x, h1, ⟨h2, h3, h4⟩ | ⟨b, e', h2, h3⟩⟩ := h
  · exact ⟨[], by rw [h2, h3]; rfl⟩
  · exact ⟨x, by rw [h2]; exact (h3.keep (keeps_new G [] e (Nat.le_refl _)) h3.lt).grd h1⟩
theorem PxOk.keep {G G' : GH} {q : Pc} {base : Nat} (h : PxOk G q) (k : Keeps base G G') (hb : G.length ≤ base) : PxOk G' q := by
  obtain ⟨x, h1, h2 | ⟨b, e, h2, h3⟩⟩ := h
  · exact ⟨x, h1, .inl h2⟩
  · exact ⟨x, h1, .inr ⟨b, e, h2, h3.keep k (by have := h3.lt; omega)⟩⟩
abbrev SC8 (O : Ora R) : Prop := ∀ (q : Pc) (G : GH), PxOk G q → q.n ≤ 500 → ∃ G' a', Keeps G.length G G' ∧ ∀ (k : IV → GH → Option R), O fn_law08_Copied [.agg [.int .i64 q.w, .int .i64 q.h, .slice q.a q.n]] G k = k (.agg [.int .i64 q.w, .int .i64 q.h, .slice a' q.n]) G'
theorem c8_body {F : Nat} (q : Pc) (G : GH) (h : PxOk G q) (hn : q.n ≤ 500) : ∃ G' a', Keeps G.length G G' ∧ ∀ (k : IV → GH → Option R), bodyC Try.prog O [1, 2, 777777] F Try.f23 [.agg [.int .i64 q.w, .int .i64 q.h, .slice q.a q.n]] G k = k (.agg [.int .i64 q.w, .int .i64 q.h, .slice a' q.n]) G' := by
  obtain ⟨x, hx⟩ := h.grd 48
  have hr : q.n * 24 ≤ roomI := by unfold roomI; omega
  obtain ⟨G', h1, h2, _, _⟩ := app_new G 48 3 24 q.n x hr
  refine ⟨G', some ⟨G.length + 1, 0⟩, h2, fun k => ?_⟩
  rw [e_law08_Copied, hx, Option.bind_some, h1, Option.bind_some, Nat.zero_add]

theorem ivSl' (a : Option GA) (n : Nat) : ivSlice (.slice a n) = some (a, n) := rfl
theorem ivA3 (x y z : IV) : ivAgg 3 (.agg [x, y, z]) = some [x, y, z] := rfl
theorem ivT2' (x y : IV) : ivTup 2 (.tuple [x, y]) = some [x, y] := rfl
theorem cp_loop (hC : SC8 O) {a : Option GA} {n : Nat} {qs : List Pc} (hn : n ≤ 10) (hq : ∀ q ∈ qs, q.n ≤ 500) {base : Nat} : ∀ (r i : Nat) (G : GH) (s : Option GA) (cs : List IV), i + r = n → base ≤ G.length → RL pics G a n qs → (∀ q ∈ qs, PxOk G q) → Sl base G 59 3 s i cs → (∀ b, a = some ⟨b, 0⟩ → b < base) →
    (∀ q ∈ qs, ∀ b, q.a = some ⟨b, 0⟩ → b < base) → ∃ G' s', Keeps base G G' ∧ ∀ (kk : IV → GH → Option R) (j : Nat), r < j →
    l_law09_Copied_0 O (a_law09_Copied_00 O kk) j a n s i (i : Int) G = kk (.slice s' n) G' := by
  intro r
  induction r with
  | zero =>
    intro i G s cs hi hb hQ hP hS ha hqa
    refine ⟨G, s, Keeps.refl _ _, fun kk j hj => ?_⟩
    obtain ⟨j, rfl⟩ : ∃ j', j = j' + 1 := ⟨j - 1, by omega⟩
    simp only [l_law09_Copied_0, u_law09_Copied_0]
    rw [decide_eq_false (by omega), cond_false, show i = n by omega]
    rfl
  | succ r ih =>
    intro i G s cs hi hb hQ hP hS ha hqa
    have hlen := hQ.1
    have hi' : i < qs.length := by omega
    have hg := List.getElem?_eq_getElem hi'
    have hm := List.getElem_mem hi'
    obtain ⟨p, l0, l1, l2, l3⟩ := pl_ld hQ hg
    obtain ⟨G1, a1, k1, h1⟩ := hC qs[i] G (hP _ hm) (hq _ hm)
    have hS1 := hS.keep k1 (Nat.le_refl _)
    obtain ⟨s2, G2, h2, hS2, k2⟩ := sl_append (bytes := 40) (x := [.int .i64 qs[i].w, .int .i64 qs[i].h, .slice a1 qs[i].n]) hS1 (by have := k1.1; omega) rfl (by unfold roomI; omega)
    have kb : Keeps base G G2 := (k1.mono hb).trans k2
    have keepQ : RL pics G2 a n qs := by
      refine ⟨hQ.1, fun hn' => ?_⟩
      obtain ⟨b, e, e1, e2⟩ := hQ.2 hn'
      exact ⟨b, e, e1, e2.keep kb (ha b e1)⟩
    have keepP : ∀ q ∈ qs, PxOk G2 q := by
      intro q hq'
      obtain ⟨x, e1, e2 | ⟨b, e, e2, e3⟩⟩ := hP q hq'
      · exact ⟨x, e1, .inl e2⟩
      · exact ⟨x, e1, .inr ⟨b, e, e2, e3.keep kb (hqa q hq' b e2)⟩⟩
    obtain ⟨G3, s3, k3, h3⟩ := ih (i + 1) G2 (some s2) _ (by omega) (by have := kb.1; omega) keepQ keepP hS2 ha hqa
    refine ⟨G3, s3, kb.trans k3, fun kk j hj => ?_⟩
    obtain ⟨j, rfl⟩ : ∃ j', j = j' + 1 := ⟨j - 1, by omega⟩
    have hgr := grd_gnew G1 [.int .i64 qs[i].w, .int .i64 qs[i].h, .slice a1 qs[i].n] 59 (1 * 3) rfl
    simp only [l_law09_Copied_0, u_law09_Copied_0]
    rw [decide_eq_true (by omega), cond_true, l0, Option.bind_some, l1, Option.bind_some, l2, Option.bind_some, l3, Option.bind_some, h1]
    rw [ivA3]
    simp only [Option.bind_some, List.getD_cons_zero, List.getD_cons_succ, ivI, ivSl', hgr, h2]
    rw [wrapI (by omega) (by omega), show (i : Int) + 1 = ((i + 1 : Nat) : Int) by omega]
    exact h3 kk j (by omega)
abbrev SCp (O : Ora R) : Prop := ∀ (a : Option GA) (n : Nat) (qs : List Pc) (G : GH), RL pics G a n qs → (∀ q ∈ qs, PxOk G q) → n ≤ 10 → (∀ q ∈ qs, q.n ≤ 500) → ∃ G' a', Keeps G.length G G' ∧ ∀ (k : IV → GH → Option R), O fn_law09_Copied [.slice a n] G k = k (.slice a' n) G'
theorem PxOk.some_lt {G : GH} {q : Pc} (h : PxOk G q) {b : Nat} (hq : q.a = some ⟨b, 0⟩) : b < G.length := by
  obtain ⟨x, h1, ⟨h2, _⟩ | ⟨b', e, h2, h3⟩⟩ := h
  · rw [h2] at hq; cases hq
  · rw [h2] at hq; cases hq; exact h3.lt
theorem cp_body (hC : SC8 O) {F : Nat} (hF : 1000 ≤ F) (a : Option GA) (n : Nat) (qs : List Pc) (G : GH) (hQ : RL pics G a n qs) (hP : ∀ q ∈ qs, PxOk G q) (hn : n ≤ 10) (hq : ∀ q ∈ qs, q.n ≤ 500) : ∃ G' a', Keeps G.length G G' ∧ ∀ (k : IV → GH → Option R), bodyC Try.prog O lo11 F Try.f11 [.slice a n] G k = k (.slice a' n) G' := by
  rcases Nat.eq_zero_or_pos n with h0 | h0
  · subst h0
    refine ⟨G, none, Keeps.refl _ _, fun k => ?_⟩
    obtain ⟨F, rfl⟩ : ∃ F', F = F' + 1 := ⟨F - 1, by omega⟩
    rw [e_law09_Copied]
    simp only [u_law09_Copied, L_law09_Copied_0, l_law09_Copied_0, u_law09_Copied_0]
    rw [decide_eq_false (by omega), cond_false]
    rfl
  · obtain ⟨b, e, rfl, hB⟩ := hQ.2 h0
    obtain ⟨G', s', k1, h1⟩ := cp_loop hC (n := n) (qs := qs) hn hq n 0 G none [] (by omega) (Nat.le_refl _) hQ hP (sl_nil _ _ _ _) (fun b' hb' => by cases hb'; exact hB.lt) (fun q hq' b' hb' => (hP q hq').some_lt hb')
    refine ⟨G', s', k1, fun k => ?_⟩
    rw [e_law09_Copied, u_law09_Copied, L_law09_Copied_0]
    exact h1 k F (by omega)

theorem checks_body (hA : SQAw O) (hL : SLg O) (hCp : SCp O) (hP : SCkp O) (hR : SCkr O) {F : Nat} (a pa : Option GA) (n m : Nat) (ts : List Tx) (qs : List Pc) (G : GH) (hT : RL tcs G a n ts) (hB : n = 0 → a = none ∨ ∃ b e, a = some ⟨b, 0⟩ ∧ BL G b [] e) (hQ : RL pics G pa m qs) (hw : ∀ t ∈ ts, t.w) (hX : ∀ q ∈ qs, PxOk G q) :
    ∃ G', ∀ (k : IV → GH → Option R), bodyC Try.prog O [777777] F Try.f3 [.slice a n, .slice pa m] G k = k (.bool true) G' := by
  cases hlg : longB n m qs with
  | true =>
    refine ⟨G, fun k => ?_⟩
    rw [e_law09_TextureChecks, hA, ivB, Bool.not_true, cond_false, hL a pa n m qs G hQ, ivB, hlg, cond_true]
  | false =>
    simp only [longB, Bool.or_eq_false_iff, decide_eq_false_iff_not, List.any_eq_false, decide_eq_true_eq] at hlg
    obtain ⟨g1, g2, g3⟩ := hlg
    have hgr : grdO (gnew G [] 52) a n 8 = some ((ts.map tcs).flatten) := by
      rcases Nat.eq_zero_or_pos n with h0 | h0
      · subst h0
        have ht : ts = [] := List.length_eq_zero_iff.1 hT.1
        subst ht
        rcases hB rfl with rfl | ⟨b, e, rfl, hb⟩
        · rfl
        · exact (hb.keep (keeps_new G [] 52 (Nat.le_refl _)) hb.lt).grd (by simp)
      · obtain ⟨b, e, rfl, hb⟩ := hT.2 h0
        exact (hb.keep (keeps_new G [] 52 (Nat.le_refl _)) hb.lt).grd (by rw [recs_len tcs_length, hT.1])
    obtain ⟨G1, h1, k1, l1, b1⟩ := app_new G 52 8 64 n ((ts.map tcs).flatten) (by unfold roomI; omega)
    have hQ1 := hQ.keep k1 (Nat.le_refl _)
    obtain ⟨G2, a2, k2, h2⟩ := hCp pa m qs G1 hQ1 (fun q hq => (hX q hq).keep k1 (Nat.le_refl _)) (by omega) (fun q hq => by have := g3 q hq; omega)
    have hT2 : RL tcs G2 (some ⟨G.length + 1, 0⟩) n ts := ⟨hT.1, fun _ => ⟨_, 52, rfl, ⟨1, by decide, by rw [k2.2 _ (by omega)]; exact b1⟩⟩⟩
    obtain ⟨G3, k3, h3⟩ := hP (some ⟨G.length + 1, 0⟩) a2 n m ts G2 hT2 hw (by omega)
    have kk : Keeps G.length G G3 := (k1.trans (k2.mono (by omega))).trans (k3.mono (by have := k2.1; omega))
    have h4 := hR a n m ts G3 (hT.keep kk (Nat.le_refl _)) hw (by omega)
    refine ⟨G3, fun k => ?_⟩
    rw [e_law09_TextureChecks, hA, ivB, Bool.not_true, cond_false, hL a pa n m qs G hQ, ivB]
    rw [show longB n m qs = false by simp only [longB, Bool.or_eq_false_iff, decide_eq_false_iff_not, List.any_eq_false, decide_eq_true_eq]; exact ⟨g1, g2, g3⟩, cond_false, hgr, Option.bind_some, h1, Option.bind_some, h2, ivSl', Option.bind_some, Nat.zero_add, h3, ivT2', Option.bind_some]
    simp only [List.getD_cons_zero, List.getD_cons_succ, ivI, h4, ivT2', Option.bind_some, beq_self_eq_true, cond_true]
end
end Go.LI.Film
