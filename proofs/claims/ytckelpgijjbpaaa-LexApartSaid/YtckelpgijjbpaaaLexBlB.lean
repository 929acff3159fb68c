/- LexBlanks: what the interpreter gives is true. -/
import Derived.Test.YtckelpgijjbpaaaLexBlA
import Derived.Test.YtckelpgijjbpaaaLexG2
import Derived.Test.YtckelpgijjbpaaaLexNilB
namespace Go.LI.Lex
open Go.Proofs.Ytckelpgijjbpaaa Go Go.Proofs Go.LI
set_option linter.unusedVariables false
set_option linter.unusedSimpArgs false
set_option maxRecDepth 100000

theorem tk_set {ts : List Tk} {i : Nat} {x y : Tk} (h : ts[i]? = some x) (hk : y.k = x.k) (hw : y.w = x.w) (hx : y.x = x.x) : splice (tkCells ts) (i * 4 + 3) [.int .i64 y.l] = tkCells (ts.set i y) := by
  induction ts generalizing i with
  | nil => simp at h
  | cons t ts ih =>
    cases i with
    | zero =>
      simp at h
      subst h
      simp [splice, tkCells, Tk.cells, tokI, hk, hw, hx]
    | succ i =>
      have := ih (i := i) (by simpa using h)
      simp only [List.set_cons_succ]
      have e : ∀ (cs : List IV), tkCells (t :: ts) = t.cells ++ tkCells ts := fun _ => rfl
      rw [show tkCells (t :: ts) = t.cells ++ tkCells ts from rfl, show tkCells (t :: ts.set i y) = t.cells ++ tkCells (ts.set i y) from rfl, ← this]
      have hl : t.cells.length = 4 := rfl
      unfold splice
      have hz : t.cells.drop ((i + 1) * 4 + 3 + [IV.int .i64 y.l].length) = [] := List.drop_eq_nil_of_le (by rw [hl]; simp <;> omega)
      rw [List.take_append, List.drop_append, hl, List.take_of_length_le (by omega), hz, show (i + 1) * 4 + 3 - 4 = i * 4 + 3 by omega]
      simp only [List.length_singleton, List.nil_append]
      rw [show (i + 1) * 4 + 3 + 1 - 4 = i * 4 + 3 + 1 by omega]
      simp

/-- A token's line is written. -/
theorem at_store {G : GH} {a : Option GA} {ts : List Tk} {i : Nat} {x y : Tk} (h : At G a ts) (hi : ts[i]? = some x) (hk : y.k = x.k) (hw : y.w = x.w) (hx : y.x = x.x) :
    ∃ ga G', idx? a ts.length (i : Int) 4 = some ga ∧ a.map (·.b) = some ga.b ∧ gst G (GA.add ga 3) [.int .i64 y.l] = some G' ∧ At G' a (ts.set i y) ∧ ∀ j, j ≠ ga.b → G'[j]? = G[j]? := by
  have hlt : i < ts.length := (List.getElem?_eq_some_iff.1 hi).1
  cases a with
  | none => have h : ts = [] := h; subst h; simp at hlt
  | some a =>
    obtain ⟨h1, h2⟩ := h
    have hb := (List.getElem?_eq_some_iff.1 h2).1
    refine ⟨a.add (i * 4), G.set a.b ⟨tkCells (ts.set i y), 32, 1⟩, ?_, rfl, ?_, ⟨h1, by rw [List.getElem?_set_self hb]⟩, fun j hj => List.getElem?_set_ne (Ne.symm hj)⟩
    · simp only [idx?, Int.toNat_natCast]
      rw [if_pos (by omega)]
    · simp only [gst, GA.add, h1, h2, Nat.zero_add, List.length_singleton]
      rw [if_pos ⟨trivial, by rw [tkCells_length]; omega⟩, tk_set hi hk hw hx]

def mixT (d : Int) (i : Nat) (ts : List Tk) : List Tk := (ts.take i).map (Tk.mv d) ++ ts.drop i
theorem mixT_len (d : Int) (i : Nat) (ts : List Tk) : (mixT d i ts).length = ts.length := by simp [mixT]; omega
theorem mixT_zero (d : Int) (ts : List Tk) : mixT d 0 ts = ts := by simp [mixT]
theorem mixT_get {d : Int} {i : Nat} {ts : List Tk} {x : Tk} (h : ts[i]? = some x) : (mixT d i ts)[i]? = some x := by
  have hlt : i < ts.length := (List.getElem?_eq_some_iff.1 h).1
  unfold mixT
  rw [List.getElem?_append_right (by simp; omega)]
  simp only [List.length_map, List.length_take, List.getElem?_drop]
  rw [show i + (i - min i ts.length) = i by omega, h]
theorem mixT_set {d : Int} {i : Nat} {ts : List Tk} {x : Tk} (h : ts[i]? = some x) : (mixT d i ts).set i (Tk.mv d x) = mixT d (i + 1) ts := by
  have hlt : i < ts.length := (List.getElem?_eq_some_iff.1 h).1
  refine List.ext_getElem? fun j => ?_
  rw [List.getElem?_set]
  unfold mixT
  by_cases hj : i = j
  · subst hj
    rw [if_pos rfl, if_pos (by have := mixT_len d i ts; unfold mixT at this; omega), List.getElem?_append_left (by simp; omega), List.getElem?_map, List.getElem?_take_of_lt (by omega), h]
    rfl
  · rw [if_neg hj]
    by_cases hj2 : j < i
    · rw [List.getElem?_append_left (by simp; omega), List.getElem?_append_left (by simp; omega), List.getElem?_map, List.getElem?_map, List.getElem?_take_of_lt hj2, List.getElem?_take_of_lt (by omega)]
    · rw [List.getElem?_append_right (by simp; omega), List.getElem?_append_right (by simp; omega)]
      simp only [List.length_map, List.length_take, List.getElem?_drop]
      congr 1; omega

section
variable {R : Type}
theorem blanks_loop {O : Ora R} {ts : List Tk} {a1 a2 : Option GA} {d : Int} (hd0 : 0 ≤ d) (hd1 : d < 50) (hnn : ∀ t ∈ ts, nn (FloatKind.format .f64) t.x) (hl : ∀ t ∈ ts, 0 ≤ t.l ∧ t.l < 2 ^ 62) (hts : ts.length ≤ 16384) (hne : ∀ x y, a1 = some x → a2 = some y → x.b ≠ y.b) (k : IV → GH → Option R) :
    ∀ (e f i : Nat) (G : GH), i + e = ts.length → e < f → At G a1 (mixT d i ts) → At G a2 (ts.map (Tk.mv d)) →
      ∃ G', l7_1 O (a7_1ret O k) (a7_10 O k) f d a1 ts.length a2 ts.length ts.length i G = k (.bool true) G'
  | 0, f + 1, i, G, hi, hf, A1, A2 => by
    refine ⟨G, ?_⟩
    have hc : decide ((i : Int) < (ts.length : Int)) = false := by simp; omega
    simp only [l7_1, u7_1]
    rw [hc, cond_false]
    rfl
  | e + 1, f + 1, i, G, hi, hf, A1, A2 => by
    have hc : decide ((i : Int) < (ts.length : Int)) = true := by simp; omega
    obtain ⟨x, hx⟩ : ∃ x, ts[i]? = some x := ⟨ts[i], List.getElem?_eq_getElem (by omega)⟩
    have hmem : x ∈ ts := List.mem_of_getElem? hx
    obtain ⟨hl0, hl1⟩ := hl x hmem
    have hm := mixT_get (d := d) hx
    obtain ⟨g1, p0, p1, p2, p3, p4⟩ := at_idx A1 hm
    obtain ⟨g2, G2, q0, q1, q2, q3, q4⟩ := at_store (y := Tk.mv d x) A1 hm rfl rfl rfl
    rw [mixT_len] at p0 q0
    rw [mixT_set hx] at q3
    have hgg : g2 = g1 := Option.some.inj (q0.symm.trans p0)
    subst hgg
    have hx2 : (mixT d (i + 1) ts)[i]? = some (Tk.mv d x) := by rw [← mixT_set hx, List.getElem?_set_self (by rw [mixT_len]; omega)]
    obtain ⟨g3, r0, r1, r2, r3, r4⟩ := at_idx q3 hx2
    rw [mixT_len] at r0
    have hgg : g3 = g2 := Option.some.inj (r0.symm.trans q0)
    subst hgg
    have A2' : At G2 a2 (ts.map (Tk.mv d)) := A2.grow fun y hy => by
      refine q4 y.b ?_
      obtain ⟨z, rfl⟩ : ∃ z, a1 = some z := by
        cases a1 with
        | none => cases q1
        | some z => exact ⟨z, rfl⟩
      have e1 : z.b = g3.b := by simpa using q1
      rw [← e1]
      exact Ne.symm (hne z y rfl hy)
    obtain ⟨g4, s0, s1, s2, s3, s4⟩ := at_idx A2' (i := i) (x := Tk.mv d x) (by rw [List.getElem?_map, hx]; rfl)
    rw [List.length_map] at s0
    have w1 : IntKind.wrap .i64 (x.l + d) = x.l + d := IntWalk.i64_in _ (by omega)
    have w2 : IntKind.wrap .i64 ((i : Int) + 1) = ((i + 1 : Nat) : Int) := by rw [IntWalk.i64_in _ (by omega)]; omega
    obtain ⟨G', hG⟩ := blanks_loop hd0 hd1 hnn hl hts hne k e f (i + 1) G2 (by omega) (by omega) q3 A2'
    refine ⟨G', ?_⟩
    simp only [l7_1, u7_1]
    have q2' : gst G (GA.add g3 3) [.int .i64 (x.l + d)] = some G2 := q2
    rw [hc, cond_true, p0, Option.bind_some, p4, Option.bind_some, Option.bind_some, w1, q2', Option.bind_some, Option.bind_some, r1, Option.bind_some, r2, Option.bind_some, r3, Option.bind_some, r4, Option.bind_some, s0, Option.bind_some, s1, Option.bind_some, s2, Option.bind_some, s3, Option.bind_some, s4, Option.bind_some]
    have hfe : feq .f64 (Tk.mv d x).x (Tk.mv d x).x = true := feq_self (hnn x hmem)
    rw [hfe]
    simp only [BEq.rfl, Bool.and_self, Bool.not_true, cond_false]
    rw [w2]
    exact hG

abbrev B10 (O : Ora R) : Prop := ∀ {t : List UInt8}, t.length < 1152921504606846976 → ∀ (G : GH) {out : List Tk × Int × Int}, allR 1152921504606846976 t 1 0 = some out →
    ∃ a' G' r, Laid G' r a' out.1 ∧ (∀ y, a' = some y → G.length ≤ y.b) ∧ (∀ i, i < G.length → G'[i]? = G[i]?) ∧ ∀ k : IV → GH → Option R, O 10 [.str t] G k = k (.tuple [.slice a' out.1.length, .int .i64 out.2.1, .int .i64 out.2.2]) G'
abbrev N20 (O : Ora R) : Prop := ∀ (n : Nat), n < 50 → ∀ (G : GH) (k : IV → GH → Option R), O 20 [.str [10], .int .i64 n] G k = k (.str (List.replicate n 10)) G

theorem out_open {β : Type} (a : Option GA) (n : Nat) (x e : Int) (f : Option GA × Nat → Int → Int → Option β) :
    ((ivTup 3 (.tuple [.slice a n, .int .i64 x, .int .i64 e])).bind fun c => (ivSlice (c.getD 0 undefI)).bind fun y => (ivInt .i64 (c.getD 1 undefI)).bind fun z => (ivInt .i64 (c.getD 2 undefI)).bind fun u => f y z u) = f (a, n) x e := rfl
theorem str_open {β : Type} (s : List UInt8) (f : List UInt8 → Option β) : (ivStr (.str s)).bind f = f s := rfl

theorem blanks_body {F : Nat} (hF : F = 1152921504606846976) {O : Ora R} (h8 : N8 O) (h10 : B10 O) (h20 : N20 O) {s : List UInt8} (p1 : Int) (G : GH) (k : IV → GH → Option R) :
    ∃ G', bodyC Try.prog O lo7 F Try.f7 [.str s, .int .i64 p1] G k = k (.bool true) G' := by
  rw [e7]
  unfold u7
  rw [h8, bool_open]
  simp only [Bool.not_true, cond_false]
  by_cases hl : decide ((s.length : Int) > 20000) = true
  · exact ⟨G, by rw [hl, cond_true]⟩
  rw [Bool.eq_false_iff.2 hl, cond_false]
  have hlen : s.length ≤ 20000 := by simp at hl; omega
  obtain ⟨out, ho⟩ : ∃ out, allR 1152921504606846976 s 1 0 = some out := allR_some 1152921504606846975 s 1 0 (by omega) (by omega)
  obtain ⟨a1, G1, r1, L1, N1, f1, q1⟩ := h10 (by omega) G ho
  rw [q1, out_open]
  have hw : ∃ n : Nat, n < 50 ∧ IntKind.wrap .i64 (Int.tmod (IntKind.wrap .u64 p1) 50) = n := by
    have h0 : 0 ≤ IntKind.wrap .u64 p1 := by
      unfold IntKind.wrap
      simp only [IntKind.signed, Bool.false_and, Bool.false_eq_true, if_false, decide_eq_true_eq]
      first | exact Int.emod_nonneg _ (by decide) | (split <;> omega)
    have h1 : 0 ≤ Int.tmod (IntKind.wrap .u64 p1) 50 := Int.tmod_nonneg _ h0
    have h2 : Int.tmod (IntKind.wrap .u64 p1) 50 < 50 := Int.tmod_lt_of_pos _ (by decide)
    refine ⟨(Int.tmod (IntKind.wrap .u64 p1) 50).toNat, by omega, ?_⟩
    rw [IntWalk.i64_in _ (by omega)]; omega
  obtain ⟨n, hn, hw⟩ := hw
  rw [hw, h20 n hn, str_open]
  have ra : decide ((List.replicate n (10 : UInt8)).length + ([32, 9] : List UInt8).length ≤ roomS) = true := by
    apply decide_eq_true; unfold roomS; simp; omega
  have rb : decide ((List.replicate n (10 : UInt8) ++ [32, 9]).length + s.length ≤ roomS) = true := by
    apply decide_eq_true; unfold roomS; simp; omega
  have rc : decide (((List.replicate n (10 : UInt8) ++ [32, 9]) ++ s).length + ([10] : List UInt8).length ≤ roomS) = true := by
    apply decide_eq_true; unfold roomS; simp; omega
  rw [ra, cond_true, rb, cond_true, rc, cond_true]
  have ho2 : allR 1152921504606846976 (List.replicate n 10 ++ [32, 9] ++ s ++ [10]) 1 0 = some (mvOut n out) := by rw [allR_blanks, ho]; rfl
  obtain ⟨a2, G2, r2, L2, N2, f2, q2⟩ := h10 (t := List.replicate n 10 ++ [32, 9] ++ s ++ [10]) (by simp; omega) G1 ho2
  rw [q2, out_open]
  obtain ⟨c1, c2⟩ := allR_facts _ s 1 0 out (by omega) (by omega) ho
  obtain ⟨d1, d2, d3⟩ := allR_lines _ s 1 0 out (by omega) ho
  simp only [L7_0]
  rw [stepF (by omega)]
  simp only [l7_0, u7_0, mvOut, List.length_map, bne_self_eq_false, cond_false]
  have A1 : At G1 a1 out.1 := L1.at
  have A2 : At G2 a2 (out.1.map (Tk.mv n)) := L2.at
  have lt1 : ∀ y, a1 = some y → y.b < G1.length := by
    intro y hy; subst hy; exact (List.getElem?_eq_some_iff.1 A1.2).1
  have A1' : At G2 a1 out.1 := A1.grow fun y hy => f2 _ (lt1 y hy)
  have fin := blanks_loop (O := O) (ts := out.1) (a1 := a1) (a2 := a2) (d := n) (by omega) (by omega) c2 (fun t ht => by have := d1 t ht; omega) (by omega)
    (fun x y hx hy => by have := lt1 x hx; have := N2 y hy; omega) k out.1.length F 0 G2 (by omega) (by omega) (by rw [mixT_zero]; exact A1') A2
  obtain ⟨G', hG⟩ := fin
  refine ⟨G', ?_⟩
  have go : a7_0N O k (L7_1 O F k) n a1 out.1.length a2 out.1.length G2 = k (.bool true) G' := by
    simp only [a7_0N, L7_1]
    exact hG
  by_cases he : out.2.2 = 0
  · rw [show (out.2.2 != 0) = false by simp [he], cond_false]
    exact go
  · rw [show (out.2.2 != 0) = true by simp [he], cond_true, if_neg he, IntWalk.i64_in _ (by omega), bne_self_eq_false, cond_false]
    exact go

theorem rep_ten (n : Nat) : Go.Lib.repeatL [10] n = List.replicate n 10 := by
  have := Go.Lib.repeatL_replicate 10 1 n
  simpa using this
theorem n20 (n : Nat) : N20 (runL (R := R) Try.prog lexLib lo0 1152921504606846976 (n + 1)) := by
  intro m hm G k
  refine runL_lib ?_
  have h1 : (decide (0 ≤ (m : Int)) && (decide ((m : Int) ≤ 1000) && decide (([10] : List UInt8).length ≤ 1000))) = true := by simp; omega
  show lib20 [.str [10], .int .i64 m] = _
  simp only [lib20]
  rw [h1, cond_true, Int.toNat_natCast, rep_ten]
theorem s7 (t : List UInt8) (p1 : Int) : runL (R := IV) Try.prog lexLib lo0 1152921504606846976 51 7 [.str t, .int .i64 p1] [] (fun v _ => some v) = some (.bool true) := by
  rw [r7]
  obtain ⟨G', h⟩ := blanks_body (F := 1152921504606846976) rfl (O := runL (R := IV) Try.prog lexLib lo0 1152921504606846976 50) (fun G k => awake G k) (fun hl G out ho => s10b 45 hl G rfl ho) (n20 49) (s := t) p1 [] (fun v _ => some v)
  exact h
end
end Go.LI.Lex
