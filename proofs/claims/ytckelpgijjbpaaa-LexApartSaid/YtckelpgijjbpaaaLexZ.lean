/- The reader of a text: all tokens. -/
import Derived.Test.YtckelpgijjbpaaaLexY
namespace Go.LI.Lex
open Go.Proofs.Ytckelpgijjbpaaa Go Go.Proofs Go.LI
set_option linter.unusedVariables false
set_option linter.unusedSimpArgs false
attribute [local irreducible] runL

structure Tk where
  k : Int
  w : List UInt8
  x : Nat
  l : Int
  deriving DecidableEq
def Tk.cells (t : Tk) : List IV := tokI t.k t.w t.x t.l
def tkCells (ts : List Tk) : List IV := ts.flatMap Tk.cells

/-- A row of tokens stands in the heap. -/
def Laid (G : GH) (r : Nat) (a : Option GA) (ts : List Tk) : Prop :=
  match a with
  | none => ts = []
  | some a => a.o = 0 ∧ a.b ≠ r ∧ G[a.b]? = some ⟨tkCells ts, 32, 1⟩

/-- All tokens: those ahead of the end or of the first error, its line, its number. -/
def allR : Nat → List UInt8 → Int → Int → Option (List Tk × Int × Int)
  | 0, _, _, _ => none
  | f + 1, rest, l, n =>
    let x := nextR rest l n
    bif x.e != 0 then some ([], x.l, x.e)
    else bif x.k == 4 then some ([], 0, 0)
    else (allR f x.rest x.l x.n).map fun y => (⟨x.k, x.w, x.x, x.tl⟩ :: y.1, y.2)

theorem allR_some : ∀ (f : Nat) (rest : List UInt8) (l n : Int), 0 ≤ n → 16385 ≤ n + f → ∃ out, allR (f + 1) rest l n = some out
  | f, rest, l, n, h0, hf => by
    simp only [allR]
    cases he : ((nextR rest l n).e != 0)
    · simp only [cond_false]
      cases hk : ((nextR rest l n).k == 4)
      · simp only [cond_false]
        obtain ⟨h1, h2⟩ := nextR_less rest l n (by simpa using he) (by simpa using hk)
        cases f with
        | zero => omega
        | succ f =>
          obtain ⟨out, ho⟩ := allR_some f (nextR rest l n).rest (nextR rest l n).l (nextR rest l n).n (by omega) (by omega)
          rw [ho]
          exact ⟨_, rfl⟩
      · exact ⟨_, rfl⟩
    · exact ⟨_, rfl⟩

theorem tkCells_length (ts : List Tk) : (tkCells ts).length = ts.length * 4 := by
  induction ts with
  | nil => rfl
  | cons t ts ih => simp [tkCells, Tk.cells, tokI] at ih ⊢; omega
theorem tkCells_append (ts us : List Tk) : tkCells (ts ++ us) = tkCells ts ++ tkCells us := by simp [tkCells]

theorem gst_new (G : GH) (z v : List IV) (e : Nat) (h : v.length = z.length) : gst (gnew G z e) (gaddr G) v = some (gnew G v e) := by
  simp [gst, gnew, gaddr, splice, h, List.drop_eq_nil_of_le]
theorem ld_new_k (G : GH) (k : Int) (w : List UInt8) (x : Nat) (l : Int) : ldInt (gnew G (tokI k w x l) 32) .i64 (GA.add (gaddr G) 0) = some k := by simp [ldInt, gld, gnew, gaddr, GA.add, tokI]
theorem ld_new_w (G : GH) (k : Int) (w : List UInt8) (x : Nat) (l : Int) : ldStr (gnew G (tokI k w x l) 32) (GA.add (gaddr G) 1) = some w := by simp [ldStr, gld, gnew, gaddr, GA.add, tokI]
theorem ld_new_x (G : GH) (k : Int) (w : List UInt8) (x : Nat) (l : Int) : ldFloat (gnew G (tokI k w x l) 32) .f64 (GA.add (gaddr G) 2) = some x := by simp [ldFloat, gld, gnew, gaddr, GA.add, tokI]
theorem ld_new_l (G : GH) (k : Int) (w : List UInt8) (x : Nat) (l : Int) : ldInt (gnew G (tokI k w x l) 32) .i64 (GA.add (gaddr G) 3) = some l := by simp [ldInt, gld, gnew, gaddr, GA.add, tokI]
theorem grd_new (G : GH) (c : List IV) (e n : Nat) (h : c.length = n) : grd (gnew G c e) (gaddr G) n = some c := by
  subst h; simp [grd, gnew, gaddr]

theorem get_new {G : GH} {c : List IV} {e i : Nat} {x : Blk} (h : G[i]? = some x) : (gnew G c e)[i]? = some x := by
  have : i < G.length := (List.getElem?_eq_some_iff.1 h).1
  simp [gnew, List.getElem?_append_left this, h]
theorem Laid.new {G : GH} {r : Nat} {a : Option GA} {ts : List Tk} {c : List IV} {e : Nat} (h : Laid G r a ts) : Laid (gnew G c e) r a ts := by
  cases a with
  | none => exact h
  | some a => exact ⟨h.1, h.2.1, get_new h.2.2⟩

theorem app_tok {G : GH} {r : Nat} {a : Option GA} {ts : List Tk} {x : Blk} (h : Laid G r a ts) (hr : G[r]? = some x) (hlen : (ts.length + 1) * 40 ≤ roomI) (t : Tk) :
    ∃ a' G', gappend G 32 4 40 a ts.length t.cells 1 = some (a', G') ∧ Laid G' r a' (ts ++ [t]) ∧ G'[r]? = some x ∧ (∀ i, i < G.length → (∀ y, a = some y → i ≠ y.b) → G'[i]? = G[i]?) ∧ ∀ y, a' = some y → G.length ≤ y.b := by
  have hrl : r < G.length := (List.getElem?_eq_some_iff.1 hr).1
  cases a with
  | none =>
    have h : ts = [] := h
    subst h
    refine ⟨some (gaddr G), gnew G t.cells 32, ?_, ⟨rfl, ?_, ?_⟩, get_new hr, fun i hi _ => by simp [gnew, List.getElem?_append_left hi], fun y hy => by injection hy with hy; subst hy; simp [gaddr]⟩
    · simp only [gappend, List.length_nil]
      rw [if_pos (by simpa using hlen)]; rfl
    · simp [gaddr]; omega
    · simp [gaddr, gnew, tkCells]
  | some a =>
    obtain ⟨h1, h2, h3⟩ := h
    have hk : gkill G a.b = G.set a.b ⟨tkCells ts, 32, 2⟩ := by simp [gkill, h3]
    refine ⟨some (gaddr (gkill G a.b)), gnew (gkill G a.b) (tkCells ts ++ t.cells) 32, ?_, ⟨rfl, ?_, ?_⟩, ?_, fun i hi hy => ?_, fun y hy => by injection hy with hy; subst hy; rw [hk]; simp [gaddr]⟩
    · have hown : gown G a.b 32 = true := by simp [gown, h3]
      have hgrd : grd G a (ts.length * 4) = some (tkCells ts) := by
        simp only [grd, h3, h1, Nat.zero_add]
        rw [if_pos ⟨by decide, by rw [tkCells_length]; exact Nat.le_refl _⟩, List.drop_zero, List.take_of_length_le (by rw [tkCells_length]; exact Nat.le_refl _)]
      simp only [gappend, if_pos hlen, hown, hgrd]
      rw [hk]
      simp [gaddr]
    · rw [hk]; simp [gaddr]; omega
    · simp [gaddr, gnew, tkCells]
    · refine get_new ?_
      rw [hk, List.getElem?_set_ne h2]
      exact hr
    · rw [hk, show (gnew (G.set a.b ⟨tkCells ts, 32, 2⟩) (tkCells ts ++ t.cells) 32)[i]? = (G.set a.b ⟨tkCells ts, 32, 2⟩)[i]? from List.getElem?_append_left (by simpa using hi), List.getElem?_set_ne (Ne.symm (hy a rfl))]

theorem l10_spec {R : Type} (m : Nat) {r : Nat} {t : List UInt8} (hlen : t.length < 1152921504606846976) (N : Nat) (hN : N ≤ r) : ∀ (f : Nat) (rest : List UInt8) (l n : Int) (G : GH) (a : Option GA) (ts : List Tk) (out : List Tk × Int × Int),
    (∀ y, a = some y → N ≤ y.b) → G[r]? = some (rs t rest l n 0) → rest <:+ t → 0 ≤ l → l + rest.length < 2 ^ 62 → 0 ≤ n → n + f < 2 ^ 62 → Laid G r a ts → ((ts.length : Int) ≤ n ∧ n ≤ 16384) → allR f rest l n = some out →
    ∃ a' G', Laid G' r a' (ts ++ out.1) ∧ (∀ y, a' = some y → N ≤ y.b) ∧ (∀ i, i < N → G'[i]? = G[i]?) ∧ ∀ K : Option GA → Nat → Int → Int → GH → Option R, l10_0 (runL Try.prog lexLib lo0 1152921504606846976 (m + 4)) K f (some ⟨r, 0⟩) a ts.length G = K a' (ts ++ out.1).length out.2.1 out.2.2 G'
  | 0, rest, l, n, G, a, ts, out, hNa, h, hs, h0, h1, hn0, hn1, hl, hr, ho => by simp [allR] at ho
  | f + 1, rest, l, n, G, a, ts, out, hNa, h, hs, h0, h1, hn0, hn1, hl, hr, ho => by
    have inv := nextR_inv rest l n
    have less := nextR_less rest l n
    have hrl : r < G.length := (List.getElem?_eq_some_iff.1 h).1
    have hx := fun k : IV → GH → Option R => s15 m h hs hlen h0 h1 hn0 (by omega) k
    simp only [nxOut] at hx
    simp only [allR] at ho
    generalize nextR rest l n = x at inv less hx ho
    -- the heap behind the token
    have hG2 : (G.set r (rs t x.rest x.l x.n x.b) ++ x.gb)[r]? = some (rs t x.rest x.l x.n x.b) := by
      rw [List.getElem?_append_left (by simpa using hrl), at_set h]
    have hl2 : Laid (G.set r (rs t x.rest x.l x.n x.b) ++ x.gb) r a ts := by
      cases a with
      | none => exact hl
      | some a =>
        obtain ⟨q1, q2, q3⟩ := hl
        refine ⟨q1, q2, ?_⟩
        have : a.b < G.length := (List.getElem?_eq_some_iff.1 q3).1
        rw [List.getElem?_append_left (by simpa using this), List.getElem?_set_ne (Ne.symm q2), q3]
    have hf2 : ∀ i, i < N → (G.set r (rs t x.rest x.l x.n x.b) ++ x.gb)[i]? = G[i]? := fun i hi => by
      rw [List.getElem?_append_left (by simp; omega), List.getElem?_set_ne (by omega)]
    generalize (G.set r (rs t x.rest x.l x.n x.b) ++ x.gb) = G2 at hG2 hl2 hx hf2
    have hr2 : r < G2.length := (List.getElem?_eq_some_iff.1 hG2).1
    have hf3 : ∀ (c : List IV) (e : Nat) (i : Nat), i < N → (gnew G2 c e)[i]? = G[i]? := fun c e i hi => by
      rw [← hf2 i hi]; exact List.getElem?_append_left (by omega)
    have hl3 : Laid (gnew G2 (tokI x.k x.w x.x x.tl) 32) r a ts := hl2.new
    have hr3 : (gnew G2 (tokI x.k x.w x.x x.tl) 32)[r]? = some (rs t x.rest x.l x.n x.b) := get_new hG2
    have step : ∀ K : Option GA → Nat → Int → Int → GH → Option R, l10_0 (runL Try.prog lexLib lo0 1152921504606846976 (m + 4)) K (f + 1) (some ⟨r, 0⟩) a ts.length G =
        bif x.e != 0 then K a ts.length x.l x.e (gnew G2 (tokI x.k x.w x.x x.tl) 32) else bif x.k == 4 then K a ts.length 0 0 (gnew G2 (tokI x.k x.w x.x x.tl) 32)
        else (gappend (gnew (gnew G2 (tokI x.k x.w x.x x.tl) 32) (tokI x.k x.w x.x x.tl) 32) 32 4 40 a ts.length (tokI x.k x.w x.x x.tl) 1).bind fun r19 => l10_0 (runL Try.prog lexLib lo0 1152921504606846976 (m + 4)) K f (some ⟨r, 0⟩) r19.1 (ts.length + 1) r19.2 := by
      intro K
      simp only [l10_0]
      rw [hx]
      simp only [ivTup2, tokI, ivAgg4, ivInt_i64, ivStr_str, ivFloat_f64, getD0, getD1, getD2, getD3, Option.bind_some]
      have e1 := gst_new G2 [.int .i64 0, .str [], .float .f64 0, .int .i64 0] (tokI x.k x.w x.x x.tl) 32 rfl
      have k1 := ld_new_k G2 x.k x.w x.x x.tl
      have k2 := ld_new_w G2 x.k x.w x.x x.tl
      have k3 := ld_new_x G2 x.k x.w x.x x.tl
      have k4 := ld_new_l G2 x.k x.w x.x x.tl
      have k5 := grd_new (gnew G2 (tokI x.k x.w x.x x.tl) 32) (tokI x.k x.w x.x x.tl) 32 (1 * 4) rfl
      have k6 := ld_l hr3
      simp only [tokI] at e1 k1 k2 k3 k4 k5 k6
      rw [e1]
      simp only [Option.bind_some, k1, k2, k3, k4, k5, k6]
    by_cases he : (x.e != 0) = true
    · rw [he, cond_true] at ho
      injection ho with ho
      subst ho
      refine ⟨a, _, by simpa using hl3, hNa, hf3 _ _, fun K => ?_⟩
      rw [step, he, cond_true]
      simp
    · rw [Bool.eq_false_iff.2 he, cond_false] at ho
      by_cases hk : (x.k == 4) = true
      · rw [hk, cond_true] at ho
        injection ho with ho
        subst ho
        refine ⟨a, _, by simpa using hl3, hNa, hf3 _ _, fun K => ?_⟩
        rw [step, Bool.eq_false_iff.2 he, cond_false, hk, cond_true]
        simp
      · rw [Bool.eq_false_iff.2 hk, cond_false] at ho
        have hx0 : x.e = 0 := by simpa using he
        have hb : x.b = 0 := inv.2.2.2.2.2 hx0
        have hle := less hx0 (by simpa using hk)
        cases hy : allR f x.rest x.l x.n with
        | none => rw [hy] at ho; cases ho
        | some y =>
          rw [hy] at ho
          injection ho with ho
          subst ho
          obtain ⟨a', G', q1, q2, q3, q4, q5⟩ := app_tok (hl3.new (c := tokI x.k x.w x.x x.tl) (e := 32)) (get_new hr3) (by unfold roomI; omega) ⟨x.k, x.w, x.x, x.tl⟩
          rw [hb] at q3
          have hlen3 : G2.length ≤ (gnew (gnew G2 (tokI x.k x.w x.x x.tl) 32) (tokI x.k x.w x.x x.tl) 32).length := by simp [gnew]
          obtain ⟨a2, G2', p1, pN, p0, p2⟩ := l10_spec (R := R) m hlen N hN f x.rest x.l x.n G' a' (ts ++ [⟨x.k, x.w, x.x, x.tl⟩]) y (fun z hz => by have := q5 z hz; omega) q3 (inv.1.trans hs) (by omega) (by omega) (by omega) (by omega) q2 (by simp; omega) hy
          refine ⟨a2, G2', by simpa using p1, pN, fun i hi => ?_, fun K => ?_⟩
          · rw [p0 i hi, q4 i (by omega) (fun z hz => by have := hNa z hz; omega)]
            rw [show (gnew (gnew G2 (tokI x.k x.w x.x x.tl) 32) (tokI x.k x.w x.x x.tl) 32)[i]? = (gnew G2 (tokI x.k x.w x.x x.tl) 32)[i]? from List.getElem?_append_left (by simp [gnew]; omega)]
            exact hf3 _ _ i hi
          rw [step, Bool.eq_false_iff.2 he, cond_false, Bool.eq_false_iff.2 hk, cond_false]
          rw [show tokI x.k x.w x.x x.tl = Tk.cells ⟨x.k, x.w, x.x, x.tl⟩ from rfl] at *
          rw [q1]
          simp only [Option.bind_some]
          have := p2 K
          simpa using this
end Go.LI.Lex
