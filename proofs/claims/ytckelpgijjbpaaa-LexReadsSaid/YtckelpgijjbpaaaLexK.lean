/- The reference's reader: all tokens. That there are always all tokens. -/
import Derived.Test.YtckelpgijjbpaaaLexJ
import Derived.Test.YtckelpgijjbpaaaLexAA
namespace Go.LI.Lex
open Go.Proofs.Ytckelpgijjbpaaa Go Go.Proofs Go.LI
set_option linter.unusedVariables false
set_option linter.unusedSimpArgs false

/-- A token takes something, or is the end or an error. -/
theorem nextR_less (rest : List UInt8) (l n : Int) (he : (nextR rest l n).e = 0) (hk : (nextR rest l n).k ≠ 4) : (nextR rest l n).n = n + 1 ∧ n + 1 ≤ 16384 := by
  unfold nextR at he hk ⊢
  generalize skipR false rest l = s at he hk ⊢
  obtain ⟨r1, l1⟩ := s
  cases r1 with
  | nil => exact absurd rfl hk
  | cons c cs =>
    dsimp only at he hk ⊢
    by_cases hm : decide (n + 1 > 16384) = true
    · rw [hm, cond_true] at he; simp [errX] at he
    · have hm' : decide (n + 1 > 16384) = false := by simpa using hm
      rw [hm'] at he hk ⊢
      simp only [cond_false] at he hk ⊢
      refine ⟨?_, by simpa using hm⟩
      revert he
      cases letterB (c.toNat : Int) <;> simp only [cond_false, cond_true]
      · cases (digitB (c.toNat : Int) || (c.toNat : Int) == 45) <;> simp only [cond_false, cond_true]
        · cases ((c.toNat : Int) == 34) <;> simp only [cond_false, cond_true]
          · simp [errX]
          · split
            · simp [errX]
            · rename_i d ds _
              cases ((d.toNat : Int) != 34) <;> simp [errX]
        · split <;> simp [errX]
      · intro _; trivial

theorem allR_some : ∀ (f : Nat) (rest : List UInt8) (l n : Int), 0 ≤ n → 16385 ≤ n + f → ∃ out, allR (f + 1) rest l n = some out
  | f, rest, l, n, h0, hf => by
    simp only [allR]
    cases he : ((nextR rest l n).e != 0)
    · simp only [cond_false]
      cases hk : ((nextR rest l n).k == 4)
      · simp only [cond_false]
        obtain ⟨h1, h2⟩ := nextR_less rest l n (by simpa using he) (by simpa using hk)
        cases f with
        | zero => omega
        | succ f =>
          obtain ⟨out, ho⟩ := allR_some f (nextR rest l n).rest (nextR rest l n).l (nextR rest l n).n (by omega) (by omega)
          rw [ho]
          exact ⟨_, rfl⟩
      · exact ⟨_, rfl⟩
    · exact ⟨_, rfl⟩

section
variable {R : Type} {r : Nat}

abbrev S16 (O : Ora R) : Prop := ∀ {r : Nat} {G : GH} {t rest : List UInt8} {l n : Int}, G[r]? = some (wst t rest l n 0) → rest <:+ t → t.length < 4000000 → 0 ≤ l → l + rest.length < 2 ^ 62 → 0 ≤ n → n < 2 ^ 62 →
    ∃ rest' n', ((nextR rest l n).e = 0 → rest' = (nextR rest l n).rest ∧ n' = (nextR rest l n).n) ∧ ∀ k : IV → GH → Option R,
      O 16 [.ptr (some ⟨r, 0⟩)] G k = k (.tuple [.agg (tokI (nextR rest l n).k (nextR rest l n).w (nextR rest l n).x (nextR rest l n).tl), .int .i64 (nextR rest l n).e]) (G.set r (wst t rest' (nextR rest l n).l n' (nextR rest l n).b))

theorem l11_spec {O : Ora R} (h16 : S16 O) {t : List UInt8} (hlen : t.length < 4000000) (N : Nat) (hN : N ≤ r) : ∀ (f : Nat) (rest : List UInt8) (l n : Int) (G : GH) (a : Option GA) (ts : List Tk) (out : List Tk × Int × Int),
    (∀ y, a = some y → N ≤ y.b) → G[r]? = some (wst t rest l n 0) → rest <:+ t → 0 ≤ l → l + rest.length < 2 ^ 62 → 0 ≤ n → n + f < 2 ^ 62 → Laid G r a ts → (ts.length + f) * 40 ≤ roomI → allR f rest l n = some out →
    ∃ a' G', Laid G' r a' (ts ++ out.1) ∧ (∀ i, i < N → G'[i]? = G[i]?) ∧ ∀ K : Option GA → Nat → Int → Int → GH → Option R, l11_0 O K f (some ⟨r, 0⟩) a ts.length G = K a' (ts ++ out.1).length out.2.1 out.2.2 G'
  | 0, rest, l, n, G, a, ts, out, hNa, h, hs, h0, h1, hn0, hn1, hl, hr, ho => by simp [allR] at ho
  | f + 1, rest, l, n, G, a, ts, out, hNa, h, hs, h0, h1, hn0, hn1, hl, hr, ho => by
    have inv := nextR_inv rest l n
    have hrl : r < G.length := (List.getElem?_eq_some_iff.1 h).1
    obtain ⟨rest', n', hz, hx⟩ := h16 h hs hlen h0 h1 hn0 (by omega)
    simp only [allR] at ho
    generalize nextR rest l n = x at inv hx hz ho
    have hG2 : (G.set r (wst t rest' x.l n' x.b))[r]? = some (wst t rest' x.l n' x.b) := at_set h
    have hl2 : Laid (G.set r (wst t rest' x.l n' x.b)) r a ts := by
      cases a with
      | none => exact hl
      | some a =>
        obtain ⟨q1, q2, q3⟩ := hl
        exact ⟨q1, q2, by rw [List.getElem?_set_ne (Ne.symm q2), q3]⟩
    have hf2 : ∀ i, i < N → (G.set r (wst t rest' x.l n' x.b))[i]? = G[i]? := fun i hi => by rw [List.getElem?_set_ne (by omega)]
    generalize (G.set r (wst t rest' x.l n' x.b)) = G2 at hG2 hl2 hx hf2
    have hr2 : r < G2.length := (List.getElem?_eq_some_iff.1 hG2).1
    have hf3 : ∀ (c : List IV) (e : Nat) (i : Nat), i < N → (gnew G2 c e)[i]? = G[i]? := fun c e i hi => by
      rw [← hf2 i hi]; exact List.getElem?_append_left (by omega)
    have hl3 : Laid (gnew G2 (tokI x.k x.w x.x x.tl) 32) r a ts := hl2.new
    have hr3 : (gnew G2 (tokI x.k x.w x.x x.tl) 32)[r]? = some (wst t rest' x.l n' x.b) := get_new hG2
    have step : ∀ K : Option GA → Nat → Int → Int → GH → Option R, l11_0 O K (f + 1) (some ⟨r, 0⟩) a ts.length G =
        bif x.e != 0 then K a ts.length x.l x.e (gnew G2 (tokI x.k x.w x.x x.tl) 32) else bif x.k == 4 then K a ts.length 0 0 (gnew G2 (tokI x.k x.w x.x x.tl) 32)
        else (gappend (gnew (gnew G2 (tokI x.k x.w x.x x.tl) 32) (tokI x.k x.w x.x x.tl) 32) 32 4 40 a ts.length (tokI x.k x.w x.x x.tl) 1).bind fun r19 => l11_0 O K f (some ⟨r, 0⟩) r19.1 (ts.length + 1) r19.2 := by
      intro K
      simp only [l11_0, u11_0]
      rw [hx]
      simp only [ivTup2, tokI, ivAgg4, ivInt_i64, ivStr_str, ivFloat_f64, getD0, getD1, getD2, getD3, Option.bind_some]
      have e1 := gst_new G2 [.int .i64 0, .str [], .float .f64 0, .int .i64 0] (tokI x.k x.w x.x x.tl) 32 rfl
      have k1 := ld_new_k G2 x.k x.w x.x x.tl
      have k2 := ld_new_w G2 x.k x.w x.x x.tl
      have k3 := ld_new_x G2 x.k x.w x.x x.tl
      have k4 := ld_new_l G2 x.k x.w x.x x.tl
      have k5 := grd_new (gnew G2 (tokI x.k x.w x.x x.tl) 32) (tokI x.k x.w x.x x.tl) 32 (1 * 4) rfl
      have k6 := wl_l (Nat.le_refl 1) hr3
      simp only [tokI] at e1 k1 k2 k3 k4 k5 k6
      rw [e1]
      simp only [Option.bind_some, k1, k2, k3, k4, k5, k6]
    by_cases he : (x.e != 0) = true
    · rw [he, cond_true] at ho
      injection ho with ho
      subst ho
      refine ⟨a, _, by simpa using hl3, hf3 _ _, fun K => ?_⟩
      rw [step, he, cond_true]
      simp
    · rw [Bool.eq_false_iff.2 he, cond_false] at ho
      by_cases hk : (x.k == 4) = true
      · rw [hk, cond_true] at ho
        injection ho with ho
        subst ho
        refine ⟨a, _, by simpa using hl3, hf3 _ _, fun K => ?_⟩
        rw [step, Bool.eq_false_iff.2 he, cond_false, hk, cond_true]
        simp
      · rw [Bool.eq_false_iff.2 hk, cond_false] at ho
        have hx0 : x.e = 0 := by simpa using he
        have hb : x.b = 0 := inv.2.2.2.2.2 hx0
        obtain ⟨z1, z2⟩ := hz hx0
        subst z1; subst z2
        cases hy : allR f x.rest x.l x.n with
        | none => rw [hy] at ho; cases ho
        | some y =>
          rw [hy] at ho
          injection ho with ho
          subst ho
          obtain ⟨a', G', q1, q2, q3, q4, q5⟩ := app_tok (hl3.new (c := tokI x.k x.w x.x x.tl) (e := 32)) (get_new hr3) (by omega) ⟨x.k, x.w, x.x, x.tl⟩
          rw [hb] at q3
          have hlen3 : G2.length ≤ (gnew (gnew G2 (tokI x.k x.w x.x x.tl) 32) (tokI x.k x.w x.x x.tl) 32).length := by simp [gnew]
          obtain ⟨a2, G2', p1, p0, p2⟩ := l11_spec h16 hlen N hN f x.rest x.l x.n G' a' (ts ++ [⟨x.k, x.w, x.x, x.tl⟩]) y (fun z hz => by have := q5 z hz; omega) q3 (inv.1.trans hs) (by omega) (by omega) (by omega) (by omega) q2 (by simp; omega) hy
          refine ⟨a2, G2', by simpa using p1, fun i hi => ?_, fun K => ?_⟩
          · rw [p0 i hi, q4 i (by omega) (fun z hz => by have := hNa z hz; omega)]
            rw [show (gnew (gnew G2 (tokI x.k x.w x.x x.tl) 32) (tokI x.k x.w x.x x.tl) 32)[i]? = (gnew G2 (tokI x.k x.w x.x x.tl) 32)[i]? from List.getElem?_append_left (by simp [gnew]; omega)]
            exact hf3 _ _ i hi
          rw [step, Bool.eq_false_iff.2 he, cond_false, Bool.eq_false_iff.2 hk, cond_false]
          rw [show tokI x.k x.w x.x x.tl = Tk.cells ⟨x.k, x.w, x.x, x.tl⟩ from rfl] at *
          rw [q1]
          simp only [Option.bind_some]
          have := p2 K
          simpa using this

theorem w13 (fuel n : Nat) (t : List UInt8) (G : GH) (k : IV → GH → Option R) : runC Try.prog lo0 fuel (n + 1) 13 [.str t] G k = k (.ptr (some (gaddr G))) (gnew G [.str t, .int .i64 0, .int .i64 1, .int .i64 0, .int .i64 0] 47) := by
  rw [r13, e13]
abbrev S13 (O : Ora R) : Prop := ∀ (t : List UInt8) (G : GH) (k : IV → GH → Option R), O 13 [.str t] G k = k (.ptr (some (gaddr G))) (gnew G [.str t, .int .i64 0, .int .i64 1, .int .i64 0, .int .i64 0] 47)

theorem new_w (G : GH) (t : List UInt8) : (gnew G [.str t, .int .i64 0, .int .i64 1, .int .i64 0, .int .i64 0] 47)[G.length]? = some (wst t t 1 0 0) := by simp [gnew, wst, wm]
theorem new_r (G : GH) (t : List UInt8) : (gnew G [.str t, .int .i64 0, .int .i64 1, .int .i64 0, .int .i64 0] 58)[G.length]? = some (rs t t 1 0 0) := by simp [gnew, rs, rd]

theorem w11_body {F : Nat} {O : Ora R} (h13 : S13 O) (h16 : S16 O) {t : List UInt8} (hlen : t.length < 4000000) (hF : F = 4000000) (G : GH) {out : List Tk × Int × Int} (ho : allR F t 1 0 = some out) :
    ∃ a' G' r, Laid G' r a' out.1 ∧ (∀ i, i < G.length → G'[i]? = G[i]?) ∧ ∀ k : IV → GH → Option R, bodyC Try.prog O lo11 F Try.f11 [.str t] G k = k (.tuple [.slice a' out.1.length, .int .i64 out.2.1, .int .i64 out.2.2]) G' := by
  obtain ⟨a', G', h1, h0, h2⟩ := l11_spec h16 hlen G.length (Nat.le_refl _) F t 1 0 _ none [] out (fun y hy => by cases hy) (new_w G t) (List.suffix_refl _) (by omega) (by omega) (by omega) (by omega) rfl (by rw [hF]; decide) ho
  refine ⟨a', G', G.length, by simpa using h1, fun i hi => by rw [h0 i hi]; exact List.getElem?_append_left hi, fun k => ?_⟩
  rw [e11]
  simp only [u11, h13, L11_0]
  rw [ivPtr_ptr, Option.bind_some]
  have h3 := h2 (a11_0ret O k)
  refine (h3.trans ?_)
  rw [List.nil_append]
  rfl
end

section
variable {R : Type}
/-- The reference's functions, run. -/
theorem w16 {F : Nat} (hF : 4000000 ≤ F) (n : Nat) : S16 (runC (R := R) Try.prog lo0 F (n + 4)) := by
  intro r G t rest l m h hs hlen h0 h1 hn0 hn1
  obtain ⟨rest', n', hz, hx⟩ := w16_body hF (O := runC (R := R) Try.prog lo0 F (n + 3)) (fun h hs hl h0 h1 k => w29 hF (n + 1) h hs hl h0 h1 k) (fun h k => w30 F (n + 2) h k) (fun hm _ _ _ h k => w31 F (n + 2) hm h k) (fun c G k => w32 F (n + 2) c G k) (fun c G k => w33 F (n + 2) c G k)
    (fun h hl k => w34 hF n h hl k) h hs hlen h0 h1 hn0 hn1
  refine ⟨rest', n', hz, fun k => ?_⟩
  rw [r16]
  exact hx k
theorem w11 {F : Nat} (hF : F = 4000000) (n : Nat) {t : List UInt8} (hlen : t.length < 4000000) (G : GH) {out : List Tk × Int × Int} (ho : allR F t 1 0 = some out) :
    ∃ a' G' r, Laid G' r a' out.1 ∧ (∀ i, i < G.length → G'[i]? = G[i]?) ∧ ∀ k : IV → GH → Option R, runC Try.prog lo0 F (n + 5) 11 [.str t] G k = k (.tuple [.slice a' out.1.length, .int .i64 out.2.1, .int .i64 out.2.2]) G' := by
  obtain ⟨a', G', r, h1, h2, h3⟩ := w11_body (O := runC (R := R) Try.prog lo0 F (n + 4)) (fun t G k => w13 F (n + 3) t G k) (w16 (by omega) n) hlen hF G ho
  refine ⟨a', G', r, h1, h2, fun k => ?_⟩
  rw [r11]
  exact h3 k
end
end Go.LI.Lex
