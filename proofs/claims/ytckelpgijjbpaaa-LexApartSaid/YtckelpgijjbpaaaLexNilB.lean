/- LexNil: what the interpreter gives is true. -/
import Derived.Test.YtckelpgijjbpaaaLexNilA
import Derived.Test.YtckelpgijjbpaaaLexG
namespace Go.LI.Lex
open Go.Proofs.Ytckelpgijjbpaaa Go Go.Proofs Go.LI
set_option linter.unusedVariables false
set_option linter.unusedSimpArgs false
set_option maxRecDepth 100000

section
variable {R : Type}
abbrev N8 (O : Ora R) : Prop := ∀ (G : GH) (k : IV → GH → Option R), O 8 [] G k = k (.bool true) G
abbrev N15 (O : Ora R) : Prop := ∀ (G : GH) (k : IV → GH → Option R), O 15 [.ptr none] G k = k (.tuple [.agg [.int .i64 0, .str [], .float .f64 0, .int .i64 0], .int .i64 1]) G
abbrev N17 (O : Ora R) : Prop := ∀ (G : GH) (k : IV → GH → Option R), O 17 [.ptr none] G k = k (.int .i64 0) G
abbrev N12 (O : Ora R) : Prop := ∀ (t : List UInt8) (G : GH) (k : IV → GH → Option R), O 12 [.str t] G k = k (.ptr (some (gaddr G))) (gnew G [.str t, .int .i64 0, .int .i64 1, .int .i64 0, .int .i64 0] 58)
abbrev N18 (O : Ora R) : Prop := ∀ (t : List UInt8) (G : GH) (k : IV → GH → Option R), O 18 [.str t, .str [35]] G k = k (.bool (decide (Go.Lib.indexByte t 35 ≥ 0))) G
abbrev R15 (O : Ora R) : Prop := ∀ {r : Nat} {G : GH} {t rest : List UInt8} {l n : Int}, G[r]? = some (rs t rest l n 0) → rest <:+ t → t.length < 1152921504606846976 → 0 ≤ l → l + rest.length < 2 ^ 62 → 0 ≤ n → n < 2 ^ 62 → ∀ k : IV → GH → Option R,
    O 15 [.ptr (some ⟨r, 0⟩)] G k = nxOut t r G k (nextR rest l n)
abbrev B15 (O : Ora R) : Prop := ∀ {r : Nat} {G : GH} {t rest : List UInt8} {l n b : Int}, G[r]? = some (rs t rest l n b) → b ≠ 0 → ∀ k : IV → GH → Option R,
    O 15 [.ptr (some ⟨r, 0⟩)] G k = k (.tuple [.agg [.int .i64 0, .str [], .float .f64 0, .int .i64 0], .int .i64 b]) G

theorem tok_open {β : Type} (k : Int) (w : List UInt8) (x : Nat) (l e : Int) (f : Int → List UInt8 → Nat → Int → Int → Option β) :
    ((ivTup 2 (.tuple [.agg [.int .i64 k, .str w, .float .f64 x, .int .i64 l], .int .i64 e])).bind fun c3 => (ivAgg 4 (c3.getD 0 undefI)).bind fun c4 => (ivInt .i64 (c4.getD 0 undefI)).bind fun x5 =>
      (ivStr (c4.getD 1 undefI)).bind fun x6 => (ivFloat .f64 (c4.getD 2 undefI)).bind fun x7 => (ivInt .i64 (c4.getD 3 undefI)).bind fun x8 => (ivInt .i64 (c3.getD 1 undefI)).bind fun x9 => f x5 x6 x7 x8 x9) = f k w x l e := rfl
theorem bool_open {β : Type} (b : Bool) (f : Bool → Option β) : (ivBool (.bool b)).bind f = f b := rfl
theorem ptr_open {β : Type} (b : Option GA) (f : Option GA → Option β) : (ivPtr (.ptr b)).bind f = f b := rfl
theorem int_open {β : Type} (n : Int) (f : Int → Option β) : (ivInt .i64 (.int .i64 n)).bind f = f n := rfl
theorem stepF {F : Nat} (hF : 1 ≤ F) {x : Option R} : stepN F x = x := by
  obtain ⟨f, rfl⟩ : ∃ f, F = f + 1 := ⟨F - 1, by omega⟩
  rfl

theorem index_mem : ∀ {l : List UInt8} {c : UInt8}, c ∈ l → Go.Lib.indexByte l c ≥ 0 := by
  intro l c h
  have h1 := Go.Lib.indexByte_ge l c
  by_cases h2 : Go.Lib.indexByte l c = -1
  · exact absurd h (by
      revert h2
      clear h1 h
      induction l with
      | nil => intro _ h; simp at h
      | cons x xs ih =>
        intro h2 h
        unfold Go.Lib.indexByte at h2
        split at h2
        · omega
        · rename_i hx
          rcases List.mem_cons.1 h with rfl | h
          · simp at hx
          · split at h2
            · rename_i h3; exact ih (by simpa using h3) h
            · have := Go.Lib.indexByte_ge xs c; rename_i h3; simp at h3; omega)
  · omega

theorem nil_loop {F : Nat} (hF : 1 ≤ F) {O : Ora R} (h15 : R15 O) (hb : B15 O) (h18 : N18 O) {s t : List UInt8} (ht : t = s ++ [32, 59]) (hlen : t.length < 1152921504606846976) (k : IV → GH → Option R) {r : Nat} :
    ∀ (f : Nat) (rest : List UInt8) (l : Int) (n : Nat) (b0 : Int) (b1 : List UInt8) (b2 : Nat) (b3 : Int) (G : GH), G[r]? = some (rs t rest l n 0) → rest <:+ t → rest ≠ [] → 0 ≤ l → l + rest.length < 2 ^ 62 → n ≤ 16384 → 16385 < n + f →
      ∃ G', l5_1 O F (a5_1ret O k) (a5_10 O k) f s 0 (some ⟨r, 0⟩) n b0 b1 b2 b3 G = k (.bool true) G'
  | 0, rest, l, n, b0, b1, b2, b3, G, h, hs, hne, h0, h1, hn, hf => by omega
  | f + 1, rest, l, n, b0, b1, b2, b3, G, h, hs, hne, h0, h1, hn, hf => by
    have hrl : r < G.length := (List.getElem?_eq_some_iff.1 h).1
    have hend : t.getLast? = some 59 := by rw [ht, List.getLast?_append]; rfl
    have hrend := ends_suffix hs hend hne
    have hx := fun k : IV → GH → Option R => h15 h hs hlen h0 h1 (by omega) (by omega) k
    have inv := nextR_inv rest l n
    have less := nextR_less rest l n
    obtain ⟨k1, k2, k3⟩ := nextR_keep rest l n hrend
    simp only [nxOut, tokI] at hx
    generalize nextR rest l n = x at *
    have hG2 : (G.set r (rs t x.rest x.l x.n x.b) ++ x.gb)[r]? = some (rs t x.rest x.l x.n x.b) := by
      rw [List.getElem?_append_left (by simpa using hrl), at_set h]
    generalize (G.set r (rs t x.rest x.l x.n x.b) ++ x.gb) = G2 at hG2 hx
    have hn2 : decide ((n : Int) < 20000) = true := by simp; omega
    simp only [l5_1, u5_1, L5_2]
    rw [stepF hF]
    simp only [l5_2, u5_2]
    rw [show ((0 : Int) == 0) = true from rfl, cond_true, hn2, cond_true]
    simp only [a5_2N]
    rw [hx, tok_open]
    simp only [L5_3]
    rw [stepF hF]
    simp only [l5_3, u5_3]
    by_cases he : x.e = 0
    · rw [show (x.e == 0) = true by simp [he], cond_true]
      simp only [a5_3N]
      by_cases hk : x.k = 4
      · rw [show (x.k == 4) = true by simp [hk], cond_true, h18, bool_open]
        refine ⟨G2, ?_⟩
        have hm := (k2 he hk)
        have hm2 : (35 : UInt8) ∈ t := hs.mem hm
        have hm3 : (35 : UInt8) ∈ s := by
          rw [ht] at hm2
          rcases List.mem_append.1 hm2 with h | h
          · exact h
          · exact absurd h (by decide)
        rw [decide_eq_true (index_mem hm3)]
        rfl
      · rw [show (x.k == 4) = false by simp [hk], cond_false]
        obtain ⟨q1, q2⟩ := less he hk
        have hb0 : x.b = 0 := k3.trans he
        rw [hb0, q1] at hG2
        have wn : IntKind.wrap .i64 ((n : Int) + 1) = ((n + 1 : Nat) : Int) := by rw [IntWalk.i64_in _ (by omega)]; omega
        rw [wn, he]
        have hn3 : ((n : Int) + 1) = ((n + 1 : Nat) : Int) := by omega
        rw [hn3] at hG2
        exact nil_loop hF h15 hb h18 ht hlen k f x.rest x.l (n + 1) x.k x.w x.x x.tl G2 hG2 (inv.1.trans hs) (k1 he hk) (by omega) (by omega) (by omega) (by omega)
    · rw [show (x.e == 0) = false by simp [he], cond_false]
      simp only [a5_3N, cond_false]
      have wn : IntKind.wrap .i64 ((n : Int) + 1) = ((n + 1 : Nat) : Int) := by rw [IntWalk.i64_in _ (by omega)]; omega
      rw [wn]
      obtain ⟨f', rfl⟩ : ∃ f', f = f' + 1 := by
        cases f with
        | zero => exfalso; omega
        | succ f' => exact ⟨f', rfl⟩
      refine ⟨G2, ?_⟩
      simp only [l5_1, u5_1, L5_2]
      rw [stepF hF]
      simp only [l5_2, u5_2]
      rw [show (x.e == 0) = false by simp [he], cond_false]
      simp only [a5_20, a5_10]
      rw [hb hG2 (by rw [k3]; exact he), tok_open, k3, show decide (((n + 1 : Nat) : Int) < 20000) = true by simp; omega, cond_true]
      have hz : (((0 : Int) == 0) && ((([] : List UInt8) == []) && ((feq .f64 0 0) && (((0 : Int) == 0) && true)))) = true := by decide +kernel
      rw [hz, cond_true]
      simp

theorem nil_body {F : Nat} (hF : F = 1152921504606846976) {O : Ora R} (h8 : N8 O) (h12 : N12 O) (hn15 : N15 O) (hn17 : N17 O) (h15 : R15 O) (hb : B15 O) (h18 : N18 O) {s : List UInt8} (hlen : s.length ≤ 140737488355328) (G : GH) (k : IV → GH → Option R) :
    ∃ G', bodyC Try.prog O lo5 F Try.f5 [.str s] G k = k (.bool true) G' := by
  rw [e5]
  unfold u5
  rw [h8, bool_open]
  simp only [Bool.not_true, cond_false]
  rw [hn15, tok_open]
  simp only [L5_0]
  rw [stepF (by omega)]
  simp only [l5_0, u5_0]
  have hz : (((0 : Int) == 0) && ((([] : List UInt8) == []) && ((feq .f64 0 0) && (((0 : Int) == 0) && true)))) = true := by decide +kernel
  rw [hz]
  simp only [Bool.not_true, cond_false, show ((1 : Int) != 1) = false from rfl]
  rw [hn17, int_open]
  simp only [show ((0 : Int) != 0) = false from rfl, cond_false, a5_0N]
  have hr : decide (s.length + ([32, 59] : List UInt8).length ≤ roomS) = true := by
    apply decide_eq_true; unfold roomS; simp only [List.length_cons, List.length_nil]; omega
  rw [hr, cond_true, h12, ptr_open]
  simp only [L5_1]
  have hG : (gnew G [.str (s ++ [32, 59]), .int .i64 0, .int .i64 1, .int .i64 0, .int .i64 0] 58)[G.length]? = some (rs (s ++ [32, 59]) (s ++ [32, 59]) 1 0 0) := by simp [gnew, rs, rd]
  have hl2 : (s ++ [32, 59]).length = s.length + 2 := by simp
  exact nil_loop (F := F) (by omega) h15 hb h18 rfl (by omega) k F (s ++ [32, 59]) 1 0 0 [] 0 0 _ hG (List.suffix_refl _) (by simp) (by omega) (by omega) (by omega) (by omega)

theorem b15 (n : Nat) : B15 (runL (R := R) Try.prog lexLib lo0 1152921504606846976 (n + 1)) := by
  intro r G t rest l m b h hb k
  have hne : (b != 0) = true := by simpa using hb
  rw [r15, e15]
  have hl : ldInt G .i64 (GA.add ⟨r, 0⟩ 4) = some b := ld_b h
  rw [hl]
  simp only [Option.bind_some]
  rw [hne, cond_true]
theorem n12 (fuel n : Nat) : N12 (runL (R := R) Try.prog lexLib lo0 fuel (n + 1)) := by
  intro t G k
  rw [r12, e12]
theorem n15 : N15 (runL (R := R) Try.prog lexLib lo0 1152921504606846976 50) := by
  intro G k
  kernel_rfl
theorem n17 : N17 (runL (R := R) Try.prog lexLib lo0 1152921504606846976 50) := by
  intro G k
  kernel_rfl
theorem n18_raw (t : List UInt8) (G : GH) (k : IV → GH → Option R) : runL (R := R) Try.prog lexLib lo0 1152921504606846976 50 18 [.str t, .str [35]] G k =
    cond (([35] : List UInt8) == t) (k (.bool true) G) (k (.bool (decide (Go.Lib.indexByte t 35 ≥ 0))) G) := by kernel_rfl
theorem n18 : N18 (runL (R := R) Try.prog lexLib lo0 1152921504606846976 50) := by
  intro t G k
  rw [n18_raw]
  by_cases h : ([35] : List UInt8) = t
  · subst h
    rfl
  · rw [show (([35] : List UInt8) == t) = false by simpa using h, cond_false]
theorem s5 (t : List UInt8) (hlen : t.length ≤ 140737488355328) : runL (R := IV) Try.prog lexLib lo0 1152921504606846976 51 5 [.str t] [] (fun v _ => some v) = some (.bool true) := by
  rw [r5]
  obtain ⟨G', h⟩ := nil_body (F := 1152921504606846976) rfl (O := runL (R := IV) Try.prog lexLib lo0 1152921504606846976 50) (fun G k => awake G k) (n12 _ 49) n15 n17 (fun h hs hl h0 h1 hn0 hn1 k => s15 46 h hs hl h0 h1 hn0 hn1 k) (b15 49) n18 hlen [] (fun v _ => some v)
  exact h
end
end Go.LI.Lex
