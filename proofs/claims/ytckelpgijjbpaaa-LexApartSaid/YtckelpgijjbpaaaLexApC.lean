/- LexApart: the whole. -/
import Derived.Test.YtckelpgijjbpaaaLexApB
namespace Go.LI.Lex
open Go.Proofs.Ytckelpgijjbpaaa Go Go.Proofs Go.LI
set_option linter.unusedVariables false
set_option linter.unusedSimpArgs false
set_option maxRecDepth 100000

theorem toks_nn : ∀ (ps : List (List UInt8 × List UInt8)) (l : Int), ∀ t ∈ toksT ps l, nn (FloatKind.format .f64) t.x
  | [], _, t, h => by simp [toksT] at h
  | p :: ps, l, t, h => by
    simp only [toksT, List.mem_cons] at h
    rcases h with rfl | h
    · exact nn_zero
    · exact toks_nn ps _ t h
theorem toks_len : ∀ (ps : List (List UInt8 × List UInt8)) (l : Int), (toksT ps l).length = ps.length
  | [], _ => rfl
  | p :: ps, l => by simp [toksT, toks_len ps]
theorem text_len : ∀ (ps : List (List UInt8 × List UInt8)), (∀ p ∈ ps, p.1 ∈ gapL ∧ p.2.length ≤ 140737488355328) → (textT ps).length ≤ ps.length * 140737488355400
  | [], _ => by simp [textT]
  | p :: ps, h => by
    have h1 := piece_len (h p List.mem_cons_self).1 (h p List.mem_cons_self).2
    have h2 := text_len ps fun q hq => h q (List.mem_cons_of_mem _ hq)
    simp only [textT, List.length_append, List.length_cons, Nat.add_mul]
    omega
theorem psOf_words (gs : List Int) : ∀ (ws : List (List UInt8)) (i : Nat), ∀ p ∈ psOf gs ws i, p.2 ∈ ws
  | [], _, p, h => by simp [psOf] at h
  | w :: ws, i, p, h => by
    simp only [psOf, List.mem_cons] at h
    rcases h with rfl | h
    · simp
    · exact List.mem_cons_of_mem _ (psOf_words gs ws (i + 1) p h)

section
variable {R : Type} {O : Ora R} {F : Nat}
theorem apart_loop {ts : List Tk} {a1 a2 : Option GA} (hnn : ∀ t ∈ ts, nn (FloatKind.format .f64) t.x) (hts : ts.length ≤ 200) (k : IV → GH → Option R) {G : GH} (A1 : At G a1 ts) (A2 : At G a2 ts) :
    ∀ (e f i : Nat), i + e = ts.length → e < f → l6_7 O (a6_7ret O k) (a6_74 O k) f a1 ts.length a2 ts.length ts.length i G = k (.bool true) G
  | 0, f + 1, i, hi, hf => by
    have hc : decide ((i : Int) < (ts.length : Int)) = false := by simp; omega
    simp only [l6_7, u6_7]
    rw [hc, cond_false]
    rfl
  | e + 1, f + 1, i, hi, hf => by
    have hc : decide ((i : Int) < (ts.length : Int)) = true := by simp; omega
    obtain ⟨x, hx⟩ : ∃ x, ts[i]? = some x := ⟨ts[i], List.getElem?_eq_getElem (by omega)⟩
    have hmem : x ∈ ts := List.mem_of_getElem? hx
    obtain ⟨g1, p0, p1, p2, p3, p4⟩ := at_idx A2 hx
    obtain ⟨g2, q0, q1, q2, q3, q4⟩ := at_idx A1 hx
    have w2 : IntKind.wrap .i64 ((i : Int) + 1) = ((i + 1 : Nat) : Int) := by rw [IntWalk.i64_in _ (by omega)]; omega
    have ih := apart_loop hnn hts k A1 A2 e f (i + 1) (by omega) (by omega)
    simp only [l6_7, u6_7]
    rw [hc, cond_true, p0, Option.bind_some, p1, Option.bind_some, p2, Option.bind_some, p3, Option.bind_some, p4, Option.bind_some, q0, Option.bind_some, q1, Option.bind_some, q2, Option.bind_some, q3, Option.bind_some, q4, Option.bind_some]
    have hfe : feq .f64 x.x x.x = true := feq_self (hnn x hmem)
    rw [hfe]
    simp only [BEq.rfl, Bool.and_self, Bool.not_true, cond_false]
    rw [w2]
    exact ih

theorem apart_body (hF : F = 1152921504606846976) (h8 : N8 O) (h10 : B10 O) (h19 : N19 O) {wa ga : Option GA} {all : List (List UInt8)} {gs : List Int} (hwl : ∀ w ∈ all, w.length ≤ 140737488355328) {G : GH}
    (hw : RSl G 9 wa all.length (strC all)) (hg : RSl G 3 ga gs.length (intC gs)) (k : IV → GH → Option R) :
    ∃ G', bodyC Try.prog O lo6 F Try.f6 [.slice wa all.length, .slice ga gs.length] G k = k (.bool true) G' := by
  rw [e6]
  unfold u6
  rw [h8, bool_open]
  simp only [Bool.not_true, cond_false]
  by_cases hl : decide ((all.length : Int) > 200) = true
  · exact ⟨G, by rw [hl, cond_true]⟩
  rw [Bool.eq_false_iff.2 hl, cond_false]
  have hlen : all.length ≤ 200 := by simp at hl; omega
  have hk0 : Keeps G.length G (gnew G (strC gapL) 9) := keeps_new G _ 9 (Nat.le_refl _)
  have h5 : (gnew G (strC gapL) 9)[G.length]? = some ⟨strC gapL, 9, 1⟩ := gnew_at _ _ _
  obtain ⟨a', G', f1, f2, f3⟩ := words_loop (O := O) (F := F) (by omega) h19 (a6_00 O k (L6_6 O F k)) (base := G.length + 1) (b5 := G.length) (by omega) (gs := gs) (ga := ga) (wa := wa) (gn := gs.length) rfl hlen hwl all F 0 [] 1 none [] (gnew G (strC gapL) 9)
    (fun j => by rw [Nat.zero_add]) (by omega) (by omega) (by simp) (by omega) (by omega) rfl (by rw [gnew_length]; omega) h5
    (fun G' h => ⟨rsl_keep (rsl_keep hg hk0 (Nat.le_refl _)) h (by rw [gnew_length]; omega), rsl_keep (rsl_keep hw hk0 (Nat.le_refl _)) h (by rw [gnew_length]; omega)⟩) (sl_nil _ _ _ _)
  simp only [List.nil_append] at f1 f2
  have hps := psOf_mem gs all 0
  have hwd := psOf_words gs all 0
  have hpl := psOf_len gs all 0
  generalize psOf gs all 0 = ps at f1 f2 hps hwd hpl
  have htl := text_len ps fun p hp => ⟨hps p hp, hwl _ (hwd p hp)⟩
  have hal := allR_apart ps 1152921504606846976 1 0 hps (by omega) (by omega)
  have hps2 : ps.length * 140737488355400 ≤ 200 * 140737488355400 := Nat.mul_le_mul_right _ (by omega)
  obtain ⟨a2, G2, r2, L2, N2, g2, q2⟩ := h10 (t := textT ps) (by omega) G' hal
  have A2 : At G2 a2 (toksT ps 1) := L2.at
  have A1 : At G' a' (toksT ps 1) := by
    obtain ⟨_, ⟨h1, h2⟩ | ⟨b, h1, h2, h3⟩⟩ := f2
    · subst h1
      exact List.length_eq_zero_iff.1 h2
    · subst h2
      exact ⟨rfl, h3⟩
  have A1' : At G2 a' (toksT ps 1) := A1.grow fun y hy => by
    subst hy
    exact g2 _ (List.getElem?_eq_some_iff.1 A1.2).1
  refine ⟨G2, ?_⟩
  have hL0 : L6_0 O F k ga gs.length (some (gaddr G)) 5 [] 1 none 0 wa all.length all.length 0 (gnew G (strC gapL) 9) = a6_00 O k (L6_6 O F k) (textT ps) a' (toksT ps 1).length G' := f1
  refine Eq.trans hL0 ?_
  simp only [a6_00]
  rw [q2, out_open]
  simp only [L6_6]
  rw [stepF (by omega)]
  simp only [l6_6, u6_6, bne_self_eq_false, cond_false, a6_6N, L6_7]
  exact apart_loop (toks_nn ps 1) (by rw [toks_len]; omega) k A1' A2 (toksT ps 1).length F 0 (by omega) (by rw [toks_len]; omega)

theorem n19 : N19 (runL (R := R) Try.prog lexLib lo0 1152921504606846976 50) := by
  intro g G k
  kernel_rfl
theorem s6 {wa ga : Option GA} {all : List (List UInt8)} {gs : List Int} (hwl : ∀ w ∈ all, w.length ≤ 140737488355328) {G : GH} (hw : RSl G 9 wa all.length (strC all)) (hg : RSl G 3 ga gs.length (intC gs)) :
    runL (R := IV) Try.prog lexLib lo0 1152921504606846976 51 6 [.slice wa all.length, .slice ga gs.length] G (fun v _ => some v) = some (.bool true) := by
  rw [r6]
  obtain ⟨G', h⟩ := apart_body (F := 1152921504606846976) rfl (O := runL (R := IV) Try.prog lexLib lo0 1152921504606846976 50) (fun G k => awake G k) (fun hl G out ho => s10b 45 hl G rfl ho) n19 hwl hw hg (fun v _ => some v)
  exact h
end
end Go.LI.Lex
