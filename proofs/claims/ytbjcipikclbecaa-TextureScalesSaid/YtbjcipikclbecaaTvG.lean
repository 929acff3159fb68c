/- Copies of pictures with what they hold. -/
import Derived.Test.YtbjcipikclbecaaTvK1
import Derived.Test.YtbjcipikclbecaaTxH
namespace Go.LI.Film
open Go.Proofs.Ytbjcipikclbecaa Go Go.Proofs Go.LI Go.LI.Fl
set_option linter.unusedVariables false
set_option linter.unusedSimpArgs false
set_option maxRecDepth 100000
set_option exponentiation.threshold 2500

/-- A picture and its samples. -/
structure PxV (G : GH) (q : Pc) (p : Pi) : Prop where
  w : q.w = p.w
  h : q.h = p.h
  len : p.px.length = q.n
  at' : (q.a = none ∧ q.n = 0) ∨ ∃ b, q.a = some ⟨b, 0⟩ ∧ BL G b ((p.px.map tri).flatten) 48
theorem PxV.keep {G G' : GH} {q : Pc} {p : Pi} {base : Nat} (h : PxV G q p) (k : Keeps base G G') (hb : G.length ≤ base) : PxV G' q p :=
  ⟨h.w, h.h, h.len, h.at'.imp id fun ⟨b, h1, h2⟩ => ⟨b, h1, h2.keep k (by have := h2.lt; omega)⟩⟩
theorem PxV.nil {G : GH} {q : Pc} {p : Pi} (h : PxV G q p) (hn : q.n = 0) : p.px = [] := List.length_eq_zero_iff.1 (by rw [h.len, hn])
theorem PxV.ok {G : GH} {q : Pc} {p : Pi} (h : PxV G q p) : PxOk G q := by
  refine ⟨(p.px.map tri).flatten, by rw [recs_len tri_length, h.len], ?_⟩
  rcases h.at' with ⟨h1, h2⟩ | ⟨b, h1, h2⟩
  · exact .inl ⟨h1, h2, by rw [h.nil h2]; rfl⟩
  · exact .inr ⟨b, 48, h1, h2⟩
theorem PxV.pic {G : GH} {q : Pc} {p : Pi} (h : PxV G q p) : PicOf G q p := by
  refine ⟨h.w, h.h, h.len, fun hn => ?_⟩
  rcases h.at' with ⟨h1, h2⟩ | ⟨b, h1, h2⟩
  · omega
  · exact ⟨b, 48, [], h1, by rw [List.append_nil]; exact h2⟩
theorem PxV.grd {G : GH} {q : Pc} {p : Pi} (h : PxV G q p) (e : Nat) : grdO (gnew G [] e) q.a q.n 3 = some ((p.px.map tri).flatten) := by
  rcases h.at' with ⟨h1, h2⟩ | ⟨b, h1, h2⟩
  · rw [h1, h2, h.nil h2]; rfl
  · rw [h1]; exact (h2.keep (keeps_new G [] e (Nat.le_refl _)) h2.lt).grd (by rw [recs_len tri_length, h.len])
theorem PxV.some_lt {G : GH} {q : Pc} {p : Pi} (h : PxV G q p) {b : Nat} (hq : q.a = some ⟨b, 0⟩) : b < G.length := h.ok.some_lt hq
/-- Pictures with their samples, each in its own list. -/
def PV (G : GH) (a : Option GA) (n : Nat) (ps : List Pi) : Prop := ∃ qs, RL pics G a n qs ∧ qs.length = ps.length ∧ ∀ (i : Nat) (q : Pc) (p : Pi), qs[i]? = some q → ps[i]? = some p → PxV G q p
theorem PV.keep {G G' : GH} {a : Option GA} {n base : Nat} {ps : List Pi} (h : PV G a n ps) (k : Keeps base G G') (hb : G.length ≤ base) : PV G' a n ps := by
  obtain ⟨qs, h1, h2, h3⟩ := h
  exact ⟨qs, h1.keep k hb, h2, fun i q p hq hp => (h3 i q p hq hp).keep k hb⟩
theorem RL.rp {α : Type} {f : α → List IV} {G : GH} {a : Option GA} {n : Nat} {ps : List α} (h : RL f G a n ps) : RP f G a n ps :=
  ⟨h.1, fun hn => by obtain ⟨b, e, h1, h2⟩ := h.2 hn; exact ⟨b, e, [], h1, by rw [List.append_nil]; exact h2⟩⟩
theorem PV.pr {G : GH} {a : Option GA} {n : Nat} {ps : List Pi} (h : PV G a n ps) : PR G a n ps := by
  obtain ⟨qs, h1, h2, h3⟩ := h
  exact ⟨qs, h1.rp, h2, fun i q p hq hp => (h3 i q p hq hp).pic⟩

theorem sl_append2 {base : Nat} {G : GH} {e sz bytes : Nat} {a : Option GA} {n : Nat} {cs x : List IV} (h : Sl base G e sz a n cs) (hb : base ≤ G.length) (hx : x.length = sz) (hr : (n + 1) * bytes ≤ roomI) :
    ∃ a' G', gappend (gnew G x e) e sz bytes a n x 1 = some (some a', G') ∧ Sl base G' e sz (some a') (n + 1) (cs ++ x) ∧ Keeps base G G' ∧ ∀ (i : Nat) (k : Blk), G[i]? = some k → k.elem ≠ e → G'[i]? = some k := by
  obtain ⟨hl, h | ⟨b, h1, h2, h3⟩⟩ := h
  · obtain ⟨rfl, rfl⟩ := h
    have hcs : cs = [] := List.length_eq_zero_iff.1 (by simpa using hl)
    subst hcs
    refine ⟨gaddr (gnew G x e), gnew (gnew G x e) x e, ?_, ⟨by simp [hx], .inr ⟨G.length + 1, by omega, by simp [gaddr, gnew_length], ?_⟩⟩, ?_, fun i k hk _ => ?_⟩
    · unfold gappend
      rw [if_pos hr]
      rfl
    · have := gnew_at (gnew G x e) x e
      rw [gnew_length] at this
      simpa using this
    · exact (keeps_new G x e hb).trans (keeps_new _ x e (by rw [gnew_length]; omega))
    · have hi := (List.getElem?_eq_some_iff.1 hk).1
      rw [gnew_old (by rw [gnew_length]; omega), gnew_old hi, hk]
  · subst h2
    have hbl := (List.getElem?_eq_some_iff.1 h3).1
    have hG1 : (gnew G x e)[b]? = some ⟨cs, e, 1⟩ := by rw [gnew_old hbl]; exact h3
    have hgr : grd (gnew G x e) ⟨b, 0⟩ (n * sz) = some cs := by rw [← hl]; simp [grd, hG1]
    have hown : gown (gnew G x e) b e = true := by simp [gown, hG1]
    have hkill : gkill (gnew G x e) b = (gnew G x e).set b ⟨cs, e, 2⟩ := by simp [gkill, hG1]
    refine ⟨gaddr (gnew G x e), gnew ((gnew G x e).set b ⟨cs, e, 2⟩) (cs ++ x) e, ?_, ⟨by simp [hx, hl]; rw [Nat.add_mul]; simp, .inr ⟨G.length + 1, by omega, by simp [gaddr, gnew_length], ?_⟩⟩, ?_, fun i k hk hke => ?_⟩
    · unfold gappend
      rw [if_pos hr]
      simp only [hgr, hown, hkill]
    · have := gnew_at ((gnew G x e).set b ⟨cs, e, 2⟩) (cs ++ x) e
      rw [List.length_set, gnew_length] at this
      exact this
    · refine ⟨by simp [gnew_length]; omega, fun i hi => ?_⟩
      rw [gnew_old (by rw [List.length_set, gnew_length]; omega), List.getElem?_set_ne (by omega), gnew_old (by omega)]
    · have hi := (List.getElem?_eq_some_iff.1 hk).1
      have hne : b ≠ i := by
        intro hbi
        subst hbi
        rw [h3] at hk
        injection hk with hk
        subst hk
        exact hke rfl
      rw [gnew_old (by rw [List.length_set, gnew_length]; omega), List.getElem?_set_ne hne, gnew_old hi, hk]

section
variable {R : Type} {O : Ora R}
abbrev VC8 (O : Ora R) : Prop := ∀ (q : Pc) (p : Pi) (G : GH), PxV G q p → q.n ≤ 500 → ∃ G' a', Keeps G.length G G' ∧ PxV G' ⟨q.w, q.h, a', q.n⟩ p ∧ ∀ (k : IV → GH → Option R), O fn_law08_Copied [.agg [.int .i64 q.w, .int .i64 q.h, .slice q.a q.n]] G k = k (.agg [.int .i64 q.w, .int .i64 q.h, .slice a' q.n]) G'
theorem c8V_body {F : Nat} (q : Pc) (p : Pi) (G : GH) (h : PxV G q p) (hn : q.n ≤ 500) : ∃ G' a', Keeps G.length G G' ∧ PxV G' ⟨q.w, q.h, a', q.n⟩ p ∧ ∀ (k : IV → GH → Option R), bodyC Try.prog O [1, 2, 777777] F Try.f23 [.agg [.int .i64 q.w, .int .i64 q.h, .slice q.a q.n]] G k = k (.agg [.int .i64 q.w, .int .i64 q.h, .slice a' q.n]) G' := by
  have hx := h.grd 48
  have hr : q.n * 24 ≤ roomI := by unfold roomI; omega
  obtain ⟨G', h1, h2, h3, h4⟩ := app_new G 48 3 24 q.n _ hr
  refine ⟨G', some ⟨G.length + 1, 0⟩, h2, ⟨h.w, h.h, h.len, .inr ⟨_, rfl, 1, by decide, h4⟩⟩, fun k => ?_⟩
  rw [e_law08_Copied, hx, Option.bind_some, h1, Option.bind_some, Nat.zero_add]

theorem cpV_loop (hC : VC8 O) {a : Option GA} {n : Nat} {qs : List Pc} {ps : List Pi} (hn : n ≤ 10) (hq : ∀ q ∈ qs, q.n ≤ 500) {base : Nat} (hl : qs.length = ps.length) : ∀ (r i : Nat) (G : GH) (s : Option GA) (ds : List Pc), i + r = n → base ≤ G.length → RL pics G a n qs → (∀ (i : Nat) (q : Pc) (p : Pi), qs[i]? = some q → ps[i]? = some p → PxV G q p) →
    Sl base G 59 3 s i ((ds.map pics).flatten) → ds.length = i → (∀ (j : Nat) (q : Pc) (p : Pi), ds[j]? = some q → ps[j]? = some p → PxV G q p) → (∀ b, a = some ⟨b, 0⟩ → b < base) →
    (∀ q ∈ qs, ∀ b, q.a = some ⟨b, 0⟩ → b < base) → ∃ G' s', Keeps base G G' ∧ PV G' s' n ps ∧ ∀ (kk : IV → GH → Option R) (j : Nat), r < j →
    l_law09_Copied_0 O (a_law09_Copied_00 O kk) j a n s i (i : Int) G = kk (.slice s' n) G' := by
  intro r
  induction r with
  | zero =>
    intro i G s ds hi hb hQ hP hS hd hD ha hqa
    refine ⟨G, s, Keeps.refl _ _, ⟨ds, ⟨by omega, fun hn' => ?_⟩, by have := hQ.1; omega, hD⟩, fun kk j hj => ?_⟩
    · rcases hS.2 with ⟨_, h0⟩ | ⟨b, _, h2, h3⟩
      · omega
      · exact ⟨b, 59, h2, 1, by decide, h3⟩
    · obtain ⟨j, rfl⟩ : ∃ j', j = j' + 1 := ⟨j - 1, by omega⟩
      simp only [l_law09_Copied_0, u_law09_Copied_0]
      rw [decide_eq_false (by omega), cond_false, show i = n by omega]
      rfl
  | succ r ih =>
    intro i G s ds hi hb hQ hP hS hd hD ha hqa
    have hlen := hQ.1
    have hi' : i < qs.length := by omega
    have hip : i < ps.length := by omega
    have hg := List.getElem?_eq_getElem hi'
    have hgp := List.getElem?_eq_getElem hip
    have hm := List.getElem_mem hi'
    obtain ⟨p, l0, l1, l2, l3⟩ := pl_ld hQ hg
    obtain ⟨G1, a1, k1, v1, h1⟩ := hC qs[i] ps[i] G (hP i _ _ hg hgp) (hq _ hm)
    have hS1 := hS.keep k1 (Nat.le_refl _)
    obtain ⟨s2, G2, h2, hS2, k2, e2⟩ := sl_append2 (bytes := 40) (x := [.int .i64 qs[i].w, .int .i64 qs[i].h, .slice a1 qs[i].n]) hS1 (by have := k1.1; omega) rfl (by unfold roomI; omega)
    have kb : Keeps base G G2 := (k1.mono hb).trans k2
    have keepV : ∀ {q : Pc} {p : Pi}, PxV G1 q p → PxV G2 q p := by
      intro q p h
      refine ⟨h.w, h.h, h.len, h.at'.imp id ?_⟩
      rintro ⟨b, e1, md, hm, e3⟩
      exact ⟨b, e1, md, hm, e2 b _ e3 (by show (48 : Nat) ≠ 59; omega)⟩
    have keepQ : RL pics G2 a n qs := by
      refine ⟨hQ.1, fun hn' => ?_⟩
      obtain ⟨b, e, e1, e2⟩ := hQ.2 hn'
      exact ⟨b, e, e1, e2.keep kb (ha b e1)⟩
    obtain ⟨G3, s3, k3, v3, h3⟩ := ih (i + 1) G2 (some s2) (ds ++ [⟨qs[i].w, qs[i].h, a1, qs[i].n⟩]) (by omega) (by have := kb.1; omega) keepQ (fun i q p hq hp => keepV ((hP i q p hq hp).keep k1 (Nat.le_refl _)))
      (by rw [List.map_append, List.flatten_append]; exact hS2) (by simp [hd]) (by
        intro j q p hj hp
        by_cases hjl : j < ds.length
        · rw [List.getElem?_append_left hjl] at hj
          exact keepV ((hD j q p hj hp).keep k1 (Nat.le_refl _))
        · rw [List.getElem?_append_right (by omega)] at hj
          have hj0 : j - ds.length = 0 := by
            have := (List.getElem?_eq_some_iff.1 hj).1
            simp at this; omega
          rw [hj0] at hj
          simp only [List.getElem?_cons_zero, Option.some.injEq] at hj
          subst hj
          have : j = i := by omega
          subst this
          rw [hgp] at hp
          injection hp with hp
          subst hp
          exact keepV v1) ha hqa
    refine ⟨G3, s3, kb.trans k3, v3, fun kk j hj => ?_⟩
    obtain ⟨j, rfl⟩ : ∃ j', j = j' + 1 := ⟨j - 1, by omega⟩
    have hgr := grd_gnew G1 [.int .i64 qs[i].w, .int .i64 qs[i].h, .slice a1 qs[i].n] 59 (1 * 3) rfl
    simp only [l_law09_Copied_0, u_law09_Copied_0]
    rw [decide_eq_true (by omega), cond_true, l0, Option.bind_some, l1, Option.bind_some, l2, Option.bind_some, l3, Option.bind_some, h1]
    rw [ivA3]
    simp only [Option.bind_some, List.getD_cons_zero, List.getD_cons_succ, ivI, ivSl', hgr, h2]
    rw [wrapI (by omega) (by omega), show (i : Int) + 1 = ((i + 1 : Nat) : Int) by omega]
    exact h3 kk j (by omega)
def pxSmall (ps : List Pi) : Prop := ∀ p ∈ ps, p.px.length ≤ 500
abbrev VCp (O : Ora R) : Prop := ∀ (a : Option GA) (n : Nat) (ps : List Pi) (G : GH), PV G a n ps → n ≤ 10 → pxSmall ps → ∃ G' a', Keeps G.length G G' ∧ PV G' a' n ps ∧ ∀ (k : IV → GH → Option R), O fn_law09_Copied [.slice a n] G k = k (.slice a' n) G'
theorem cpV_body (hC : VC8 O) {F : Nat} (hF : 1000 ≤ F) (a : Option GA) (n : Nat) (ps : List Pi) (G : GH) (hV : PV G a n ps) (hn : n ≤ 10) (hs : pxSmall ps) : ∃ G' a', Keeps G.length G G' ∧ PV G' a' n ps ∧ ∀ (k : IV → GH → Option R), bodyC Try.prog O lo11 F Try.f11 [.slice a n] G k = k (.slice a' n) G' := by
  obtain ⟨qs, hQ, hl, hP⟩ := hV
  rcases Nat.eq_zero_or_pos n with h0 | h0
  · subst h0
    refine ⟨G, none, Keeps.refl _ _, ⟨qs, ⟨hQ.1, fun h => by omega⟩, hl, hP⟩, fun k => ?_⟩
    obtain ⟨F, rfl⟩ : ∃ F', F = F' + 1 := ⟨F - 1, by omega⟩
    rw [e_law09_Copied]
    simp only [u_law09_Copied, L_law09_Copied_0, l_law09_Copied_0, u_law09_Copied_0]
    rw [decide_eq_false (by omega), cond_false]
    rfl
  · obtain ⟨b, e, rfl, hB⟩ := hQ.2 h0
    have hat : ∀ q ∈ qs, ∃ p ∈ ps, PxV G q p := by
      intro q hq
      obtain ⟨i, hi⟩ := List.getElem?_of_mem hq
      have hlt : i < ps.length := by rw [← hl]; exact (List.getElem?_eq_some_iff.1 hi).1
      exact ⟨ps[i], List.getElem_mem hlt, hP i q _ hi (List.getElem?_eq_getElem hlt)⟩
    obtain ⟨G', s', k1, v1, h1⟩ := cpV_loop hC (n := n) (qs := qs) (ps := ps) (a := some ⟨b, 0⟩) hn (fun q hq => by obtain ⟨p, hp, hv⟩ := hat q hq; rw [← hv.len]; exact hs p hp) hl n 0 G none [] (by omega) (Nat.le_refl _) hQ hP (sl_nil _ _ _ _) rfl (fun j q p hj => by simp at hj) (fun b' hb' => by cases hb'; exact hB.lt)
      (fun q hq' b' hb' => by obtain ⟨p, hp, hv⟩ := hat q hq'; exact hv.some_lt hb')
    refine ⟨G', s', k1, v1, fun k => ?_⟩
    rw [e_law09_Copied, u_law09_Copied, L_law09_Copied_0]
    exact h1 k F (by omega)
theorem vC8 {F n : Nat} (hn : 1 ≤ n) : VC8 (runC (R := R) Try.prog lo0 F n) := by
  obtain ⟨n, rfl⟩ : ∃ j, n = j + 1 := ⟨n - 1, by omega⟩
  intro q p G h hq
  have e : fn_law08_Copied = 23 := rfl
  obtain ⟨G', a', k1, v1, h1⟩ := c8V_body (O := runC (R := R) Try.prog lo0 F n) (F := F) q p G h hq
  exact ⟨G', a', k1, v1, fun k => by rw [e, r_law08_Copied]; exact h1 k⟩
theorem vCp {F n : Nat} (hF : 1000 ≤ F) (hn : 2 ≤ n) : VCp (runC (R := R) Try.prog lo0 F n) := by
  obtain ⟨n, rfl⟩ : ∃ j, n = j + 1 := ⟨n - 1, by omega⟩
  intro a c ps G hV hc hs
  have e : fn_law09_Copied = 11 := rfl
  obtain ⟨G', a', k1, v1, h1⟩ := cpV_body (O := runC (R := R) Try.prog lo0 F n) (vC8 (by omega)) hF a c ps G hV hc hs
  exact ⟨G', a', k1, v1, fun k => by rw [e, r_law09_Copied]; exact h1 k⟩
end
end Go.LI.Film
