/- Memory is made and written. -/
import Derived.Test.YtckelpgijjbpaaaLiG
namespace Go.LI
open Go Go.RowKit

section
variable {P : Program} {B K : Nat → Prop} {w0 : World} {m : Map} {F : List (List IV)} {G : GH} {w : World}

theorem cellsI_get : ∀ {cs : List IV} {i : Nat} {iv : IV}, cellsI cs = true → cs[i]? = some iv → cellI iv = true
  | [], i, iv, _, h => by simp at h
  | c :: cs, 0, iv, hn, h => by simp [cellsI] at hn; simp at h; rw [← h]; exact hn.1
  | c :: cs, i + 1, iv, hn, h => by simp [cellsI] at hn; exact cellsI_get hn.2 (by simpa using h)
theorem cellI_one {iv : IV} {v : Value} (h : VRel m iv v) (hc : cellI iv = true) : v.oneCell' = true := by
  cases h <;> first | rfl | (simp [cellI] at hc)

theorem gset_get {G : GH} {b i : Nat} {x : Blk} : (G.set b x)[i]? = if b = i then (if b < G.length then some x else none) else G[i]? := by
  rw [List.getElem?_set]

/-- A new row stands at the heap's end. -/
structure Grown (w w' : World) (c : Array Value) (t : TypeId) (fr : Nat × Nat) : Prop where
  below : Below w.heap.size w w'
  row : w'.heap[w.heap.size]? = some (.cells c t fr)

theorem HRel.newG (h : HRel P B K w0 m F G w) {w' : World} {c : Array Value} {t : TypeId} {fr : Nat × Nat} (hg : Grown w w' c t fr) {cells : List IV}
    (hc : ∀ (i : Nat) (iv : IV), cells[i]? = some iv → ∃ v, c[i]? = some v ∧ VRel m.noF iv v ∧ v.oneCell' = true) (hl : cells.length ≤ c.size) (hfr : ∀ o, o < c.size → ¬ (fr.1 ≤ o ∧ o < fr.2)) :
    HRel P B K w0 (m.addG G.length ⟨w.heap.size, 0, c.size, P.cellsOf t, true⟩) F (gnew G cells t) w' := by
  have hle : m.le (m.addG G.length ⟨w.heap.size, 0, c.size, P.cellsOf t, true⟩) := Map.le_addG (h.g_none (Nat.le_refl _))
  have h' := h.grow hg.below
  have hgm : ∀ b e, (m.addG G.length ⟨w.heap.size, 0, c.size, P.cellsOf t, true⟩).g b = some e → (b = G.length ∧ e = ⟨w.heap.size, 0, c.size, P.cellsOf t, true⟩) ∨ (b < G.length ∧ m.g b = some e) := by
    intro b e he
    simp only [Map.addG] at he
    split at he
    · rename_i hb; injection he with he; exact .inl ⟨hb, he.symm⟩
    · exact .inr ⟨h.gdom _ _ he, he⟩
  have hget : ∀ b, b < G.length → (gnew G cells t)[b]? = G[b]? := fun b hb => List.getElem?_append_left hb
  have hget' : (gnew G cells t)[G.length]? = some ⟨cells, t, 1⟩ := by simp [gnew]
  have hold : ∀ b k e, G[b]? = some k → k.mode ≤ 1 → m.g b = some e → e.blk < w.heap.size := fun b k e h1 h2 h3 => by
    obtain ⟨c, t, fr, hgb⟩ := h.gblk b k e h1 h2 h3
    exact lt_of_row hgb.row
  refine { bk := h.bk, frame := h'.frame, os := h'.os, tape := h'.tape, output := h'.output, size := h'.size, gdom := ?_, fdom := h.fdom, gblk := ?_, fblk := ?_, ginj := ?_, gf := ?_, finj := h.finj }
  · intro b e he
    rcases hgm b e he with ⟨rfl, _⟩ | ⟨hb, _⟩ <;> simp [gnew] <;> omega
  · intro b k e hk hm he
    rcases hgm b e he with ⟨rfl, rfl⟩ | ⟨hb, he'⟩
    · rw [hget'] at hk
      injection hk with hk
      subst hk
      refine ⟨c, t, fr, { row := hg.row, fits := by simpa using hl, cells := fun i iv hi => ?_, ro := fun h => by simp at h, esz := fun _ => rfl, rw := fun _ => ⟨fun hK => ?_, rfl, rfl, by simp, hfr⟩ }⟩
      · obtain ⟨v, h1, h2, h3⟩ := hc i iv hi
        exact ⟨v, by simpa using h1, h2.mono (Map.noF_mono hle), h3⟩
      · have h1 : w.heap.size < w0.heap.size := (h.frame _ hK).1
        have := h.size
        omega
    · rw [hget b hb] at hk
      obtain ⟨c', t', fr', hgb⟩ := h'.gblk b k e hk hm he'
      exact ⟨c', t', fr', { hgb with cells := fun i iv hi => by obtain ⟨v, h1, h2, h3⟩ := hgb.cells i iv hi; exact ⟨v, h1, h2.mono (Map.noF_mono hle), h3⟩ }⟩
  · intro i cs b hi hb
    obtain ⟨c', t', hf⟩ := h'.fblk i cs b hi hb
    exact ⟨c', t', { hf with cells := fun j iv hj => by obtain ⟨v, h1, h2⟩ := hf.cells j iv hj; exact ⟨v, h1, h2.mono hle⟩ }⟩
  · intro b1 b2 k1 k2 e1 e2 h1 h2 m1 m2 g1 g2 hne
    rcases hgm b1 e1 g1 with ⟨rfl, rfl⟩ | ⟨hb1, g1'⟩
    · rcases hgm b2 e2 g2 with ⟨rfl, rfl⟩ | ⟨hb2, g2'⟩
      · exact absurd rfl hne
      · rw [hget b2 hb2] at h2
        have := hold b2 k2 e2 h2 (by omega) g2'
        simp; omega
    · rw [hget b1 hb1] at h1
      rcases hgm b2 e2 g2 with ⟨rfl, rfl⟩ | ⟨hb2, g2'⟩
      · have := hold b1 k1 e1 h1 (by omega) g1'
        simp; omega
      · rw [hget b2 hb2] at h2
        exact h.ginj b1 b2 k1 k2 e1 e2 h1 h2 m1 m2 g1' g2' hne
  · intro b i k e r h1 h2 g1 hr
    rcases hgm b e g1 with ⟨rfl, rfl⟩ | ⟨hb1, g1'⟩
    · have hi : i < F.length := h.fdom _ _ hr
      obtain ⟨c', t', hf⟩ := h.fblk i F[i] r (List.getElem?_eq_getElem hi) hr
      have := lt_of_row hf.row
      simp; omega
    · rw [hget b hb1] at h1
      exact h.gf b i k e r h1 h2 g1' hr

theorem HRel.newF (h : HRel P B K w0 m F G w) {w' : World} {c : Array Value} {t : TypeId} (hg : Grown w w' c t (0, 0)) {cells : List IV} (hc : ARel m cells c) :
    HRel P B K w0 (m.addF F.length w.heap.size) (F ++ [cells]) G w' := by
  have hle : m.le (m.addF F.length w.heap.size) := Map.le_addF (h.f_none (Nat.le_refl _))
  have h' := h.grow hg.below
  have hfm : ∀ i b, (m.addF F.length w.heap.size).f i = some b → (i = F.length ∧ b = w.heap.size) ∨ (i < F.length ∧ m.f i = some b) := by
    intro b e he
    simp only [Map.addF] at he
    split at he
    · rename_i hb; injection he with he; exact .inl ⟨hb, he.symm⟩
    · exact .inr ⟨h.fdom _ _ he, he⟩
  have hget : ∀ b, b < F.length → (F ++ [cells])[b]? = F[b]? := fun b hb => List.getElem?_append_left hb
  have hget' : (F ++ [cells])[F.length]? = some cells := by simp
  have hold : ∀ i r, m.f i = some r → r < w.heap.size := fun i r hr => by
    have hi : i < F.length := h.fdom _ _ hr
    obtain ⟨c', t', hf⟩ := h.fblk i F[i] r (List.getElem?_eq_getElem hi) hr
    exact lt_of_row hf.row
  refine { bk := h.bk, frame := h'.frame, os := h'.os, tape := h'.tape, output := h'.output, size := h'.size, gdom := h.gdom, fdom := ?_, gblk := ?_, fblk := ?_, ginj := h.ginj, gf := ?_, finj := ?_ }
  · intro b e he
    rcases hfm b e he with ⟨rfl, _⟩ | ⟨hb, _⟩ <;> simp <;> omega
  · intro b k e hk hm he
    obtain ⟨c', t', fr', hgb⟩ := h'.gblk b k e hk hm he
    exact ⟨c', t', fr', { hgb with cells := fun i iv hi => by obtain ⟨v, h1, h2, h3⟩ := hgb.cells i iv hi; exact ⟨v, h1, h2.mono (Map.noF_mono hle), h3⟩ }⟩
  · intro i cs b hi hb
    rcases hfm i b hb with ⟨rfl, rfl⟩ | ⟨hi', hb'⟩
    · rw [hget'] at hi
      injection hi with hi
      subst hi
      refine ⟨c, t, { row := hg.row, size := hc.1.symm, cells := fun i iv hi => ?_, own := fun hK => ?_ }⟩
      · obtain ⟨v, h1, h2⟩ := hc.get hi
        exact ⟨v, h1, h2.mono hle⟩
      · have := (h.frame _ hK).1
        have := h.size
        omega
    · rw [hget i hi'] at hi
      obtain ⟨c', t', hf⟩ := h'.fblk i cs b hi hb'
      exact ⟨c', t', { hf with cells := fun j iv hj => by obtain ⟨v, h1, h2⟩ := hf.cells j iv hj; exact ⟨v, h1, h2.mono hle⟩ }⟩
  · intro b i k e r h1 h2 g1 hr
    rcases hfm i r hr with ⟨rfl, rfl⟩ | ⟨hi', hr'⟩
    · obtain ⟨c', t', fr', hgb⟩ := h.gblk b k e h1 (by omega) g1
      have := lt_of_row hgb.row
      omega
    · exact h.gf b i k e r h1 h2 g1 hr'
  · intro i j r s hr hs hne
    rcases hfm i r hr with ⟨rfl, rfl⟩ | ⟨hi', hr'⟩
    · rcases hfm j s hs with ⟨rfl, rfl⟩ | ⟨hj', hs'⟩
      · exact absurd rfl hne
      · have := hold j s hs'; omega
    · rcases hfm j s hs with ⟨rfl, rfl⟩ | ⟨hj', hs'⟩
      · have := hold i r hr'; omega
      · exact h.finj i j r s hr' hs' hne

/-- One row has been written; all else stands. -/
structure Wrote (w w' : World) (b : Nat) (c : Array Value) (t : TypeId) (fr : Nat × Nat) : Prop where
  os : w'.os = w.os
  tape : w'.tape = w.tape
  output : w'.output = w.output
  size : w'.heap.size = w.heap.size
  row : w'.heap[b]? = some (.cells c t fr)
  other : ∀ i, i ≠ b → w'.heap[i]? = w.heap[i]?

theorem HRel.writeG (h : HRel P B K w0 m F G w) {b : Nat} {k : Blk} {e : Ent} (hk : G[b]? = some k) (hm : k.mode = 1) (he : m.g b = some e) {w' : World} {c c' : Array Value} {t : TypeId} {fr : Nat × Nat}
    (hgb : GB P B K m k e w c t fr) (hw : Wrote w w' e.blk c' t fr) (hsz : c'.size = c.size) {cells : List IV} (hlen : cells.length ≤ k.cells.length)
    (hc : ∀ (i : Nat) (iv : IV), cells[i]? = some iv → ∃ v, c'[e.off + i]? = some v ∧ VRel m.noF iv v ∧ v.oneCell' = true) :
    HRel P B K w0 m F (G.set b { k with cells := cells }) w' := by
  obtain ⟨hK, ht, hrw, hcs, hfr⟩ := hgb.rw hm
  have hb : b < G.length := (List.getElem?_eq_some_iff.1 hk).1
  have hset : ∀ i, (G.set b { k with cells := cells })[i]? = if b = i then some { k with cells := cells } else G[i]? := by
    intro i
    rw [List.getElem?_set]
    simp only [hb, if_true]
  have hmode : ∀ (i : Nat) (k' : Blk), (G.set b { k with cells := cells })[i]? = some k' → ∃ k'', G[i]? = some k'' ∧ k''.mode = k'.mode := by
    intro i k' hi
    rw [hset] at hi
    split at hi
    · rename_i hbi; injection hi with hi; subst hi; subst hbi; exact ⟨k, hk, rfl⟩
    · exact ⟨k', hi, rfl⟩
  refine { bk := h.bk, frame := ?_, os := hw.os.trans h.os, tape := hw.tape.trans h.tape, output := hw.output.trans h.output, size := by rw [hw.size]; exact h.size, gdom := ?_, fdom := h.fdom, gblk := ?_, fblk := ?_, ginj := ?_, gf := ?_, finj := h.finj }
  · intro i hi
    obtain ⟨h1, h2⟩ := h.frame i hi
    exact ⟨h1, (hw.other i (fun hc => hK (hc ▸ hi))).trans h2⟩
  · intro i e' hi
    rw [List.length_set]; exact h.gdom i e' hi
  · intro i k' e' hi hm' he'
    rw [hset] at hi
    split at hi
    · rename_i hbi
      subst hbi
      injection hi with hi
      subst hi
      have : e' = e := by rw [he] at he'; injection he' with he'; exact he'.symm
      subst this
      exact ⟨c', t, fr, { row := hw.row, fits := by have := hgb.fits; simp; omega, cells := hc, ro := fun h => by simp at h; omega, esz := hgb.esz, rw := fun _ => ⟨hK, ht, hrw, by rw [hsz]; exact hcs, by rw [hsz]; exact hfr⟩ }⟩
    · rename_i hbi
      obtain ⟨c1, t1, fr1, hg1⟩ := h.gblk i k' e' hi hm' he'
      have hne : e'.blk ≠ e.blk := by
        by_cases hm1 : k'.mode = 1
        · exact h.ginj i b k' k e' e hi hk hm1 hm he' he (fun h => hbi h.symm)
        · intro heq
          exact hK (h.bk _ (heq ▸ hg1.ro (by omega)))
      exact ⟨c1, t1, fr1, { hg1 with row := (hw.other _ hne).trans hg1.row }⟩
  · intro i cs r hi hr
    obtain ⟨c1, t1, hf⟩ := h.fblk i cs r hi hr
    exact ⟨c1, t1, { hf with row := (hw.other _ (fun hc => h.gf b i k e r hk hm he hr hc.symm)).trans hf.row }⟩
  · intro b1 b2 k1 k2 e1 e2 h1 h2 m1 m2 g1 g2 hne
    obtain ⟨q1, p1, p2⟩ := hmode b1 k1 h1
    obtain ⟨q2, p3, p4⟩ := hmode b2 k2 h2
    exact h.ginj b1 b2 q1 q2 e1 e2 p1 p3 (by omega) (by omega) g1 g2 hne
  · intro b1 i k1 e1 r h1 m1 g1 hr
    obtain ⟨q1, p1, p2⟩ := hmode b1 k1 h1
    exact h.gf b1 i q1 e1 r p1 (by omega) g1 hr

theorem HRel.writeF (h : HRel P B K w0 m F G w) {i r : Nat} {cs : List IV} (hi : F[i]? = some cs) (hr : m.f i = some r) {w' : World} {c c' : Array Value} {t : TypeId}
    (hf : FB K m cs r w c t) (hw : Wrote w w' r c' t (0, 0)) {cells : List IV} (hc : ARel m cells c') :
    HRel P B K w0 m (F.set i cells) G w' := by
  have hb : i < F.length := (List.getElem?_eq_some_iff.1 hi).1
  have hset : ∀ j, (F.set i cells)[j]? = if i = j then some cells else F[j]? := by
    intro j
    rw [List.getElem?_set]
    simp only [hb, if_true]
  refine { bk := h.bk, frame := ?_, os := hw.os.trans h.os, tape := hw.tape.trans h.tape, output := hw.output.trans h.output, size := by rw [hw.size]; exact h.size, gdom := h.gdom, fdom := ?_, gblk := ?_, fblk := ?_, ginj := h.ginj, gf := h.gf, finj := h.finj }
  · intro j hj
    obtain ⟨h1, h2⟩ := h.frame j hj
    exact ⟨h1, (hw.other j (fun hc => hf.own (hc ▸ hj))).trans h2⟩
  · intro j e' hj
    rw [List.length_set]; exact h.fdom j e' hj
  · intro b k e hk hm he
    obtain ⟨c1, t1, fr1, hg1⟩ := h.gblk b k e hk hm he
    have hne : e.blk ≠ r := by
      by_cases hm1 : k.mode = 1
      · exact h.gf b i k e r hk hm1 he hr
      · intro heq
        exact hf.own (h.bk _ (heq ▸ hg1.ro (by omega)))
    exact ⟨c1, t1, fr1, { hg1 with row := (hw.other _ hne).trans hg1.row }⟩
  · intro j cs' r' hj hr'
    rw [hset] at hj
    split at hj
    · rename_i hij
      subst hij
      injection hj with hj
      subst hj
      have : r' = r := by rw [hr] at hr'; injection hr' with hr'; exact hr'.symm
      subst this
      exact ⟨c', t, { row := hw.row, size := hc.1.symm, cells := fun o iv ho => hc.get ho, own := hf.own }⟩
    · rename_i hij
      obtain ⟨c1, t1, hf1⟩ := h.fblk j cs' r' hj hr'
      exact ⟨c1, t1, { hf1 with row := (hw.other _ (fun hc => h.finj j i r' r hr' hr (fun h => hij h.symm) hc)).trans hf1.row }⟩

/-- A block is gone from the shared heap; what the model has stays. -/
theorem HRel.kill (h : HRel P B K w0 m F G w) (b : Nat) : HRel P B K w0 m F (gkill G b) w := by
  unfold gkill
  split
  · rename_i k hk
    have hb : b < G.length := (List.getElem?_eq_some_iff.1 hk).1
    have hset : ∀ i, (G.set b { k with mode := 2 })[i]? = if b = i then some { k with mode := 2 } else G[i]? := by
      intro i
      rw [List.getElem?_set]
      simp only [hb, if_true]
    have hlive : ∀ (i : Nat) (k' : Blk), (G.set b { k with mode := 2 })[i]? = some k' → k'.mode ≤ 1 → G[i]? = some k' := by
      intro i k' hi hm
      rw [hset] at hi
      split at hi
      · injection hi with hi; subst hi; simp at hm
      · exact hi
    exact { bk := h.bk, frame := h.frame, os := h.os, tape := h.tape, output := h.output, size := h.size, fdom := h.fdom, fblk := h.fblk, finj := h.finj
            gdom := fun i e hi => by rw [List.length_set]; exact h.gdom i e hi
            gblk := fun i k' e hi hm he => h.gblk i k' e (hlive i k' hi hm) hm he
            ginj := fun b1 b2 k1 k2 e1 e2 h1 h2 m1 m2 g1 g2 hne => h.ginj b1 b2 k1 k2 e1 e2 (hlive _ _ h1 (by omega)) (hlive _ _ h2 (by omega)) m1 m2 g1 g2 hne
            gf := fun b1 i k1 e1 r h1 m1 g1 hr => h.gf b1 i k1 e1 r (hlive _ _ h1 (by omega)) m1 g1 hr }
  · exact h

/-! ### Stores -/
def setAll : List Value → Nat → Array Value → Array Value
  | [], _, c => c
  | v :: vs, i, c => setAll vs (i + 1) (c.setIfInBounds i v)

theorem setAll_size : ∀ (vs : List Value) (i : Nat) (c : Array Value), (setAll vs i c).size = c.size
  | [], _, _ => rfl
  | v :: vs, i, c => by simp [setAll, setAll_size vs]

theorem setAll_get : ∀ (vs : List Value) (i : Nat) (c : Array Value) (j : Nat), i + vs.length ≤ c.size → (setAll vs i c)[j]? = if i ≤ j ∧ j < i + vs.length then vs[j - i]? else c[j]?
  | [], i, c, j, _ => by simp [setAll]; omega
  | v :: vs, i, c, j, h => by
    simp only [List.length_cons] at h
    simp only [setAll]
    rw [setAll_get vs (i + 1) _ j (by simp; omega)]
    by_cases h1 : j = i
    · subst h1
      rw [if_neg (by omega), if_pos (by simp)]
      rw [Array.getElem?_setIfInBounds_self_of_lt (by omega)]
      simp
    · by_cases h2 : i ≤ j ∧ j < i + (v :: vs).length
      · simp only [List.length_cons] at h2
        rw [if_pos (by omega), if_pos (by simp; omega)]
        rw [show j - i = (j - (i + 1)) + 1 by omega, List.getElem?_cons_succ]
      · simp only [List.length_cons] at h2
        rw [if_neg (by omega), if_neg (by simp; omega)]
        rw [Array.getElem?_setIfInBounds_ne (by omega)]

theorem wrote_setCell {w : World} {b o : Nat} {c : Array Value} {t : TypeId} {fr : Nat × Nat} (h : w.heap[b]? = some (.cells c t fr)) (v : Value) : Wrote w (w.setCell ⟨b, o, none⟩ v) b (c.setIfInBounds o v) t fr := by
  refine { os := rfl, tape := rfl, output := rfl, size := by simp [World.setCell], row := ?_, other := fun i hi => ?_ }
  · simp [World.setCell, Array.getElem?_modify, h]
  · simp only [World.setCell, Array.getElem?_modify]
    rw [if_neg (fun h => hi h.symm)]

theorem Wrote.trans {w w1 w2 : World} {b : Nat} {c c' : Array Value} {t t' : TypeId} {fr fr' : Nat × Nat} (h : Wrote w w1 b c t fr) (k : Wrote w1 w2 b c' t' fr') : Wrote w w2 b c' t' fr' :=
  { os := k.os.trans h.os, tape := k.tape.trans h.tape, output := k.output.trans h.output, size := k.size.trans h.size, row := k.row, other := fun i hi => (k.other i hi).trans (h.other i hi) }

theorem run_setCells (b o : Nat) (t : TypeId) (fr : Nat × Nat) : ∀ (vs : List Value) (i : Nat) (c : Array Value) (w : World), w.heap[b]? = some (.cells c t fr) → o + i + vs.length ≤ c.size →
    (∀ x, x < c.size → ¬ (fr.1 ≤ x ∧ x < fr.2)) → (∀ v ∈ vs, v.oneCell' = true) → ∃ w', (storeCells ⟨b, o, none⟩ vs i).run P w = .ok () w' ∧ Wrote w w' b (setAll vs (o + i) c) t fr
  | [], i, c, w, h, _, _, _ => ⟨w, rfl, { os := rfl, tape := rfl, output := rfl, size := rfl, row := h, other := fun _ _ => rfl }⟩
  | v :: vs, i, c, w, h, hl, hfr, hv => by
    simp only [List.length_cons] at hl
    have hlt : o + i < c.size := by omega
    have hcell : w.cell? ⟨b, o + i, none⟩ = some c[o + i] := by rw [cell?_eq h]; exact Array.getElem?_eq_getElem hlt
    have hfz : w.frozen? ⟨b, o + i, none⟩ = false := by
      have := hfr (o + i) hlt
      simp only [World.frozen?, h]
      simp only [Bool.and_eq_false_iff, decide_eq_false_iff_not]
      omega
    have hst : (store ⟨b, o + i, none⟩ v).run P w = .ok () (w.setCell ⟨b, o + i, none⟩ v) := by
      rw [run_store P w _ v .plain (hv v (by simp)), hcell]
      simp [hfz]
    have hw1 := wrote_setCell (o := o + i) h v
    obtain ⟨w', h1, h2⟩ := run_setCells b o t fr vs (i + 1) (c.setIfInBounds (o + i) v) _ hw1.row (by simp; omega) (by simpa using hfr) (fun x hx => hv x (by simp [hx]))
    refine ⟨w', ?_, hw1.trans h2⟩
    simp only [storeCells, addr_add, Sem.run_bind, hst, Result.andThen_ok]
    exact h1

theorem one_of_rel {cs : List IV} {l : List Value} (h : LRel m cs l) (hc : cellsI cs = true) : ∀ v ∈ l, v.oneCell' = true := by
  intro v hv
  obtain ⟨i, hi, rfl⟩ := List.mem_iff_getElem.1 hv
  have h1 : i < cs.length := by rw [h.1]; exact hi
  exact cellI_one (h.2 i cs[i] l[i] (List.getElem?_eq_getElem h1) (List.getElem?_eq_getElem hi)) (cellsI_get hc (List.getElem?_eq_getElem h1))

theorem noLocs_get' {cs : List IV} {i : Nat} {iv : IV} (h : noLocs cs = true) (hi : cs[i]? = some iv) : noLoc iv = true := VRel.noF.noLocs_get h hi

theorem splice_rel {cs vs : List IV} {off b0 : Nat} {c : Array Value} {l : List Value} {Q : IV → Value → Prop} (hl : off + vs.length ≤ cs.length) (hs : b0 + cs.length ≤ c.size) (hlen : vs.length = l.length)
    (hc : ∀ (i : Nat) (iv : IV), cs[i]? = some iv → ∃ v, c[b0 + i]? = some v ∧ Q iv v) (hv : ∀ (i : Nat) (iv : IV) (v : Value), vs[i]? = some iv → l[i]? = some v → Q iv v) :
    ∀ (i : Nat) (iv : IV), (splice cs off vs)[i]? = some iv → ∃ v, (setAll l (b0 + off) c)[b0 + i]? = some v ∧ Q iv v := by
  intro i iv hi
  rw [splice_get hl] at hi
  rw [setAll_get l (b0 + off) c _ (by omega)]
  split at hi
  · rename_i hq
    rw [if_pos (by omega)]
    have h1 : i - off < l.length := by omega
    refine ⟨l[i - off], ?_, hv (i - off) iv _ hi (List.getElem?_eq_getElem h1)⟩
    rw [show b0 + i - (b0 + off) = i - off by omega]
    exact List.getElem?_eq_getElem h1
  · rename_i hq
    rw [if_neg (by omega)]
    exact hc i iv hi

/-- A variable is written. -/
theorem store_rel {R : Type} (h0 : HRel P B K w0 m F G w) {t : TypeId} {x v : IV} {vx vv : Value} {k : List (List IV) → GH → Option R} {r : R} (h : storeC P t x v F G k = some r) (hx : VRel m x vx) (hv : VRel m v vv) :
    ∃ w' F' G', (Instr.storeAt t vx vv).run P w = .ok () w' ∧ HRel P B K w0 m F' G' w' ∧ k F' G' = some r := by
  unfold storeC at h
  split at h
  · rename_i hc
    obtain ⟨hlen, hcell, hz⟩ := hc
    have hcr := cells_rel hv
    have hL : LRel m v.cells vv.cells.toList := ⟨by have := hcr.1; simpa using this, fun i iv v a b => hcr.2 i iv v a (by simpa using b)⟩
    obtain ⟨ii, hii, hs⟩ := cellsT_pos hz
    have hrun : ∀ ad w', (storeCells ad vv.cells.toList).run P w = .ok () w' → (Instr.storeAt t (.pointer (some ad)) vv).run P w = .ok () w' := by
      intro ad w' hw
      have : vv.cells.size = ii.size := by rw [hs, ← hlen]; exact hcr.1.symm
      simp only [Instr.storeAt, Instr.sureAddr, storeVar, Sem.run_bind, Sem.run_pure, Result.andThen_ok, run_sizeI hii, this, ne_eq, not_true_eq_false, if_false]
      exact hw
    split at h
    · rename_i p
      split at h
      · rename_i hnl
        split at h
        · rename_i G' hG'
          unfold gst at hG'
          split at hG'
          · rename_i blk hblk
            split at hG'
            · rename_i hmo
              injection hG' with hG'
              subst hG'
              cases hx with
              | ptr _ e he =>
                obtain ⟨c, t', fr, hgb⟩ := h0.gblk _ _ e hblk (by omega) he
                have hfits := hgb.fits
                obtain ⟨w', hw1, hw2⟩ := run_setCells (P := P) e.blk (e.off + p.o) t' fr vv.cells.toList 0 c w hgb.row (by have := hL.1; omega) (hgb.rw hmo.1).2.2.2.2 (one_of_rel hL hcell)
                refine ⟨w', F, _, hrun _ w' hw1, ?_, h⟩
                refine h0.writeG hblk hmo.1 he hgb hw2 (by rw [setAll_size]) (by rw [splice_len hmo.2]; exact Nat.le_refl _) ?_
                rw [Nat.add_zero]
                exact splice_rel (Q := fun iv v => VRel m.noF iv v ∧ v.oneCell' = true) hmo.2 hfits hL.1 hgb.cells fun i iv v hi hv =>
                  ⟨(hL.2 i iv v hi hv).noF (noLocs_get' hnl hi), cellI_one (hL.2 i iv v hi hv) (cellsI_get hcell hi)⟩
            · cases hG'
          · cases hG'
        · cases h
      · cases h
    · rename_i b i
      split at h
      · rename_i cs hcs
        split at h
        · rename_i hl
          cases hx with
          | loc _ _ q hq =>
            obtain ⟨c, t', hf⟩ := h0.fblk _ _ _ hcs hq
            obtain ⟨w', hw1, hw2⟩ := run_setCells (P := P) q i t' (0, 0) vv.cells.toList 0 c w hf.row (by have := hL.1; have := hf.size; omega) (fun x _ => by omega) (one_of_rel hL hcell)
            refine ⟨w', _, G, hrun _ w' hw1, ?_, h⟩
            refine h0.writeF hcs hq hf hw2 ⟨by rw [splice_len hl, setAll_size, hf.size], ?_⟩
            have := splice_rel (b0 := 0) (Q := fun iv v => VRel m iv v) hl (by rw [hf.size]; omega) hL.1 (fun i iv hi => by rw [Nat.zero_add]; exact hf.cells i iv hi) hL.2
            intro j iv v hj hjv
            obtain ⟨v', h1, h2⟩ := this j iv hj
            rw [Nat.add_zero] at hjv
            rw [Nat.zero_add, Nat.zero_add] at h1
            rw [h1] at hjv
            injection hjv with hjv
            rw [← hjv]; exact h2
        · cases h
      · cases h
    · cases h
  · cases h

end
end Go.LI
