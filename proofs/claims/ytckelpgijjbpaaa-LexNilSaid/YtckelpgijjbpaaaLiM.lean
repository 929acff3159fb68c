/- A region whose order is drawn: what leaves memory alone in any order, what does not at the end, in one. -/
import Derived.Test.YtckelpgijjbpaaaLiL
import Derived.StillTail
namespace Go.LI
open Go Go.RowKit

section
variable {P : Program} {ops : Array Oper} {md : Region.Mode} {C : World → Prop}

def wpAnyLQ (P : Program) (md : Region.Mode) (ops : Array Oper) (C : World → Prop) (n : Nat) (L : Array Bool → Act → Prop) : Nat → Array Bool → Act → Prop
  | 0, listed, a => L listed a
  | f + 1, listed, a => Region.ready md ops listed ≠ [] ∧ ∀ i ∈ Region.ready md ops listed, i < n ∧ qOp P ops C i (wpAnyLQ P md ops C n L f (listed.setIfInBounds i true)) a

theorem wpAny_of_headQ {n g : Nat} {L : Array Bool → Act → Prop} {Q' : Exit → Act → World → Prop} (hL : ∀ listed a w, C w → L listed a → wpAny P md ops Q' g listed a w) :
    ∀ (f : Nat) (listed : Array Bool) (a : Act) (w : World), C w → wpAnyLQ P md ops C n L f listed a → wpAny P md ops Q' (f + g) listed a w
  | 0, listed, a, w, hC, h => by rw [Nat.zero_add]; exact hL _ _ _ hC h
  | f + 1, listed, a, w, hC, h => by
    rw [show f + 1 + g = (f + g) + 1 by omega]
    exact ⟨fun h0 => absurd h0 h.1, fun i hi => wpOp_of_qOp hC (fun a' w' hw' h' => wpAny_of_headQ hL f _ a' w' hw' h') (h.2 i hi).2⟩

theorem wpAnyLQ_first {n i : Nat} {oi : Oper} {v : Value} {L : Array Bool → Act → Prop} (hi : ops[i]? = some oi) (hsel : ∀ (j : Nat) (o : Oper) cs b, ops[j]? = some o → o.op ≠ .select cs b)
    (hs : Region.sinkB md ops n = true) (hc : Region.chainB md ops n = true) (hn : n < ops.size) (hin : i < n) (hdone : ∀ listed a, L listed a → ∀ j ∈ Region.ready md ops listed, n ≤ j) :
    ∀ (f : Nat) (listed : Array Bool) (a : Act), HeadInv md ops n listed →
      (∀ j oj, ops[j]? = some oj → j ≠ i → listed.getD j true = false → (∀ e ∈ oj.after, Region.binds md e = true → e.on ≠ i) → oi.apart ops oj = true) →
      i ∈ Region.ready md ops listed → YieldsIn P ops C oi v a → wpAnyLQ P md ops C n L f (listed.setIfInBounds i true) (a.put oi.dst v) → wpAnyLQ P md ops C n L (f + 1) listed a := by
  intro f
  induction f with
  | zero =>
    intro listed a inv _ hr hy H
    have hun := (mem_ready.1 hr).1
    refine ⟨fun h => (by rw [h] at hr; cases hr), fun j hj => ?_⟩
    have hjn : j < n := by
      rcases Nat.lt_or_ge j n with h | h
      · exact h
      · exact absurd hj (tail_waits hs hc hn inv _ i rfl hin hun j h)
    refine ⟨hjn, ?_⟩
    by_cases hji : j = i
    · subst hji; exact hy.qOp hi H
    · have := hdone _ _ H j (ready_mono hj hji)
      omega
  | succ f ih =>
    intro listed a inv hfree hr hy H
    have hun := (mem_ready.1 hr).1
    refine ⟨fun h => (by rw [h] at hr; cases hr), fun j hj => ?_⟩
    have hjn : j < n := by
      rcases Nat.lt_or_ge j n with h | h
      · exact h
      · exact absurd hj (tail_waits hs hc hn inv _ i rfl hin hun j h)
    refine ⟨hjn, ?_⟩
    by_cases hji : j = i
    · subst hji; exact hy.qOp hi H
    · have h1 := (H.2 j (ready_mono hj hji)).2
      obtain ⟨hjun, oj, hoj, hall⟩ := mem_ready.1 hj
      have hnot : ∀ e ∈ oj.after, Region.binds md e = true → e.on ≠ i := fun e he hb heq => by
        have h1 := hall e he hb
        rw [heq, getD_both hun] at h1
        cases h1
      have h2 := qOp_put hoj (hfree j oj hoj hji hjun hnot) (fun cs b => hsel i oi cs b hi) (fun cs b => hsel j oj cs b hoj) hy h1
      have hfree' : ∀ k ok, ops[k]? = some ok → k ≠ i → (listed.setIfInBounds j true).getD k true = false → (∀ e ∈ ok.after, Region.binds md e = true → e.on ≠ i) → oi.apart ops ok = true := fun k ok hk hki hun hno => by
        refine hfree k ok hk hki ?_ hno
        by_cases hjk : j = k
        · subst hjk; exact hjun
        · rw [getD_set_ne true hjk] at hun; exact hun
      refine qOp_mono (fun a' h3 => ih (listed.setIfInBounds j true) a' (inv.set hj hjn) hfree' (ready_mono hr (Ne.symm hji)) h3.1 ?_) h2
      rw [Array.setIfInBounds_comm _ _ hji]
      exact h3.2

theorem wpAnyLQ_lex {n g : Nat} {Lq : Act → Prop} (hsel : Region.noSelect ops = true) (hs : Region.sinkB md ops n = true) (hc : Region.chainB md ops n = true) (hn : n < ops.size) :
    ∀ (l : List Oper) (k : Nat) (listed : Array Bool) (a : Act), (∀ j, j < l.length → l[j]? = ops[k + j]?) → k + l.length = n → HeadInv md ops n listed →
    Region.lexHead md ops g l.length k listed = true → wpQuiet P ops C Lq l a → wpAnyLQ P md ops C n (fun listed' a' => Region.seqB md ops g n listed' = true ∧ Lq a') l.length listed a
  | [], k, listed, a, _, hk, _, hB, h => by
    have : k = n := by simpa using hk
    subst this
    exact ⟨by simpa [Region.lexHead] using hB, h⟩
  | o :: l, k, listed, a, hl, hk, inv, hB, h => by
    have h0 : ops[k]? = some o := by simpa using (hl 0 (by simp)).symm
    simp only [List.length_cons, Region.lexHead, Bool.and_eq_true] at hB
    obtain ⟨⟨hr, hf⟩, hB'⟩ := hB
    have hkn : k < n := by simp only [List.length_cons] at hk; omega
    have hr' : k ∈ Region.ready md ops listed := by simpa using hr
    have hst : qOp P ops C k (wpQuiet P ops C Lq l) a := by unfold qOp; simp only [h0]; exact h
    obtain ⟨v, hy, hK⟩ := yieldsIn_of_qOp h0 hst
    exact wpAnyLQ_first h0 (Region.noSelect_spec hsel) hs hc hn hkn (fun listed' a' hL => seqB_ready hL.1) l.length listed a inv (Region.free_spec h0 hf) hr' hy
      (wpAnyLQ_lex hsel hs hc hn l (k + 1) _ _ (fun j hj => by have := hl (j + 1) (by simp; omega); simpa [Nat.add_assoc, Nat.add_comm 1 j] using this) (by simp only [List.length_cons] at hk; omega) (inv.set hr' hkn) hB' hK)

theorem wp_region_quiet_tail {id : Nat} {Q : Exit → Act → World → Prop} {a : Act} {w : World} (n : Nat) (hm : P.follows .mixedOrders = true) (hB : Region.lexTailB .any ops n = true) (hC : C { w with drawn := w.drawn + 1 })
    (h : wpQuiet P ops C (fun a' => ∀ w', C w' → wpList P ops Q (ops.toList.drop n) a' w') (ops.toList.take n) a) : (Code.region id ops true).wp P Q a w := by
  simp only [Region.lexTailB, Bool.and_eq_true, decide_eq_true_eq] at hB
  obtain ⟨⟨⟨⟨hsel, hn⟩, hs⟩, hc⟩, hlex⟩ := hB
  have hn' : n < ops.toList.length := by simpa using hn
  have htl : (ops.toList.take n).length = n := by simp; omega
  have hdl : (ops.toList.drop n).length = ops.size - n := by simp
  have inv0 : HeadInv .any ops n (Array.replicate ops.size false) :=
    ⟨by simp, fun j oj _ hl => (by rw [getD_replicate_false] at hl; cases hl), fun t _ ht => getD_in (by simpa using ht) (getD_replicate_false _ _)⟩
  have H := wpAnyLQ_lex (md := .any) (g := ops.size - n) hsel hs hc hn (ops.toList.take n) 0 _ a (fun j hj => by
    have hj' : j < n := by rw [htl] at hj; exact hj
    simp [hj']) (by simpa using htl) inv0 (by rw [htl]; exact hlex) h
  refine wp_region_any hm ?_
  have := wpAny_of_headQ (Q' := Q) (g := ops.size - n) (fun listed a' w' hw' hL => by
    have := wpAny_of_seq (md := .any) (Q' := Q) (ops.toList.drop n) n listed a' w' (fun j => by simp [List.getElem?_drop]) (by rw [hdl]; exact hL.1) (hL.2 w' hw')
    rwa [hdl] at this) _ _ _ _ hC H
  rw [htl, show n + (ops.size - n) = ops.size by omega] at this
  exact this
end

section
variable {R : Type} {P : Program} {B K : Nat → Prop} {w0 : World} {m : Map} {F : List (List IV)} {G : GH} {w : World} {O : Ora R} {lo : List Nat} {o : Oper} {env : List IV} {a : Act} {r : R}

/-- All that stands is to be read alone. -/
theorem HRel.freeze (h : HRel P B K w0 m F G w) : HRel P (fun b => b < w.heap.size) (fun b => b < w.heap.size) w m.noF [] (gfreeze G) w where
  bk := fun b hb => hb
  frame := fun b hb => ⟨hb, rfl⟩
  os := rfl
  tape := rfl
  output := rfl
  size := Nat.le_refl _
  gdom := fun b e he => by simp [gfreeze]; exact h.gdom b e he
  fdom := fun k b hb => by cases hb
  gblk := fun b k e hk hm he => by
    simp only [gfreeze, List.getElem?_map] at hk
    cases hq : G[b]? with
    | none => rw [hq] at hk; cases hk
    | some k0 =>
      rw [hq] at hk
      injection hk with hk
      subst hk
      simp only at hm
      split at hm
      · rename_i hm0
        obtain ⟨c, t, fr, hg⟩ := h.gblk b k0 e hq hm0 he
        refine ⟨c, t, fr, { row := hg.row, fits := hg.fits, cells := hg.cells, ro := fun _ => lt_of_row hg.row, esz := hg.esz, rw := fun h1 => ?_ }⟩
        simp [hm0] at h1
      · omega
  fblk := fun i cs b hi => by simp at hi
  ginj := fun b1 b2 k1 k2 e1 e2 h1 _ m1 _ _ _ _ => by
    simp only [gfreeze, List.getElem?_map] at h1
    cases hq : G[b1]? with
    | none => rw [hq] at h1; cases h1
    | some k0 => rw [hq] at h1; injection h1 with h1; subst h1; simp only at m1; split at m1 <;> omega
  gf := fun b i k e r _ _ _ hr => by cases hr
  finj := fun i j r s hr => by cases hr

theorem flat_eq0 {m1 : Map} {v : IV} {x : Value} (h : VRel m1 v x) : ∀ (m2 : Map) (y : Value), isFlat v = true → VRel m2 v y → x = y := by
  induction h with
  | bool => intro m2 y _ k; cases k; rfl
  | int => intro m2 y _ k; cases k; rfl
  | float => intro m2 y _ k; cases k; rfl
  | str => intro m2 y _ k; cases k; rfl
  | ptrNil => intro m2 y _ k; cases k; rfl
  | ptr a e h => intro m2 y hf k; simp [isFlat] at hf
  | loc k o b h => intro m2 y hf _; simp [isFlat] at hf
  | sliceNil => intro m2 y _ k; cases k; rfl
  | slice => intro m2 y hf k; simp [isFlat] at hf
  | sliceE => intro m2 y hf k; simp [isFlat] at hf
  | func f cs cs' hs _ ih => intro m2 y hf k; cases k with | func _ _ ds hs2 hd => rw [arr_eq hs hs2 (by simpa [isFlat] using hf) ih hd]
  | nilFunc => intro m2 y _ k; cases k; rfl
  | nilIface => intro m2 y _ k; cases k; rfl
  | iface t iv v _ ih => intro m2 y hf k; cases k with | iface _ _ v2 h2 => rw [ih _ _ (by simpa [isFlat] using hf) h2]
  | agg cs cs' hs _ ih => intro m2 y hf k; cases k with | agg _ ds hs2 hd => rw [arr_eq hs hs2 (by simpa [isFlat] using hf) ih hd]
  | tuple cs cs' hs _ ih => intro m2 y hf k; cases k with | tuple _ ds hs2 hd => rw [arr_eq hs hs2 (by simpa [isFlat] using hf) ih hd]
  | fo k o b h hn => intro m2 y hf _; simp [isFlat] at hf
where
  flats_get : ∀ {cs : List IV} {i : Nat} {iv : IV}, isFlats cs = true → cs[i]? = some iv → isFlat iv = true
    | [], _, _, _, h => by simp at h
    | c :: cs, 0, iv, hn, h => by simp [isFlats] at hn; simp at h; rw [← h]; exact hn.1
    | c :: cs, i + 1, iv, hn, h => by simp [isFlats] at hn; exact flats_get hn.2 (by simpa using h)
  arr_eq : ∀ {cs : List IV} {xs ys : Array Value} {m2 : Map}, cs.length = xs.size → cs.length = ys.size → isFlats cs = true →
      (∀ (i : Nat) (iv : IV) (v : Value), cs[i]? = some iv → xs[i]? = some v → ∀ (m2 : Map) (y : Value), isFlat iv = true → VRel m2 iv y → v = y) →
      (∀ (i : Nat) (iv : IV) (v : Value), cs[i]? = some iv → ys[i]? = some v → VRel m2 iv v) → xs = ys := by
    intro cs xs ys m2 h1 h2 hf ih hd
    apply Array.ext (by omega)
    intro i hi1 hi2
    have h0 : i < cs.length := by omega
    exact ih i cs[i] xs[i] (List.getElem?_eq_getElem h0) (Array.getElem?_eq_getElem hi1) _ _ (flats_get hf (List.getElem?_eq_getElem h0)) (hd i cs[i] ys[i] (List.getElem?_eq_getElem h0) (Array.getElem?_eq_getElem hi2))

theorem flat_eq {m1 m2 : Map} {v : IV} {x y : Value} (h : VRel m1 v x) (hf : isFlat v = true) (k : VRel m2 v y) : x = y := flat_eq0 h m2 y hf k

/-- A call that only reads, in each world that has only grown: one value. -/
theorem call_quiet (hO : GoodO P O) {f : FuncId} {args : List IV} {k : IV → List (List IV) → GH → Option R} {t : TypeId} (h : (O f args (gfreeze G) fun v _ => castT P t v fun v => if isFlat v then k v F G else none) = some r) (hn : noLocs args = true) :
    ∃ v, k v F G = some r ∧ ∀ (B K : Nat → Prop) (w0 : World) (m : Map) (w : World) (args' : Array Value), ARel m args args' → HRel P B K w0 m F G w → ∃ v', VRel m v v' ∧
      ∀ w', Below w.heap.size w w' → ((callFunc f args').run P w' = .ok (.enter f args') w' ∧ Calls P f args' w' fun e w'' => e = .returned v' ∧ Below w.heap.size w w'') ∨ (callFunc f args').run P w' = .ok (.value v') w' := by
  obtain ⟨v, G', h1, h2, h3⟩ := hO _ _ _ _ _ h hn
  replace h1 := castT_out h1
  split at h1
  · rename_i hf
    refine ⟨v, h1, fun B K w0 m w args' hA hR => ?_⟩
    have at_ : ∀ w', Below w.heap.size w w' → CallSim P f args' w' fun v' w'' => (∃ m', VRel m' v v') ∧ Below w.heap.size w w'' ∧ ∃ m', m.noF.le m' ∧ VRel m' v v' := by
      intro w' hw'
      refine (h3 _ _ w' m.noF w' args' (fun _ => rfl) (hA.noF hn) (hR.grow hw').freeze).mono ?_
      rintro v' w'' ⟨m', q1, q2, q3, q4⟩
      refine ⟨⟨m', q4⟩, hw'.trans ⟨q3.os, q3.tape, q3.output, q3.size, fun b hb => (q3.frame b (Nat.lt_of_lt_of_le hb hw'.size)).2⟩, m', q1, q4⟩
    have ex : ∃ v' m', VRel m' v v' := by
      rcases at_ w (Below.refl _ _) with ⟨_, hc⟩ | ⟨v', _, ⟨m', hv⟩, _⟩
      · obtain ⟨e, w', fr, ⟨v', _, ⟨m', hv⟩, _⟩, _⟩ := hc []
        exact ⟨v', m', hv⟩
      · exact ⟨v', m', hv⟩
    obtain ⟨v', m', hv'⟩ := ex
    refine ⟨v', flat_any hv' hf, fun w' hw' => ?_⟩
    rcases at_ w' hw' with ⟨p1, p2⟩ | ⟨v2, p1, ⟨m2, hv2⟩, _⟩
    · refine .inl ⟨p1, p2.mono ?_⟩
      rintro e w'' ⟨v2, he, ⟨m2, hv2⟩, hb, _⟩
      refine ⟨?_, hb⟩
      rw [he, flat_eq hv2 hf hv']
    · exact .inr (by rw [p1, flat_eq hv2 hf hv'])
  · cases h1
where
  flat_any : ∀ {m1 m2 : Map} {v : IV} {x : Value}, VRel m1 v x → isFlat v = true → VRel m2 v x := by
    intro m1 m2 v x h
    induction h with
    | bool => intro _; exact .bool _
    | int => intro _; exact .int _ _
    | float => intro _; exact .float _ _
    | str => intro _; exact .str _
    | ptrNil => intro _; exact .ptrNil
    | ptr a e h => intro hf; simp [isFlat] at hf
    | loc k o b h => intro hf; simp [isFlat] at hf
    | sliceNil => intro _; exact .sliceNil
    | slice => intro hf; simp [isFlat] at hf
    | sliceE => intro hf; simp [isFlat] at hf
    | func f cs cs' hs _ ih => intro hf; exact .func f cs cs' hs fun i iv v a b => ih i iv v a b (flat_eq0.flats_get (by simpa [isFlat] using hf) a)
    | nilFunc => intro _; exact .nilFunc
    | nilIface => intro _; exact .nilIface
    | iface t iv v _ ih => intro hf; exact .iface t iv v (ih (by simpa [isFlat] using hf))
    | agg cs cs' hs _ ih => intro hf; exact .agg cs cs' hs fun i iv v a b => ih i iv v a b (flat_eq0.flats_get (by simpa [isFlat] using hf) a)
    | tuple cs cs' hs _ ih => intro hf; exact .tuple cs cs' hs fun i iv v a b => ih i iv v a b (flat_eq0.flats_get (by simpa [isFlat] using hf) a)
    | fo k o b h hn => intro hf; simp [isFlat] at hf

end
end Go.LI
