/- A region whose order is drawn, and whose operations stand apart. -/
import Derived.Test.YtckelpgijjbpaaaLiYd
set_option linter.unusedVariables false
namespace Go.LI
open Go Go.RowKit

theorem foldl_bits {acc : List Nat} {i : Nat} : ∀ {es : List Edge} {m : Nat}, (es.foldl (fun m e => if Region.binds .any e then m ||| (1 <<< e.on) ||| acc.getD e.on 0 else m) m).testBit i = true →
    m.testBit i = true ∨ ∃ e ∈ es, Region.binds .any e = true ∧ (e.on = i ∨ (acc.getD e.on 0).testBit i = true)
  | [], m, h => .inl h
  | e :: es, m, h => by
    simp only [List.foldl_cons] at h
    rcases foldl_bits h with h | ⟨x, hx, h⟩
    · split at h
      · rename_i hb
        simp only [Nat.testBit_or, Bool.or_eq_true] at h
        rcases h with (h | h) | h
        · exact .inl h
        · refine .inr ⟨e, by simp, hb, .inl ?_⟩
          rw [Nat.one_shiftLeft, Nat.testBit_two_pow] at h
          simpa using h
        · exact .inr ⟨e, by simp, hb, .inr h⟩
      · exact .inl h
    · exact .inr ⟨x, by simp [hx], h⟩

theorem ancs_prefix : ∀ (os : List Oper) (acc : List Nat) (j : Nat), j < acc.length → (ancs os acc)[j]? = acc[j]?
  | [], acc, j, h => rfl
  | o :: os, acc, j, h => by
    simp only [ancs]
    rw [ancs_prefix os _ j (by simp; omega), List.getElem?_append_left h]

theorem bit_lt {acc : List Nat} {j i : Nat} (h : (acc.getD j 0).testBit i = true) : j < acc.length := by
  rcases Nat.lt_or_ge j acc.length with h1 | h1
  · exact h1
  · simp [List.getD, List.getElem?_eq_none h1] at h

theorem ancs_spec : ∀ (os : List Oper) (acc : List Nat) (j i : Nat), ((ancs os acc).getD j 0).testBit i = true →
    j < acc.length ∨ (acc.length ≤ j ∧ ∃ o, os[j - acc.length]? = some o ∧ ∃ e ∈ o.after.toList, Region.binds .any e = true ∧ (e.on = i ∨ ((ancs os acc).getD e.on 0).testBit i = true))
  | [], acc, j, i, h => .inl (bit_lt h)
  | o :: os, acc, j, i, h => by
    simp only [ancs] at h ⊢
    rcases Nat.lt_trichotomy j acc.length with hj | hj | hj
    · exact .inl hj
    · refine .inr ⟨by omega, o, by simp [hj], ?_⟩
      have hp := ancs_prefix os (acc ++ [ancM o acc]) j (by simp; omega)
      rw [List.getD, hp, hj] at h
      simp only [List.getElem?_concat_length, Option.getD_some, ancM] at h
      rcases foldl_bits h with h | ⟨e, he, hb, h⟩
      · simp at h
      · refine ⟨e, he, hb, h.imp id fun h => ?_⟩
        have hlt := bit_lt h
        rw [List.getD, ancs_prefix os _ e.on (by simp; omega), List.getElem?_append_left hlt]
        exact h
    · rcases ancs_spec os (acc ++ [ancM o acc]) j i h with h1 | ⟨h1, o', h2, h3⟩
      · simp at h1; omega
      · refine .inr ⟨by omega, o', ?_, h3⟩
        rw [List.length_append, List.length_singleton] at h2
        rw [show j - acc.length = (j - (acc.length + 1)) + 1 by omega, List.getElem?_cons_succ]
        exact h2

theorem anc_edge {ops : Array Oper} {i j : Nat} (h : ((ancs ops.toList []).getD j 0).testBit i = true) :
    ∃ o, ops[j]? = some o ∧ ∃ e ∈ o.after, Region.binds .any e = true ∧ (e.on = i ∨ ((ancs ops.toList []).getD e.on 0).testBit i = true) := by
  rcases ancs_spec ops.toList [] j i h with h | ⟨_, o, h1, e, h2, h3⟩
  · simp at h
  · exact ⟨o, by simpa using h1, e, by simpa using h2, h3⟩

structure DrawD (P : Program) (lo : List Nat) (ops : Array Oper) (E : List IV) : Prop where
  self : ∀ (j : Nat) (y : Oper), ops[j]? = some y → selfOk ops y = true
  edge : ∀ (j : Nat) (y : Oper), ops[j]? = some y → ∀ e ∈ y.after, Region.binds .any e = true → e.on < j
  late : ∀ (i j : Nat) (x y : Oper), ops[i]? = some x → ops[j]? = some y → i < j → lateOk ops x y = true
  pair : ∀ (i j : Nat) (x y : Oper), ops[i]? = some x → ops[j]? = some y → i < j → ((ancs ops.toList []).getD j 0).testBit i = false → x.apart ops y = true ∧ pairOk P lo false ops E x y = true

theorem drawD_spec {P : Program} {lo : List Nat} {ops : Array Oper} {E : List IV} (h : drawD P lo ops E = true) : DrawD P lo ops E := by
  unfold drawD at h
  have H : ∀ (j : Nat) (y : Oper), ops[j]? = some y → (selfOk ops y = true ∧ y.after.toList.all (fun e => !Region.binds .any e || decide (e.on < j)) = true) ∧ (List.range j).all (fun i => match ops[i]? with
        | none => true
        | some x => lateOk ops x y && (((ancs ops.toList []).getD j 0).testBit i || (x.apart ops y && pairOk P lo false ops E x y))) = true := fun j y hy => by
    have := List.all_eq_true.1 h j (List.mem_range.2 (Array.getElem?_eq_some_iff.1 hy).1)
    simp only [hy, Bool.and_eq_true] at this
    exact this
  have H2 : ∀ (i j : Nat) (x y : Oper), ops[i]? = some x → ops[j]? = some y → i < j → lateOk ops x y = true ∧ (((ancs ops.toList []).getD j 0).testBit i = true ∨ (x.apart ops y = true ∧ pairOk P lo false ops E x y = true)) := fun i j x y hx hy hij => by
    have := List.all_eq_true.1 (H j y hy).2 i (List.mem_range.2 hij)
    simp only [hx, Bool.and_eq_true, Bool.or_eq_true] at this
    exact this
  refine ⟨fun j y hy => (H j y hy).1.1, fun j y hy e he hb => ?_, fun i j x y hx hy hij => (H2 i j x y hx hy hij).1, fun i j x y hx hy hij hn => ?_⟩
  · have := List.all_eq_true.1 (H j y hy).1.2 e (by simpa using he)
    simpa [hb] using this
  · rcases (H2 i j x y hx hy hij).2 with h | h
    · rw [hn] at h; cases h
    · exact h

section
variable {R : Type} {P : Program} {O : Ora R} {lo : List Nat} {ops : Array Oper} {E : List IV} {F' : List (List IV)} {G' : GH} {B K : Nat → Prop} {w0 : World}

theorem opsTo_nil (r : R) {env : List IV} {F : List (List IV)} {G : GH} (h : OpsTo P O lo false ops [] env F G E F' G') : env = E ∧ F = F' ∧ G = G' := by
  classical
  have h' : ∀ k : List IV → List (List IV) → GH → Option R, k env F G = k E F' G' := h
  by_cases h1 : env = E ∧ F = F' ∧ G = G'
  · exact h1
  · have := h' fun e f g => if e = E ∧ f = F' ∧ g = G' then some r else none
    simp only [and_self, if_true] at this
    rw [if_neg h1] at this
    cases this

theorem wantI_wanted {o : Oper} {env : List IV} {b : Bool} {m : Map} {a : Act} (h : wantI ops o env = some b) (hE : ERel m env a.tmps) : Region.wanted o (yielded ops a.tmps) = b := by
  unfold wantI at h
  split at h
  · rename_i hg
    injection h with h
    simp [Region.wanted, hg, h]
  · rename_i j want hg
    split at h
    · cases h
    · rename_i d hd
      split at h
      · rename_i c hb
        injection h with h
        simp [Region.wanted, hg, yield_bool hd hb hE, ← h]
      · rename_i hb
        injection h with h
        simp [Region.wanted, hg, yield_undef hd hb hE, ← h]
      · cases h

structure Rest (ops : Array Oper) (listed : Array Bool) (rem : List (Nat × Oper)) : Prop where
  at_ : ∀ p ∈ rem, ops[p.1]? = some p.2
  sorted : rem.Pairwise (fun p q => p.1 < q.1)
  all : ∀ i o, ops[i]? = some o → listed.getD i true = false → (i, o) ∈ rem
  un : ∀ p ∈ rem, listed.getD p.1 true = false
  size : listed.size = ops.size
  down : ∀ i, listed.getD i false = true → ∀ j, ((ancs ops.toList []).getD i 0).testBit j = true → listed.getD j false = true

theorem getD_un {listed : Array Bool} {i : Nat} (h : i < listed.size) (hf : listed.getD i false = false) : listed.getD i true = false := by
  simp [h] at hf ⊢; exact hf

theorem draw_any (hO : GoodO P O) (hN : NatO O) (r : R) (hD : DrawD P lo ops E) {Q : Exit → Act → World → Prop} : ∀ (n : Nat) (rem : List (Nat × Oper)) (listed : Array Bool) (a : Act) (w : World) (env : List IV) (F : List (List IV)) (G : GH) (m : Map),
    rem.length = n → Rest ops listed rem → OpsTo P O lo false ops (rem.map (·.2)) env F G E F' G' → HRel P B K w0 m F G w → ERel m env a.tmps → After P B K w0 m E F' G' a (Q .normal) →
    wpAny P .any ops Q n listed a w
  | 0, rem, listed, a, w, env, F, G, m, hn, hr, H, hR, hE, hQ => by
    have : rem = [] := List.length_eq_zero_iff.1 hn
    subst this
    obtain ⟨rfl, rfl, rfl⟩ := opsTo_nil r H
    refine ⟨List.eq_nil_iff_forall_not_mem.2 fun i hi => ?_, hQ m w a m.le_refl hR hE rfl⟩
    obtain ⟨h1, o, h2, _⟩ := mem_ready.1 hi
    have := hr.all i o h2 h1
    cases this
  | n + 1, rem, listed, a, w, env, F, G, m, hn, hr, H, hR, hE, hQ => by
    refine ⟨fun h0 => ?_, fun i hi => ?_⟩
    · exfalso
      cases rem with
      | nil => simp at hn
      | cons p rem =>
        have hp := hr.at_ p (by simp)
        have hin : p.1 ∈ Region.ready .any ops listed := mem_ready.2 ⟨hr.un p (by simp), p.2, hp, fun e he hb => by
          have hlt := hD.edge _ _ hp e he hb
          have hpz := (Array.getElem?_eq_some_iff.1 hp).1
          cases hl : listed.getD e.on false with
          | true => rfl
          | false =>
            have h1 := hr.all e.on ops[e.on] (Array.getElem?_eq_getElem (by omega)) (getD_un (by rw [hr.size]; omega) hl)
            rcases List.mem_cons.1 h1 with h1 | h1
            · rw [← h1] at hlt; simp at hlt
            · have := (List.pairwise_cons.1 hr.sorted).1 _ h1
              simp at this; omega⟩
        rw [h0] at hin
        cases hin
    · obtain ⟨hun, o, hio, hedges⟩ := mem_ready.1 hi
      obtain ⟨pre, post, hsplit⟩ := List.append_of_mem (hr.all i o hio hun)
      have hsort := hr.sorted
      rw [hsplit] at hsort
      have hanc : ∀ j, ((ancs ops.toList []).getD i 0).testBit j = true → listed.getD j false = true := fun j hb => by
        obtain ⟨o', h1, e, he, hbd, h2⟩ := anc_edge hb
        rw [hio] at h1
        injection h1 with h1
        subst h1
        rcases h2 with h2 | h2
        · rw [← h2]; exact hedges e he hbd
        · exact hr.down e.on (hedges e he hbd) j h2
      -- it comes to the front
      have H' : OpsTo P O lo false ops (o :: (pre ++ post).map (·.2)) env F G E F' G' := by
        rw [hsplit, List.map_append, List.map_cons] at H
        rw [List.map_append]
        refine front_ops hN r H (fun x hx => ?_) ?_ (fun x hx => ?_)
        · obtain ⟨p, hp, rfl⟩ := List.mem_map.1 hx
          have hpr : p ∈ rem := by rw [hsplit]; exact List.mem_append.2 (.inl hp)
          have hlt : p.1 < i := (List.pairwise_append.1 hsort).2.2 p hp (i, o) (by simp)
          refine hD.pair p.1 i p.2 o (hr.at_ p hpr) hio hlt ?_
          cases hb : ((ancs ops.toList []).getD i 0).testBit p.1 with
          | false => rfl
          | true =>
            have h1 := hanc _ hb
            have h2 := getD_both (hr.un p hpr)
            rw [h1] at h2
            cases h2
        · rw [show pre.map (·.2) ++ o :: post.map (·.2) = (pre ++ (i, o) :: post).map (·.2) by simp, List.pairwise_map, ← hsplit]
          exact hr.sorted.imp_of_mem fun {p q} hp hq h => hD.late _ _ _ _ (hr.at_ p hp) (hr.at_ q hq) h
        · rw [show pre.map (·.2) ++ o :: post.map (·.2) = (pre ++ (i, o) :: post).map (·.2) by simp, ← hsplit] at hx
          obtain ⟨p, hp, rfl⟩ := List.mem_map.1 hx
          exact hD.self _ _ (hr.at_ p hp)
      have hi_size : i < listed.size := by rw [hr.size]; exact (Array.getElem?_eq_some_iff.1 hio).1
      have hmem : ∀ p ∈ pre ++ post, p ∈ rem ∧ p.1 ≠ i := fun p hp => by
        rw [hsplit]
        rcases List.mem_append.1 hp with h | h
        · exact ⟨List.mem_append.2 (.inl h), fun e => by
            have : p.1 < i := (List.pairwise_append.1 hsort).2.2 p h (i, o) (by simp)
            omega⟩
        · exact ⟨List.mem_append.2 (.inr (List.mem_cons.2 (.inr h))), fun e => by
            have : i < p.1 := (List.pairwise_cons.1 (List.pairwise_append.1 hsort).2.1).1 p h
            omega⟩
      have hr' : Rest ops (listed.setIfInBounds i true) (pre ++ post) := by
        refine ⟨fun p hp => hr.at_ p (hmem p hp).1, ?_, fun j oj hj hu => ?_, fun p hp => ?_, by simp [hr.size], fun j hj k hk => ?_⟩
        · refine hsort.sublist ?_
          exact List.Sublist.append_left (List.sublist_cons_self _ _) pre
        · by_cases hji : i = j
          · subst hji; simp [hi_size] at hu
          · rw [getD_set_ne true hji] at hu
            have := hr.all j oj hj hu
            rw [hsplit] at this
            rcases List.mem_append.1 this with h | h
            · exact List.mem_append.2 (.inl h)
            · rcases List.mem_cons.1 h with h | h
              · injection h with h; exact absurd h.symm hji
              · exact List.mem_append.2 (.inr h)
        · rw [getD_set_ne true (Ne.symm (hmem p hp).2)]
          exact hr.un p (hmem p hp).1
        · refine getD_set_true ?_
          by_cases hji : i = j
          · subst hji; exact hanc k hk
          · rw [getD_set_ne false hji] at hj
            exact hr.down j hj k hk
      have hlen : (pre ++ post).length = n := by
        rw [hsplit] at hn; simp at hn ⊢; omega
      unfold wpOp
      rw [hio]
      simp only
      have h0 := H' fun _ _ _ => some r
      rw [opsC_cons] at h0
      cases hw : wantI ops o env with
      | none => rw [hw] at h0; cases h0
      | some b =>
        have hwant := wantI_wanted hw hE
        rw [hw] at h0
        cases b
        · rw [hwant]
          simp only [Bool.false_eq_true, if_false]
          have hs : StepTo P O lo false ops o env F G undefI F G := step_pass hw F G
          exact draw_any hO hN r hD n (pre ++ post) _ _ w _ F G m hlen hr' (fun k => by rw [← hs.eq]; exact H' k) hR (hE.put (VRel.undef m) o.dst) fun m2 w2 a2 l q e d => hQ m2 w2 a2 l q e (d.trans (put_defers a _ _))
        · rw [hwant]
          simp only [if_true]
          simp only at h0
          obtain ⟨v, F1, G1, h1⟩ := op_nat hN h0
          have hs : StepTo P O lo false ops o env F G v F1 G1 := step_run hw h1
          classical
          have h2 : opC P O lo false o env F G (fun v' f g => if v' = v ∧ f = F1 ∧ g = G1 then some r else none) = some r := by rw [h1]; simp
          obtain ⟨v', F1', G1', h3, h4⟩ := op_sim hO h2
          split at h3
          · rename_i he
            obtain ⟨rfl, rfl, rfl⟩ := he
            refine .inl (h4 B K w0 m w a hR hE _ Q fun u w' ⟨m', q1, q2, q3⟩ => ?_)
            exact draw_any hO hN r hD n (pre ++ post) _ _ w' _ F1' G1' m' hlen hr' (fun k => by rw [← hs.eq]; exact H' k) q2 ((hE.mono q1).put q3 o.dst) fun m2 w2 a2 l q e d =>
              hQ m2 w2 a2 (Map.le_trans q1 l) q e (d.trans (put_defers a _ _))
          · cases h3

theorem rest_start : Rest ops (Array.replicate ops.size false) ((List.range ops.size).filterMap fun i => (ops[i]?).map fun o => (i, o)) where
  at_ := fun p hp => by
    obtain ⟨i, _, h⟩ := List.mem_filterMap.1 hp
    obtain ⟨o, h1, h2⟩ := Option.map_eq_some_iff.1 h
    subst h2
    exact h1
  sorted := by
    rw [List.pairwise_filterMap]
    refine (List.pairwise_lt_range (n := ops.size)).imp fun {i j} hij p hp q hq => ?_
    obtain ⟨o, h1, h2⟩ := Option.map_eq_some_iff.1 hp
    obtain ⟨o', h3, h4⟩ := Option.map_eq_some_iff.1 hq
    subst h2; subst h4
    exact hij
  all := fun i o ho hu => List.mem_filterMap.2 ⟨i, List.mem_range.2 (Array.getElem?_eq_some_iff.1 ho).1, by simp [ho]⟩
  un := fun p hp => by
    obtain ⟨i, hi, h⟩ := List.mem_filterMap.1 hp
    obtain ⟨o, h1, h2⟩ := Option.map_eq_some_iff.1 h
    subst h2
    have := List.mem_range.1 hi
    simp [this]
  size := by simp
  down := fun i hi => by rw [getD_replicate_false] at hi; cases hi

theorem start_map : ((List.range ops.size).filterMap fun i => (ops[i]?).map fun o => (i, o)).map (·.2) = ops.toList := by
  have key : ∀ (l : List Oper) (n : Nat), ((List.range' n l.length).filterMap fun i => (l[i - n]?).map fun o => (i, o)).map (·.2) = l := by
    intro l
    induction l with
    | nil => intro n; rfl
    | cons o l ih =>
      intro n
      rw [List.length_cons, List.range'_succ, List.filterMap_cons]
      simp only [Nat.sub_self, List.getElem?_cons_zero, Option.map_some, List.map_cons]
      refine congrArg _ (Eq.trans (congrArg _ ?_) (ih (n + 1)))
      have cg : ∀ (is : List Nat), (∀ i ∈ is, n < i) → (is.filterMap fun i => ((o :: l)[i - n]?).map fun o => (i, o)) = is.filterMap fun i => (l[i - (n + 1)]?).map fun o => (i, o) := by
        intro is
        induction is with
        | nil => intro _; rfl
        | cons i is ih =>
          intro h
          have : n < i := h i (by simp)
          rw [List.filterMap_cons, List.filterMap_cons, ih fun j hj => h j (by simp [hj]), show i - n = (i - (n + 1)) + 1 by omega, List.getElem?_cons_succ]
      exact cg _ fun i hi => by have := List.mem_range'_1.1 hi; omega
  have := key ops.toList 0
  rw [← List.range_eq_range'] at this
  simpa using this

theorem draw_region (hm : P.follows .mixedOrders = true) (hO : GoodO P O) (hN : NatO O) {id : Nat} {env : List IV} {F : List (List IV)} {G : GH} {k : List IV → List (List IV) → GH → Option R} {r : R}
    (h : opsC P O lo false ops ops.toList env F G (fun env F G => if drawD P lo ops env = true then k env F G else none) = some r) :
    ∃ env' F' G', k env' F' G' = some r ∧ ∀ (B K : Nat → Prop) (w0 : World) (m : Map) (w : World) (a : Act) (Q : Exit → Act → World → Prop), HRel P B K w0 m F G w → ERel m env a.tmps →
      After P B K w0 m env' F' G' a (Q .normal) → (Code.region id ops true).wp P Q a w := by
  obtain ⟨E, F', G', h1⟩ := ops_nat hN h
  rw [h1] at h
  split at h
  · rename_i hD
    refine ⟨E, F', G', h, fun B K w0 m w a Q hR hE hQ => wp_region_any hm ?_⟩
    refine draw_any hO hN r (drawD_spec hD) ops.size _ _ a _ env F G m ?_ rest_start (by rw [start_map]; exact h1) (hR.grow (below_drawn w _)) hE hQ
    have := congrArg List.length (start_map (ops := ops))
    simpa using this
  · cases h
end
end Go.LI
