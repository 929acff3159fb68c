/- A region whose order is drawn, in which one operation writes a local variable and the others read alone. -/
import Derived.Test.YtckelpgijjbpaaaLiM
set_option linter.unusedVariables false
namespace Go.LI
open Go Go.RowKit

section
variable {P : Program} {ops : Array Oper} {md : Region.Mode} {D : Bool → World} {s : Nat}

/-- In this world the operation comes to this value, and leaves that world. -/
def RunsTo (P : Program) (o : Oper) (a : Act) (w : World) (v : Value) (w' : World) : Prop :=
  (execOp a.eval o).run P w = .ok (.value v) w' ∨ ((execOp a.eval o).run P w = .ok .skip w' ∧ v = Go.undef)

/-- Whether or not the one that writes (number s) has come up. -/
def YO (P : Program) (D : Bool → World) (s : Nat) (i : Nat) (o : Oper) (v : Value) (a : Act) : Prop :=
  ∀ d, (i = s → d = false) → RunsTo P o a (D d) v (D (d || decide (i = s)))

def qO (P : Program) (ops : Array Oper) (D : Bool → World) (s : Nat) (i : Nat) (K : Act → Prop) (a : Act) : Prop := ∃ o v, ops[i]? = some o ∧ YO P D s i o v a ∧ K (a.put o.dst v)

def wpAnyO (P : Program) (md : Region.Mode) (ops : Array Oper) (D : Bool → World) (s : Nat) (L : Act → Prop) : Nat → Array Bool → Act → Prop
  | 0, listed, a => Region.ready md ops listed = [] ∧ listed.getD s false = true ∧ L a
  | f + 1, listed, a => Region.ready md ops listed ≠ [] ∧ ∀ i ∈ Region.ready md ops listed, qO P ops D s i (wpAnyO P md ops D s L f (listed.setIfInBounds i true)) a

theorem qO_mono {i : Nat} {K K' : Act → Prop} {a : Act} (h : ∀ a, K a → K' a) (hh : qO P ops D s i K a) : qO P ops D s i K' a := by
  obtain ⟨o, v, h1, h2, h3⟩ := hh
  exact ⟨o, v, h1, h2, h _ h3⟩

theorem getD_set_self {listed : Array Bool} {i : Nat} (h : i < listed.size) : (listed.setIfInBounds i true).getD i false = true := by
  simp [h]

theorem wpAny_of_O {L : Act → Prop} {Q' : Exit → Act → World → Prop} (hg : ∀ (i : Nat) (o : Oper), ops[i]? = some o → o.guard = none) (hQ : ∀ a, L a → Q' .normal a (D true)) :
    ∀ (f : Nat) (listed : Array Bool) (a : Act), wpAnyO P md ops D s L f listed a → wpAny P md ops Q' f listed a (D (listed.getD s false))
  | 0, listed, a, h => ⟨h.1, by rw [h.2.1]; exact hQ a h.2.2⟩
  | f + 1, listed, a, h => by
    refine ⟨fun h0 => absurd h0 h.1, fun i hi => ?_⟩
    obtain ⟨o, v, h1, h2, h3⟩ := h.2 i hi
    have hun := (mem_ready.1 hi).1
    have hd : i = s → listed.getD s false = false := fun h => by subst h; exact getD_both hun
    have hw : (listed.getD s false || decide (i = s)) = (listed.setIfInBounds i true).getD s false := by
      by_cases his : i = s
      · subst his
        have hlt : i < listed.size := by
          rcases Nat.lt_or_ge i listed.size with h | h
          · exact h
          · simp [Array.getElem?_eq_none h] at hun
        rw [getD_set_self hlt]
        simp
      · rw [getD_set_ne false his]
        simp [his]
    have ih := wpAny_of_O hg hQ f _ _ h3
    rw [← hw] at ih
    unfold wpOp
    rw [h1]
    have hwant : Region.wanted o (yielded ops a.tmps) = true := by simp [Region.wanted, hg i o h1]
    simp only [hwant, if_true]
    refine .inl ?_
    unfold Oper.wp
    rcases h2 _ hd with h4 | ⟨h4, rfl⟩
    · rw [h4, Oper.upon_value]; exact ih
    · rw [h4, Oper.upon_skip]; exact ih

theorem qO_put {i j : Nat} {oi oj : Oper} {v : Value} (hj : ops[j]? = some oj) (hap : oi.apart ops oj = true)
    (hsi : ∀ cs b, oi.op ≠ .select cs b) (hsj : ∀ cs b, oj.op ≠ .select cs b) {K : Act → Prop} {a : Act} (hy : YO P D s i oi v a) (h : qO P ops D s j K (a.put oi.dst v)) :
    qO P ops D s j (fun a' => YO P D s i oi v a' ∧ K (a'.put oi.dst v)) a := by
  obtain ⟨h1, h2, h3⟩ := Oper.apart_spec hap
  obtain ⟨o, u, q1, q2, q3⟩ := h
  rw [hj] at q1
  injection q1 with q1
  subst q1
  refine ⟨oj, u, hj, fun d hd => ?_, fun d hd => ?_, by rw [← Act.put_comm a v u h2]; exact q3⟩
  · have := q2 d hd
    unfold RunsTo at *
    rwa [execOp_put oj hsj a oi.dst v h1] at this
  · have := hy d hd
    unfold RunsTo at *
    rwa [execOp_put oi hsi a oj.dst u h3]

theorem wpAnyO_first {L : Act → Prop} {i : Nat} {oi : Oper} {v : Value} (hi : ops[i]? = some oi) (hsel : ∀ (j : Nat) (o : Oper) cs b, ops[j]? = some o → o.op ≠ .select cs b) :
    ∀ (fuel : Nat) (listed : Array Bool) (a : Act),
      (∀ j oj, ops[j]? = some oj → j ≠ i → listed.getD j true = false → (∀ e ∈ oj.after, Region.binds md e = true → e.on ≠ i) → oi.apart ops oj = true) →
      i ∈ Region.ready md ops listed → YO P D s i oi v a →
      wpAnyO P md ops D s L fuel (listed.setIfInBounds i true) (a.put oi.dst v) → wpAnyO P md ops D s L (fuel + 1) listed a := by
  intro fuel
  induction fuel with
  | zero =>
    intro listed a _ hr hy H
    refine ⟨fun h => (by rw [h] at hr; cases hr), fun j hj => ?_⟩
    by_cases hji : j = i
    · subst hji; exact ⟨oi, v, hi, hy, H⟩
    · have := ready_mono hj hji
      rw [H.1] at this
      cases this
  | succ fuel ih =>
    intro listed a hfree hr hy H
    have hun := (mem_ready.1 hr).1
    refine ⟨fun h => (by rw [h] at hr; cases hr), fun j hj => ?_⟩
    by_cases hji : j = i
    · subst hji; exact ⟨oi, v, hi, hy, H⟩
    · have h1 := H.2 j (ready_mono hj hji)
      obtain ⟨hjun, oj, hoj, hall⟩ := mem_ready.1 hj
      have hnot : ∀ e ∈ oj.after, Region.binds md e = true → e.on ≠ i := fun e he hb heq => by
        have h1 := hall e he hb
        rw [heq, getD_both hun] at h1
        cases h1
      have h2 := qO_put hoj (hfree j oj hoj hji hjun hnot) (fun cs b => hsel i oi cs b hi) (fun cs b => hsel j oj cs b hoj) hy h1
      have hfree' : ∀ k ok, ops[k]? = some ok → k ≠ i → (listed.setIfInBounds j true).getD k true = false → (∀ e ∈ ok.after, Region.binds md e = true → e.on ≠ i) → oi.apart ops ok = true := fun k ok hk hki hun hno => by
        refine hfree k ok hk hki ?_ hno
        by_cases hjk : j = k
        · subst hjk; exact hjun
        · rw [getD_set_ne true hjk] at hun; exact hun
      refine qO_mono (fun a' h3 => ih (listed.setIfInBounds j true) a' hfree' (ready_mono hr (Ne.symm hji)) h3.1 ?_) h2
      rw [Array.setIfInBounds_comm _ _ hji]
      exact h3.2

/-- The lexical walk. -/
def lexO (P : Program) (D : Bool → World) (s : Nat) (L : Act → Prop) : List Oper → Nat → Act → Prop
  | [], _, a => L a
  | o :: l, k, a => ∃ v, YO P D s k o v a ∧ lexO P D s L l (k + 1) (a.put o.dst v)

theorem lexO_append {L : Act → Prop} : ∀ (l1 l2 : List Oper) (k : Nat) (a : Act), lexO P D s (fun a' => lexO P D s L l2 (k + l1.length) a') l1 k a → lexO P D s L (l1 ++ l2) k a
  | [], l2, k, a, h => h
  | o :: l1, l2, k, a, h => by
    obtain ⟨v, h1, h2⟩ := h
    refine ⟨v, h1, lexO_append l1 l2 (k + 1) _ ?_⟩
    rw [show k + 1 + l1.length = k + (o :: l1).length by simp; omega]
    exact h2

theorem wpAnyO_lex {L : Act → Prop} (hs : Region.noSelect ops = true) : ∀ (l : List Oper) (k : Nat) (listed : Array Bool) (a : Act), (∀ j, l[j]? = ops[k + j]?) → listed.size = ops.size → (s < k → listed.getD s false = true) → s < k + l.length →
    Region.lexFrom md ops l.length k listed = true → lexO P D s L l k a → wpAnyO P md ops D s L l.length listed a
  | [], k, listed, a, hl, hz, hk, hlt, hB, h => ⟨by simpa [Region.lexFrom] using hB, hk (by simpa using hlt), h⟩
  | o :: l, k, listed, a, hl, hz, hk, hlt, hB, h => by
    have h0 : ops[k]? = some o := by simpa using (hl 0).symm
    simp only [List.length_cons, Region.lexFrom, Bool.and_eq_true] at hB
    obtain ⟨⟨hr, hf⟩, hB'⟩ := hB
    obtain ⟨v, hy, hK⟩ := h
    have hkz : k < listed.size := by rw [hz]; exact (Array.getElem?_eq_some_iff.1 h0).1
    refine wpAnyO_first h0 (Region.noSelect_spec hs) l.length listed a (Region.free_spec h0 hf) (by simpa using hr) hy
      (wpAnyO_lex hs l (k + 1) _ _ (fun j => by have := hl (j + 1); simpa [Nat.add_assoc, Nat.add_comm 1 j] using this) (by simpa using hz) (fun hsk => ?_) (by simp at hlt; omega) hB' hK)
    by_cases hks : k = s
    · subst hks; exact getD_set_self hkz
    · rw [getD_set_ne false hks]; exact hk (by omega)

theorem wp_region_store {id : Nat} {Q : Exit → Act → World → Prop} {a : Act} {w : World} (hm : P.follows .mixedOrders = true) (hB : Region.lexB .any ops = true) (hg : ∀ (i : Nat) (o : Oper), ops[i]? = some o → o.guard = none)
    (hs : s < ops.size) (hD : D false = { w with drawn := w.drawn + 1 }) (h : lexO P D s (fun a' => Q .normal a' (D true)) ops.toList 0 a) : (Code.region id ops true).wp P Q a w := by
  simp only [Region.lexB, Bool.and_eq_true] at hB
  have H := wpAnyO_lex (md := .any) hB.1 ops.toList 0 (Array.replicate ops.size false) a (by simp) (by simp) (by omega) (by simpa using hs) (by simpa using hB.2) h
  refine wp_region_any hm ?_
  have := wpAny_of_O (Q' := Q) hg (fun a h => h) _ _ _ H
  rw [getD_replicate_false, hD] at this
  simpa using this
end

section
variable {R : Type} {P : Program} {B K : Nat → Prop} {w0 : World} {m : Map} {F : List (List IV)} {G : GH} {w : World} {O : Ora R} {lo : List Nat} {o : Oper} {env : List IV} {a : Act} {r : R}

/-- Two worlds that are one but for a row. -/
structure ButRow (w w' : World) (b : Nat) : Prop where
  os : w'.os = w.os
  tape : w'.tape = w.tape
  output : w'.output = w.output
  other : ∀ i, i ≠ b → w'.heap[i]? = w.heap[i]?

/-- An operation without a guard that neither makes nor writes memory, nor calls: it comes to one value in both worlds. -/
theorem lone_sim {k : IV → List (List IV) → GH → Option R} (hl : loneOp o.op = true) (h : opC P O lo true o env F G k = some r) :
    ∃ v, k v F G = some r ∧ ∀ (m : Map) (w : World) (a : Act), MemOk P m F G w → ERel m env a.tmps →
      ∃ v', VRel m v v' ∧ ∀ w' : World, Vis m F G w w' → w'.os = w.os → w'.tape = w.tape → w'.output = w.output → RunsTo P o a w' v' w' := by
  have hc : isCall o.op = false := by cases ho : o.op <;> rw [ho] at hl <;> first | rfl | (simp [loneOp] at hl)
  have hq : quietOp o.op = true := by cases ho : o.op <;> rw [ho] at hl <;> first | rfl | (simp [loneOp] at hl)
  have hcm : convMakes P o.op = false := by cases ho : o.op <;> rw [ho] at hl <;> first | rfl | (simp [loneOp] at hl)
  rw [opC_qparam (O' := fun _ _ _ _ => none) env F G k hc hq hcm] at h
  cases hx : opC P (fun _ _ _ _ => none) lo true o env F G (fun v _ _ => some v) with
  | none => rw [hx] at h; cases h
  | some v =>
    rw [hx] at h
    refine ⟨v, h, fun m w a hM hE => ?_⟩
    -- what does not look at memory: over an empty one
    have still : QuietOk P m o a { w with heap := #[] } F G (fun v _ _ => some v) v → ∃ v', VRel m v v' ∧ ∀ w' : World, Vis m F G w w' → w'.os = w.os → w'.tape = w.tape → w'.output = w.output → RunsTo P o a w' v' w' := by
      rintro ⟨v1, v', q1, q2, q3⟩
      injection q3 with q3
      subst q3
      exact ⟨v', q2, fun w' _ h1 h2 h3 => .inl (q1 w' ⟨h1, h2, h3, Nat.zero_le _, fun k hk => absurd hk (Nat.not_lt_zero k)⟩)⟩
    cases ho : o.op with
    | move x => exact still (q_move (.inl ho) hx hE)
    | assign x => exact still (q_move (.inr ho) hx hE)
    | pick c x y => exact still (q_pick ho hx hE)
    | build t ps => exact still (q_build ho hx hE)
    | nilCheck x => exact still (q_nilCheck ho hx hE)
    | binOp op t x y yt => exact still (q_binOp (by simp) ho hx hE)
    | unOp op t x => exact still (q_unOp ho hx hE)
    | makeInterface t x => exact still (q_makeInterface ho hx hE)
    | fieldAddr t x f => exact still (q_fieldAddr ho hx hE)
    | field t x f => exact still (q_field ho hx hE)
    | indexAddr t x y => exact still (q_indexAddr ho hx hE)
    | index t x y => exact still (q_index ho hx hE)
    | extract x i => exact still (q_extract ho hx hE)
    | load t x =>
      simp only [opC, ho] at hx
      split at hx
      · rename_i vx hvx
        obtain ⟨ad, v1, v', q1, q2, q3, q4⟩ := load_rel hM hx (ev_rel hE hvx)
        injection q4 with q4
        subst q4
        refine ⟨v', q3, fun w' hV _ _ _ => .inl ?_⟩
        simp only [execOp, ho]
        refine run_v ?_
        simp [Instr.loadAt, q1, Instr.sureAddr, q2 w' hV]
      · cases hx
    | _ => rw [ho] at hl; simp [loneOp] at hl

theorem Vis.self (m : Map) (F : List (List IV)) (G : GH) (w : World) : Vis m F G w w := ⟨fun _ _ _ _ _ => rfl, fun _ _ _ _ _ _ _ _ => rfl⟩

theorem lone_ops_sim {all : Array Oper} : ∀ {os : List Oper} {env : List IV} {k : List IV → List (List IV) → GH → Option R} {r : R}, (∀ o ∈ os, loneOp o.op = true ∧ o.guard = none) → opsC P O lo true all os env F G k = some r →
    ∃ env', k env' F G = some r ∧ ∀ (m : Map) (w : World) (a : Act), MemOk P m F G w → ERel m env a.tmps → ∃ a', ERel m env' a'.tmps ∧ a'.defers = a.defers ∧
      ∀ (D : Bool → World) (s n : Nat) (L : Act → Prop), D false = w → Vis m F G w (D true) → (D true).os = w.os → (D true).tape = w.tape → (D true).output = w.output → (s < n ∨ n + os.length ≤ s) → L a' → lexO P D s L os n a
  | [], env, k, r, _, h => ⟨env, h, fun m w a _ hE => ⟨a, hE, rfl, fun D s n L _ _ _ _ _ _ hL => hL⟩⟩
  | o :: os, env, k, r, hl, h => by
    obtain ⟨hlo, hg⟩ := hl o (by simp)
    simp only [opsC, hg] at h
    obtain ⟨v, h1, h2⟩ := lone_sim hlo h
    obtain ⟨env', h3, h4⟩ := lone_ops_sim (fun x hx => hl x (by simp [hx])) h1
    refine ⟨env', h3, fun m w a hM hE => ?_⟩
    obtain ⟨v', p1, p2⟩ := h2 m w a hM hE
    obtain ⟨a', e1, e2, e3⟩ := h4 m w _ hM (hE.put p1 o.dst)
    refine ⟨a', e1, e2.trans (put_defers a _ _), fun D s n L hD hV q1 q2 q3 hs hL => ?_⟩
    have hne : n ≠ s := by simp only [List.length_cons] at hs; omega
    refine ⟨v', fun d _ => ?_, e3 D s (n + 1) L hD hV q1 q2 q3 (by simp only [List.length_cons] at hs; omega) hL⟩
    rw [show (d || decide (n = s)) = d by simp [hne]]
    cases d
    · rw [hD]; exact p2 w (Vis.self m F G w) rfl rfl rfl
    · exact p2 _ hV q1 q2 q3

/-- A local variable is written: only its row turns. -/
theorem store_loc {b i : Nat} (h0 : HRel P B K w0 m F G w) {t : TypeId} {v : IV} {vx vv : Value} {k : List (List IV) → GH → Option R} {r : R} (h : storeC P t (.loc b i) v F G k = some r) (hx : VRel m (.loc b i) vx) (hv : VRel m v vv) :
    ∃ w' F' q, (Instr.storeAt t vx vv).run P w = .ok () w' ∧ HRel P B K w0 m F' G w' ∧ k F' G = some r ∧ m.f b = some q ∧ ButRow w w' q := by
  unfold storeC at h
  split at h
  · rename_i hc
    obtain ⟨hlen, hcell, hz⟩ := hc
    have hcr := cells_rel hv
    have hL : LRel m v.cells vv.cells.toList := ⟨by have := hcr.1; simpa using this, fun i iv v a b => hcr.2 i iv v a (by simpa using b)⟩
    obtain ⟨ii, hii, hs⟩ := cellsT_pos hz
    have hrun : ∀ ad w', (storeCells ad vv.cells.toList).run P w = .ok () w' → (Instr.storeAt t (.pointer (some ad)) vv).run P w = .ok () w' := by
      intro ad w' hw
      have : vv.cells.size = ii.size := by rw [hs, ← hlen]; exact hcr.1.symm
      simp only [Instr.storeAt, Instr.sureAddr, storeVar, Sem.run_bind, Sem.run_pure, Result.andThen_ok, run_sizeI hii, this, ne_eq, not_true_eq_false, if_false]
      exact hw
    simp only at h
    split at h
    · rename_i cs hcs
      split at h
      · rename_i hl
        cases hx with
        | loc _ _ q hq =>
          obtain ⟨c, t', hf⟩ := h0.fblk _ _ _ hcs hq
          obtain ⟨w', hw1, hw2⟩ := run_setCells (P := P) q i t' (0, 0) vv.cells.toList 0 c w hf.row (by have := hL.1; have := hf.size; omega) (fun x _ => by omega) (one_of_rel hL hcell)
          refine ⟨w', _, q, hrun _ w' hw1, ?_, h, hq, ⟨hw2.os, hw2.tape, hw2.output, hw2.other⟩⟩
          refine h0.writeF hcs hq hf hw2 ⟨by rw [splice_len hl, setAll_size, hf.size], ?_⟩
          have := splice_rel (b0 := 0) (Q := fun iv v => VRel m iv v) hl (by rw [hf.size]; omega) hL.1 (fun i iv hi => by rw [Nat.zero_add]; exact hf.cells i iv hi) hL.2
          intro j iv v hj hjv
          obtain ⟨v', h1, h2⟩ := this j iv hj
          rw [Nat.add_zero] at hjv
          rw [Nat.zero_add, Nat.zero_add] at h1
          rw [h1] at hjv
          injection hjv with hjv
          rw [← hjv]; exact h2
      · cases h
    · cases h
  · cases h

/-- With one box hidden all that is to be read stands apart from it. -/
theorem vis_hidden {b q : Nat} (h : HRel P B K w0 m F G w) {cs : List IV} (hcs : F[b]? = some cs) (hq : m.f b = some q) {w' : World} (hb : ButRow w w' q) : Vis m (F.set b []) G w w' where
  g := fun a iv e hg he => by
    refine hb.other _ fun hc => ?_
    obtain ⟨c, t, hf⟩ := h.fblk _ _ _ hcs hq
    unfold gld at hg
    split at hg
    · rename_i k hk
      split at hg
      · rename_i hmo
        obtain ⟨c1, t1, fr, hgb⟩ := h.gblk _ _ _ hk hmo he
        by_cases h1 : k.mode = 1
        · exact h.gf _ _ _ _ _ hk h1 he hq hc
        · exact hf.own (h.bk _ (hc ▸ hgb.ro (by omega)))
      · cases hg
    · cases hg
  f := fun i ds r o iv hi hr ho => by
    refine hb.other _ fun hc => ?_
    by_cases hib : b = i
    · subst hib
      rw [List.getElem?_set_self (List.getElem?_eq_some_iff.1 hcs).1] at hi
      injection hi with hi
      subst hi
      simp at ho
    · exact h.finj i b r q hr hq (Ne.symm hib) hc

theorem memok_hidden {b : Nat} (h : MemOk P m F G w) : MemOk P m (F.set b []) G w where
  g := h.g
  z := h.z
  f := fun i cs r hi hr => by
    by_cases hib : b = i
    · subst hib
      have hlt : b < F.length := by have := (List.getElem?_eq_some_iff.1 hi).1; simpa using this
      rw [List.getElem?_set_self hlt] at hi
      injection hi with hi
      subst hi
      exact ⟨(h.f b F[b] r (List.getElem?_eq_getElem hlt) hr).1, fun o iv ho => by simp at ho⟩
    · rw [List.getElem?_set_ne hib] at hi
      exact h.f i cs r hi hr

theorem loneN_all : ∀ (os : List Oper), ∀ o ∈ os.take (loneN os), loneOp o.op = true
  | [], o, h => by simp at h
  | x :: os, o, h => by
    simp only [loneN] at h
    split at h
    · rename_i hq
      simp only [List.take_succ_cons, List.mem_cons] at h
      rcases h with rfl | h
      · exact hq
      · exact loneN_all os o h
    · simp at h

theorem store_region (hm : P.follows .mixedOrders = true) {id : Nat} {ops : Array Oper} {k : Ex → List IV → List (List IV) → GH → Option R} (hds : drawS ops = true)
    (h : (match ops.toList[loneN ops.toList]? with
        | some ⟨none, .store t x v, _, _, _, _⟩ => match ev env x with
          | some (.loc b i) => opsC P O lo true ops (ops.toList.take (loneN ops.toList)) env (F.set b []) G fun env _ _ => match ev env x, ev env v with
            | some (.loc b' i'), some v => if b' = b ∧ i' = i then storeC P t (.loc b i) v F G fun F' G' =>
                opsC P O lo true ops (ops.toList.drop (loneN ops.toList + 1)) env (F.set b []) G fun env _ _ => k .normal env F' G'
              else none
            | _, _ => none
          | _ => none
        | _ => none) = some r) :
    ∃ env' F' G', k .normal env' F' G' = some r ∧ ∀ (B K : Nat → Prop) (w0 : World) (m : Map) (w : World) (a : Act) (Q : Exit → Act → World → Prop), HRel P B K w0 m F G w → ERel m env a.tmps →
      After P B K w0 m env' F' G' a (Q .normal) → (Code.region id ops true).wp P Q a w := by
  simp only [drawS, Bool.and_eq_true, decide_eq_true_eq] at hds
  obtain ⟨⟨⟨⟨hn, hpost⟩, hguard⟩, hB⟩, _⟩ := hds
  have hg : ∀ o ∈ ops.toList, o.guard = none := fun o ho => by have := List.all_eq_true.1 hguard o ho; simpa using this
  have hpre : ∀ o ∈ ops.toList.take (loneN ops.toList), loneOp o.op = true ∧ o.guard = none := fun o ho => ⟨loneN_all _ o ho, hg o (List.mem_of_mem_take ho)⟩
  have hpo : ∀ o ∈ ops.toList.drop (loneN ops.toList + 1), loneOp o.op = true ∧ o.guard = none := fun o ho => ⟨List.all_eq_true.1 hpost o ho, hg o (List.mem_of_mem_drop ho)⟩
  split at h
  · rename_i t x v ty pos after guard hop
    split at h
    · rename_i b i hx
      obtain ⟨env1, h1, h2⟩ := lone_ops_sim hpre h
      split at h1
      · rename_i b' i' v' hx1 hv1
        split at h1
        · rename_i hbi
          obtain ⟨rfl, rfl⟩ := hbi
          rw [storeC_param] at h1
          cases hst : storeC P t (.loc b' i') v' F G (fun F G => some (F, G)) with
          | none => rw [hst] at h1; cases h1
          | some p =>
            obtain ⟨F', G'⟩ := p
            rw [hst] at h1
            simp only [Option.bind_some] at h1
            obtain ⟨env2, h3, h4⟩ := lone_ops_sim hpo h1
            refine ⟨env2, F', G', h3, fun B K w0 m w a Q hR hE hQ => ?_⟩
            have hRa : HRel P B K w0 m F G { w with drawn := w.drawn + 1 } := hR.grow (below_drawn w _)
            obtain ⟨a1, e1, d1, L1⟩ := h2 m _ a (memok_hidden hRa.mem) hE
            obtain ⟨w1, F1, q, s1, s2, s3, s4, s5⟩ := store_loc hRa hst (ev_rel e1 hx1) (ev_rel e1 hv1)
            injection s3 with s3
            injection s3 with s3 s3'
            subst s3; subst s3'
            obtain ⟨a2, e2, d2, L2⟩ := h4 m _ a1 (memok_hidden hRa.mem) e1
            have hFb : ∃ cs, F[b']? = some cs := ⟨_, List.getElem?_eq_getElem (hRa.fdom _ _ s4)⟩
            obtain ⟨cs, hcs⟩ := hFb
            have hV : Vis m (F.set b' []) G { w with drawn := w.drawn + 1 } w1 := vis_hidden hRa hcs s4 s5
            have hlist : ops.toList = ops.toList.take (loneN ops.toList) ++ (⟨none, .store t x v, ty, pos, after, guard⟩ :: ops.toList.drop (loneN ops.toList + 1)) := by
              obtain ⟨hlt, heq⟩ := List.getElem?_eq_some_iff.1 hop
              rw [← heq, ← List.drop_eq_getElem_cons hlt, List.take_append_drop]
            have hlen : (ops.toList.take (loneN ops.toList)).length = loneN ops.toList := by simp; omega
            refine wp_region_store (D := fun d => if d then w1 else { w with drawn := w.drawn + 1 }) (s := loneN ops.toList) hm hB (fun i o ho => hg o (List.mem_of_getElem? (by simpa using ho))) hn rfl ?_
            have key := lexO_append (P := P) (D := fun d => if d then w1 else { w with drawn := w.drawn + 1 }) (s := loneN ops.toList) (L := fun a' => Q .normal a' w1) _ _ 0 a
              (L1 (fun d => if d then w1 else { w with drawn := w.drawn + 1 }) (loneN ops.toList) 0
                (fun a' => lexO P (fun d => if d then w1 else { w with drawn := w.drawn + 1 }) (loneN ops.toList) (fun a' => Q .normal a' w1) (⟨none, .store t x v, ty, pos, after, guard⟩ :: ops.toList.drop (loneN ops.toList + 1)) (0 + (ops.toList.take (loneN ops.toList)).length) a') rfl hV s5.os s5.tape s5.output (.inr (by rw [hlen]; omega)) (by
                  refine ⟨Go.undef, fun d hd => ?_, ?_⟩
                  · have hd' : d = false := hd (by rw [hlen]; omega)
                    subst hd'
                    rw [show (false || decide (0 + (ops.toList.take (loneN ops.toList)).length = loneN ops.toList)) = true by rw [hlen]; simp]
                    refine .inr ⟨?_, rfl⟩
                    have s1' : (Instr.storeAt t (a1.eval x) (a1.eval v)).run P ((fun d : Bool => if d = true then w1 else { w with drawn := w.drawn + 1 }) false) = .ok () w1 := s1
                    simp only [execOp, Sem.run_bind, s1', Result.andThen_ok, Sem.run_pure, if_true]
                  · refine L2 _ _ _ _ rfl hV s5.os s5.tape s5.output (.inl (by rw [hlen]; omega)) ?_
                    exact hQ m w1 a2 m.le_refl s2 e2 (d2.trans d1)))
            rw [← hlist] at key
            exact key
        · cases h1
      · cases h1
    · cases h
  · cases h
end
end Go.LI
