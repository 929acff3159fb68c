/- The last step of a law's row, for arguments of any form: what can be read stays as it was. -/
import Derived.Test.YtckelpgijjbpaaaLiV
import Derived.Test.YtckelpgijjbpaaaLiT
import Derived.Carry
import Derived.Laws.Cover2
set_option linter.unusedVariables false
namespace Go.LI
open Go Go.RowKit Go.ChangeShapes Go.WideShapes Go.WideElems

section
variable {H : Type} {enc : TypeId × Value → H} {P : Program}

def rowed (P : Program) (ts : List TypeId) : Bool := ts.all fun t => P.readableRec t && decide (t < P.types.size)

theorem trodAll_stays (hl : laidOutB P = true) {W W' : World} (hb : Below W.heap.size W W') {sp : Nat → Bool} : ∀ {ts : List TypeId} {vs : List Value} {ds : List (DataW H)} {ps : List MemPlace}, rowed P ts = true →
    DataW.TrodAll enc P W 0 (fun _ => true) true ts vs ds ps → (∀ p ∈ ps, p.block < W.heap.size) → (∀ p ∈ ps, sp p.block = true) → DataW.TrodAll enc P W' 0 sp true ts vs ds ps
  | [], [], [], ps, _, h, _, _ => h
  | t :: ts, v :: vs, d :: ds, ps, hr, h, hlt, hsp => by
    obtain ⟨v', vs', d', ds', p, q, e1, e2, e3, h1, h2⟩ := trodAll_cons h
    simp only [rowed, List.all_cons, Bool.and_eq_true, decide_eq_true_eq] at hr
    injection e1 with e1 e1'
    injection e2 with e2 e2'
    subst e1; subst e1'; subst e2; subst e2'; subst e3
    refine trodAll_cons_mk (Trod_stays hl hr.1.1 hr.1.2 h1 (fun x hx => hb.same (hlt x (List.mem_append.2 (.inl hx)))) fun x hx => hsp x (List.mem_append.2 (.inl hx))) ?_
    exact trodAll_stays hl hb hr.2 h2 (fun x hx => hlt x (List.mem_append.2 (.inr hx))) fun x hx => hsp x (List.mem_append.2 (.inr hx))
  | [], _ :: _, _, _, _, h, _, _ => by cases h
  | [], [], _ :: _, _, _, h, _, _ => by cases h
  | _ :: _, [], _, _, _, h, _, _ => by cases h
  | _ :: _, _ :: _, [], _, _, h, _, _ => by cases h

/-- A law that returned true, and left all that was there. -/
theorem law_post {f : Func} {s : ChangeSpec} {apart fresh handsOn again : Bool} {W W' : World} {args : Array Value} {ds gs : List (DataW H)} {before : List MemPlace} {t : TypeId}
    (hW : DataW.Whole enc P f.params.toList s.vars apart W args.toList ds gs before) (hl : laidOutB P = true) (hr : rowed P f.params.toList = true) (hvars : s.vars = [])
    (ht : P.underlying t = some .bool) (hrt : f.resultTypes = #[t]) (hfn : ∀ ds, ds.length = f.params.size → (s.fn H ds).results = [.lit (.bool true)] ∧ (s.fn H ds).args = ds ∧ (s.fn H ds).vars = [])
    (hb : Below W.heap.size W W') : s.post enc P f apart fresh handsOn again W args (.bool true) W' := by
  have hW' := hW
  obtain ⟨p, q, hA, hV, hpq, hfz, hnd⟩ := hW
  rw [hvars] at hV
  obtain ⟨hg, hq⟩ := trodVars_none hV
  subst hg; subst hq
  have hlen : ds.length = f.params.size := by
    have key : ∀ {ts : List TypeId} {vs : List Value} {ds : List (DataW H)} {ps : List MemPlace}, DataW.TrodAll enc P W 0 (fun _ => true) true ts vs ds ps → ds.length = ts.length := by
      intro ts
      induction ts with
      | nil =>
        intro vs ds ps h
        cases vs <;> cases ds <;> first | rfl | cases h
      | cons t ts ih =>
        intro vs ds ps h
        obtain ⟨v', vs', d', ds', p, q, e1, e2, e3, h1, h2⟩ := trodAll_cons h
        subst e2
        simp [ih h2]
    have := key hA
    simpa using this
  obtain ⟨f1, f2, f3⟩ := hfn ds hlen
  have hin : ∀ x ∈ before, x.block < W.heap.size := fun x hx => hW'.lt x hx
  refine post_law (pa := p) (pv := []) hW' ht hrt (by simpa using f1) (fun sp hsp => ?_) (fun sp hsp => ?_) hpq hb
  · have hp : ∀ x ∈ p, x ∈ before := fun x hx => by rw [hpq]; exact List.mem_append.2 (.inl hx)
    rw [List.append_nil, f2]
    exact trodAll_stays hl hb hr hA (fun x hx => hin x (hp x hx)) fun x hx => hsp x (hp x hx)
  · rw [List.append_nil, f3, hvars]
    exact hV

theorem vrel_agg {m : Map} {cs : List IV} {cs' : Array Value} (h : ARel m cs cs') : VRel m (.agg cs) (.agg cs') := .agg cs cs' h.1 h.2

/-- A cell of a plain type. -/
def leafOk (P : Program) (u : TypeId) (v : Value) : Prop :=
  match P.underlying u with
  | some (.int k) => ∃ n, v = .int k n
  | some (.float k) => ∃ b, v = .float k b
  | some .bool => ∃ b, v = .bool b
  | some .string => ∃ s, v = .string s
  | _ => True

theorem leaf_of {W : World} {r : Reach} {b : Nat} {u : TypeId} {v : Value} (h : Cell.okWide P W r b u v) : leafOk P u v := by
  unfold leafOk
  split
  · rename_i k hu
    exact okWide_int (base := b) (r := r) (w := W) hu (by unfold Value.okWide; rw [hu]; exact h)
  · rename_i k hu
    exact okWide_float (b0 := b) (r := r) (w := W) hu (by unfold Value.okWide; rw [hu]; exact h)
  · rename_i hu
    exact okWide_bool (base := b) (r := r) (w := W) hu (by unfold Value.okWide; rw [hu]; exact h)
  · rename_i hu
    exact okWide_string (base := b) (r := r) (w := W) hu (by unfold Value.okWide; rw [hu]; exact h)
  · trivial

def aggB (P : Program) (t : TypeId) : Bool :=
  match P.underlying t with
  | some (.struct _) | some (.array _ _) => true
  | _ => false
def cellsB (P : Program) (t : TypeId) (ts : List TypeId) : Bool := decide (P.cellTypes P.depth t = some ts) && decide (P.cellsOf t = ts.length)

/-- A struct's or an array's cells. -/
theorem agg_shape {W : World} {r : Reach} {b : Nat} {t : TypeId} {v : Value} {ts : List TypeId} (hag : aggB P t = true)
    (hcb : cellsB P t ts = true) (h : Value.okWide P W r b t v) :
    ∃ cs, v = .agg cs ∧ cs.size = ts.length ∧ ∀ (i : Nat) (u : TypeId) (x : Value), ts[i]? = some u → cs[i]? = some x → leafOk P u x := by
  simp only [cellsB, Bool.and_eq_true, decide_eq_true_eq] at hcb
  obtain ⟨hts, hc⟩ := hcb
  unfold aggB at hag
  have key : ∃ cs, v = .agg cs ∧ cs.size = P.cellsOf t ∧ Row.okWide P W r b t cs := by
    unfold Value.okWide at h
    split at h
    · exact h
    · exact h
    · rename_i h1 h2
      exfalso
      split at hag
      · rename_i hs; exact h1 _ hs
      · rename_i hs; exact h2 _ _ hs
      · cases hag
  obtain ⟨cs, rfl, hs, ts', ht', _, hcell⟩ := key
  rw [hts] at ht'
  injection ht' with ht'
  subst ht'
  refine ⟨cs, rfl, hs.trans hc, fun i u x hu hx => ?_⟩
  obtain ⟨u', h1, h2⟩ := hcell i x hx
  have hi : i < ts.length := (List.getElem?_eq_some_iff.1 hu).1
  rw [Nat.mod_eq_of_lt hi, hu] at h1
  injection h1 with h1
  subst h1
  exact leaf_of h2
end
end Go.LI
