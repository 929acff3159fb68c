/- What the interpreter gives does not hang on what follows. -/
import Derived.Test.YtckelpgijjbpaaaLiL
set_option linter.unusedVariables false
namespace Go.LI
open Go Go.RowKit

section
variable {R : Type} {P : Program}

theorem castL_nat {l : Leaf} {v : IV} {k : IV → Option R} {r : R} (h : castL l v k = some r) (k' : IV → Option R) : castL l v k' = k' v := by
  cases l <;> simp only [castL] at h ⊢
  case int => split at h; (rename_i n hn; rw [ivasInt_out hn]); cases h
  case float => split at h; (rename_i n hn; rw [ivasFloat_out hn]); cases h
  case bool => cases v <;> first | (cases h; done) | rfl
  case str => cases v <;> first | (cases h; done) | rfl
  case ptr => cases v <;> first | (cases h; done) | rfl
  case slice => cases v <;> first | (cases h; done) | rfl

theorem castCells_nat : ∀ {ls : List Leaf} {cs : List IV} {i : Nat} {k : List IV → Option R} {r : R}, castCells ls cs i k = some r → i + ls.length = cs.length → ∀ k' : List IV → Option R, castCells ls cs i k' = k' (cs.drop i)
  | [], cs, i, k, r, h, hl, k' => by rw [List.drop_of_length_le (by simp at hl; omega)]; rfl
  | l :: ls, cs, i, k, r, h, hl, k' => by
    have hlt : i < cs.length := by simp at hl; omega
    simp only [castCells] at h ⊢
    have h2 := castL_out h
    rw [castL_nat h, castCells_nat h2 (by simp at hl; omega)]
    rw [List.drop_eq_getElem_cons hlt]
    simp [List.getD, hlt]

theorem cast1_nat {t : TypeId} {v : IV} {k : IV → Option R} {r : R} (h : cast1 P t v k = some r) (k' : IV → Option R) : cast1 P t v k' = k' v := by
  unfold cast1 at h ⊢
  split at h
  · rename_i ha
    rw [if_pos ha]
    split at h
    · rename_i hl
      rw [if_pos hl]
      split at h
      · rename_i cs hcs
        obtain ⟨rfl, hc⟩ := ivasAgg_out hcs
        try rw [hcs]
        try simp only
        rw [castCells_nat h (by rw [hl, hc]; simp)]
        simp
      · cases h
    · cases h
  · rename_i ha
    rw [if_neg ha]
    split at h
    · rename_i l hl
      try rw [hl]
      exact castL_nat h k'
    · rfl

theorem castTs_nat : ∀ {ls : List TypeId} {cs : List IV} {i : Nat} {k : List IV → Option R} {r : R}, castTs P ls cs i k = some r → i + ls.length = cs.length → ∀ k' : List IV → Option R, castTs P ls cs i k' = k' (cs.drop i)
  | [], cs, i, k, r, h, hl, k' => by rw [List.drop_of_length_le (by simp at hl; omega)]; rfl
  | l :: ls, cs, i, k, r, h, hl, k' => by
    have hlt : i < cs.length := by simp at hl; omega
    simp only [castTs] at h ⊢
    have h2 := cast1_out h
    rw [cast1_nat h, castTs_nat h2 (by simp at hl; omega)]
    rw [List.drop_eq_getElem_cons hlt]
    simp [List.getD, hlt]

theorem castT_nat {t : TypeId} {v : IV} {k : IV → Option R} {r : R} (h : castT P t v k = some r) (k' : IV → Option R) : castT P t v k' = k' v := by
  unfold castT at h ⊢
  split at h
  · rename_i ts hu
    try rw [hu]
    try simp only
    split at h
    · rename_i cs hcs
      obtain ⟨rfl, hc⟩ := ivasTup_out hcs
      try rw [hcs]
      try simp only
      rw [castTs_nat h (by rw [← hc]; simp)]
      simp
    · cases h
  · exact cast1_nat h k'

/-- A call's outcome does not hang on what follows. -/
def NatO (O : Ora R) : Prop := ∀ (f : FuncId) (args : List IV) (G : GH) (k : IV → GH → Option R) (r : R), O f args G k = some r → ∃ v G', ∀ k' : IV → GH → Option R, O f args G k' = k' v G'

variable {O : Ora R} {lo : List Nat} {sand : Bool}

/-- An operation comes to this. -/
def OpTo (P : Program) (O : Ora R) (lo : List Nat) (sand : Bool) (o : Oper) (env : List IV) (F : List (List IV)) (G : GH) (v : IV) (F' : List (List IV)) (G' : GH) : Prop :=
  ∀ k : IV → List (List IV) → GH → Option R, opC P O lo sand o env F G k = k v F' G'

theorem op_nat (hN : NatO O) {o : Oper} {env : List IV} {F : List (List IV)} {G : GH} {k : IV → List (List IV) → GH → Option R} {r : R} (h : opC P O lo sand o env F G k = some r) : ∃ v F' G', OpTo P O lo sand o env F G v F' G' := by
  by_cases hc : isCall o.op = true
  · cases ho : o.op with
    | call c =>
      rw [ho] at hc
      cases hcc : c.callee with
      | value f =>
        simp only [opC, ho, hcc] at h
        split at h
        · rename_i args hargs
          split at h
          · rename_i fid caps hf
            split at h
            · rename_i hnl
              cases sand
              · simp only [Bool.false_eq_true, if_false] at h
                obtain ⟨v, G', hv⟩ := hN _ _ _ _ _ h
                rw [hv] at h
                refine ⟨v, F, G', fun k' => ?_⟩
                simp only [opC, ho, hcc, hargs, hf, hnl, if_true, Bool.false_eq_true, if_false]
                rw [hv]
                exact castT_nat h _
              · simp only [if_true] at h
                obtain ⟨v, G', hv⟩ := hN _ _ _ _ _ h
                rw [hv] at h
                have h1 := castT_out h
                split at h1
                · rename_i hfl
                  refine ⟨v, F, G, fun k' => ?_⟩
                  simp only [opC, ho, hcc, hargs, hf, hnl, if_true]
                  rw [hv, castT_nat h]
                  rw [if_pos hfl]
                · cases h1
            · cases h
          · cases h
        · cases h
      | builtin b => simp [isCall, hcc] at hc
      | invoke x n => simp [isCall, hcc] at hc
    | _ => rw [ho] at hc; simp [isCall] at hc
  · have hc' : isCall o.op = false := by simpa using hc
    rw [opC_param (O' := fun _ _ _ _ => none) env F G k hc'] at h
    cases hx : opC P (fun _ _ _ _ => none) lo sand o env F G (fun v F G => some (v, F, G)) with
    | none => rw [hx] at h; cases h
    | some x =>
      obtain ⟨v, F', G'⟩ := x
      refine ⟨v, F', G', fun k' => ?_⟩
      rw [opC_param (O' := fun _ _ _ _ => none) env F G k' hc', hx]
      rfl

/-! ### Rows of operations -/
theorem opsC_cons {all : Array Oper} (o : Oper) (os : List Oper) (env : List IV) (F : List (List IV)) (G : GH) (k : List IV → List (List IV) → GH → Option R) :
    opsC P O lo sand all (o :: os) env F G k = match wantI all o env with
      | some true => opC P O lo sand o env F G fun v F G => opsC P O lo sand all os (putI env o.dst v) F G k
      | some false => opsC P O lo sand all os (putI env o.dst undefI) F G k
      | none => none := by
  simp only [opsC, wantI]
  cases hg : o.guard with
  | none => rfl
  | some jw =>
    obtain ⟨j, want⟩ := jw
    simp only
    cases hd : (all[j]?).bind (·.dst) with
    | none => rfl
    | some d =>
      simp only
      cases he : env[d]? with
      | none => rfl
      | some v =>
        cases v with
        | bool b =>
          have hs : env.set d (.bool b) = env := set_same he
          cases b <;> cases want <;> simp [hs]
        | tuple vs => cases vs <;> rfl
        | _ => rfl

def OpsTo (P : Program) (O : Ora R) (lo : List Nat) (sand : Bool) (all : Array Oper) (os : List Oper) (env : List IV) (F : List (List IV)) (G : GH) (env' : List IV) (F' : List (List IV)) (G' : GH) : Prop :=
  ∀ k : List IV → List (List IV) → GH → Option R, opsC P O lo sand all os env F G k = k env' F' G'

theorem ops_nat (hN : NatO O) {all : Array Oper} : ∀ {os : List Oper} {env : List IV} {F : List (List IV)} {G : GH} {k : List IV → List (List IV) → GH → Option R} {r : R}, opsC P O lo sand all os env F G k = some r →
    ∃ env' F' G', OpsTo P O lo sand all os env F G env' F' G'
  | [], env, F, G, k, r, h => ⟨env, F, G, fun k' => rfl⟩
  | o :: os, env, F, G, k, r, h => by
    rw [opsC_cons] at h
    cases hw : wantI all o env with
    | none => rw [hw] at h; cases h
    | some b =>
      rw [hw] at h
      cases b
      · obtain ⟨env', F', G', h1⟩ := ops_nat hN h
        exact ⟨env', F', G', fun k' => by rw [opsC_cons, hw]; exact h1 k'⟩
      · obtain ⟨v, F1, G1, h1⟩ := op_nat hN h
        rw [h1] at h
        obtain ⟨env', F', G', h2⟩ := ops_nat hN h
        exact ⟨env', F', G', fun k' => by rw [opsC_cons, hw]; simp only; rw [h1]; exact h2 k'⟩
end
end Go.LI
