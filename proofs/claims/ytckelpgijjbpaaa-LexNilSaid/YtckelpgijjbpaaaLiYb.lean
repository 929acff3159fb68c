/- What an operation looks at, and what it touches. -/
import Derived.Test.YtckelpgijjbpaaaLiYa
set_option linter.unusedVariables false
namespace Go.LI
open Go Go.RowKit

section
variable {R : Type} {P : Program} {O : Ora R} {lo : List Nat} {sand : Bool} {env env2 : List IV}

theorem ev_env {x : Operand} (h : ∀ t, x = .tmp t → env[t]? = env2[t]?) : ev env x = ev env2 x := by
  cases x with
  | tmp t => simp only [ev, tmpv, h t rfl]
  | _ => rfl
theorem evs_env : ∀ {xs : List Operand}, (∀ t, Operand.tmp t ∈ xs → env[t]? = env2[t]?) → evs env xs = evs env2 xs
  | [], _ => rfl
  | x :: xs, h => by
    simp only [evs]
    rw [ev_env (x := x) (fun t ht => h t (by simp [ht])), evs_env (xs := xs) (fun t ht => h t (by simp [ht]))]
theorem evParts_env : ∀ {xs : List (Nat × Operand)}, (∀ t, Operand.tmp t ∈ xs.map (·.2) → env[t]? = env2[t]?) → evParts env xs = evParts env2 xs
  | [], _ => rfl
  | (i, x) :: xs, h => by
    simp only [evParts]
    rw [ev_env (x := x) (fun t ht => h t (by simp [ht])), evParts_env (xs := xs) (fun t ht => h t (by simp at ht ⊢; exact .inr ht))]

/-- An operation looks at its operands alone. -/
theorem opC_env {o : Oper} (h : ∀ t, Operand.tmp t ∈ o.op.operands → env[t]? = env2[t]?) (F : List (List IV)) (G : GH) (k : IV → List (List IV) → GH → Option R) :
    opC P O lo sand o env F G k = opC P O lo sand o env2 F G k := by
  have E : ∀ x, x ∈ o.op.operands → ev env x = ev env2 x := fun x hx => ev_env fun t ht => h t (by rw [← ht]; exact hx)
  cases ho : o.op with
  | move x => have e := E x (by simp [ho, Op.operands]); simp only [opC, ho, e]
  | assign x => have e := E x (by simp [ho, Op.operands]); simp only [opC, ho, e]
  | pick c x y =>
    have e1 := E c (by simp [ho, Op.operands]); have e2 := E x (by simp [ho, Op.operands]); have e3 := E y (by simp [ho, Op.operands])
    simp only [opC, ho, e1, e2, e3]
  | alloc t => simp only [opC, ho]
  | box t x => have e := E x (by simp [ho, Op.operands]); simp only [opC, ho, e]
  | build t ps =>
    have e := evParts_env (env := env) (env2 := env2) (xs := ps.toList) (fun t ht => h t (by rw [ho]; simpa [Op.operands] using ht))
    simp only [opC, ho, e]
  | buildSlice t n ps =>
    have e := evParts_env (env := env) (env2 := env2) (xs := ps.toList) (fun t ht => h t (by rw [ho]; simpa [Op.operands] using ht))
    simp only [opC, ho, e]
  | load t x => have e := E x (by simp [ho, Op.operands]); simp only [opC, ho, e]
  | store t x y => have e1 := E x (by simp [ho, Op.operands]); have e2 := E y (by simp [ho, Op.operands]); simp only [opC, ho, e1, e2]
  | nilCheck x => have e := E x (by simp [ho, Op.operands]); simp only [opC, ho, e]
  | binOp op t x y yt => have e1 := E x (by simp [ho, Op.operands]); have e2 := E y (by simp [ho, Op.operands]); simp only [opC, ho, e1, e2]
  | unOp op t x => have e := E x (by simp [ho, Op.operands]); simp only [opC, ho, e]
  | convert s d x => have e := E x (by simp [ho, Op.operands]); simp only [opC, ho, e]
  | makeInterface t x => have e := E x (by simp [ho, Op.operands]); simp only [opC, ho, e]
  | makeFunc fn fi ca =>
    cases fn with
    | func f =>
      have e := evs_env (env := env) (env2 := env2) (xs := ca.toList) (fun t ht => h t (by rw [ho]; simp [Op.operands]; exact .inr (by simpa using ht)))
      simp only [opC, ho, e]
    | _ => simp only [opC, ho]
  | makeSlice t l c => have e1 := E l (by simp [ho, Op.operands]); have e2 := E c (by simp [ho, Op.operands]); simp only [opC, ho, e1, e2]
  | slice t x l hh mx =>
    have e1 := E x (by simp [ho, Op.operands])
    have e2 : loI env l = loI env2 l := by
      cases l with
      | none => rfl
      | some l => simp only [loI]; rw [E l (by simp [ho, Op.operands])]
    have e3 : ∀ v, hiI env hh v = hiI env2 hh v := by
      intro v
      cases hh with
      | none => rfl
      | some hh => simp only [hiI]; rw [E hh (by simp [ho, Op.operands])]
    simp only [opC, ho, e1, e2, e3]
  | fieldAddr t x f => have e := E x (by simp [ho, Op.operands]); simp only [opC, ho, e]
  | field t x f => have e := E x (by simp [ho, Op.operands]); simp only [opC, ho, e]
  | indexAddr t x y => have e1 := E x (by simp [ho, Op.operands]); have e2 := E y (by simp [ho, Op.operands]); simp only [opC, ho, e1, e2]
  | index t x y => have e1 := E x (by simp [ho, Op.operands]); have e2 := E y (by simp [ho, Op.operands]); simp only [opC, ho, e1, e2]
  | extract x i => have e := E x (by simp [ho, Op.operands]); simp only [opC, ho, e]
  | call c =>
    have e := evs_env (env := env) (env2 := env2) (xs := c.args.toList) (fun t ht => h t (by rw [ho]; simp [Op.operands, Call.operands]; exact .inr (by simpa using ht)))
    cases hc : c.callee with
    | builtin b => simp only [opC, ho, hc, e]
    | value f =>
      have e2 := E f (by simp [ho, Op.operands, Call.operands, hc])
      simp only [opC, ho, hc, e, e2]
    | invoke x n => simp only [opC, ho, hc, e]
  | _ => simp only [opC, ho]

/-! ### What it touches -/
/-- What something that does T does elsewhere. -/
def ClsG (T : List (List IV) → GH → IV → List (List IV) → GH → Prop) (F : List (List IV)) (G : GH) : Fp → Prop
  | .none => ∃ v, ∀ F2 G2, T F2 G2 v F2 G2
  | .rf b => ∃ v, ∀ F2 G2, F2[b]? = F[b]? → T F2 G2 v F2 G2
  | .rg => ∃ v, ∀ F2, T F2 G v F2 G
  | .wf b => ∃ v cs, b < F.length ∧ ∀ F2 G2, F2[b]? = F[b]? → T F2 G2 v (F2.set b cs) G2
  | .nf => ∃ cs, ∀ F2 G2, T F2 G2 (.loc F2.length 0) (F2 ++ [cs]) G2
  | .wg => ∃ v G', ∀ F2, T F2 G v F2 G'
  | .bad => True
/-- What an operation that is carried out does elsewhere. -/
abbrev Cls (P : Program) (O : Ora R) (lo : List Nat) (sand : Bool) (o : Oper) (env : List IV) (F : List (List IV)) (G : GH) : Fp → Prop := ClsG (OpTo P O lo sand o env) F G

theorem cls_pure {o : Oper} {F : List (List IV)} {G : GH} {k : IV → List (List IV) → GH → Option R} {r : R} {x : Option IV} (hx : ∀ F2 G2 (k' : IV → List (List IV) → GH → Option R), opC P O lo sand o env F2 G2 k' = x.bind fun v => k' v F2 G2)
    (h : opC P O lo sand o env F G k = some r) : Cls P O lo sand o env F G .none := by
  rw [hx] at h
  cases x with
  | none => cases h
  | some v => exact ⟨v, fun F2 G2 k' => by rw [hx]; rfl⟩
/-- What hangs on the shared heap alone. -/
theorem cls_g {o : Oper} {F : List (List IV)} {G : GH} {k : IV → List (List IV) → GH → Option R} {r : R} {x : Option (IV × GH)} (hx : ∀ F2 (k' : IV → List (List IV) → GH → Option R), opC P O lo sand o env F2 G k' = x.bind fun v => k' v.1 F2 v.2)
    (h : opC P O lo sand o env F G k = some r) : Cls P O lo sand o env F G .wg := by
  rw [hx] at h
  cases x with
  | none => cases h
  | some v => exact ⟨v.1, v.2, fun F2 k' => by rw [hx]; rfl⟩

theorem loadC_loc {t : TypeId} {b i : Nat} {F F2 : List (List IV)} {G G2 : GH} (hb : F2[b]? = F[b]?) (k : IV → Option R) : loadC P t (.loc b i) F2 G2 k = loadC P t (.loc b i) F G k := by
  simp only [loadC, hb]
theorem loadC_ptr {t : TypeId} {a : Option GA} {F F2 : List (List IV)} {G : GH} (k : IV → Option R) : loadC P t (.ptr a) F2 G k = loadC P t (.ptr a) F G k := by
  cases a <;> simp only [loadC]

theorem op_cls (hN : NatO O) {o : Oper} {F : List (List IV)} {G : GH} {k : IV → List (List IV) → GH → Option R} {r : R} (h : opC P O lo sand o env F G k = some r) : Cls P O lo sand o env F G (fpOp P lo sand env o) := by
  unfold fpOp
  cases ho : o.op with
  | move x => exact cls_pure (x := ev env x) (fun F2 G2 k' => by simp only [opC, ho]; cases ev env x <;> rfl) h
  | assign x => exact cls_pure (x := ev env x) (fun F2 G2 k' => by simp only [opC, ho]; cases ev env x <;> rfl) h
  | pick c x y =>
    simp only [opC, ho] at h
    split at h
    · rename_i c1 x1 y1 h1 h2 h3
      refine cls_pure (F := F) (G := G) (k := k) (r := r) (x := some (if c1 then x1 else y1)) (fun F2 G2 k' => by simp only [opC, ho, h1, h2, h3]; cases c1 <;> rfl) ?_
      simp only [opC, ho, h1, h2, h3]; exact h
    · cases h
  | build t ps =>
    refine cls_pure (x := opC P (fun _ _ _ _ => none) lo sand o env [] [] (fun v _ _ => some v)) (fun F2 G2 k' => ?_) h
    simp only [opC, ho]
    repeat' first
      | rfl
      | split
  | nilCheck x =>
    refine cls_pure (x := opC P (fun _ _ _ _ => none) lo sand o env [] [] (fun v _ _ => some v)) (fun F2 G2 k' => ?_) h
    simp only [opC, ho]
    repeat' first
      | rfl
      | split
  | binOp op t x y yt =>
    refine cls_pure (x := opC P (fun _ _ _ _ => none) lo sand o env [] [] (fun v _ _ => some v)) (fun F2 G2 k' => ?_) h
    simp only [opC, ho]
    split
    · split
      · split <;> rfl
      · rw [binC_param]
    · rfl
  | unOp op t x =>
    refine cls_pure (x := opC P (fun _ _ _ _ => none) lo sand o env [] [] (fun v _ _ => some v)) (fun F2 G2 k' => ?_) h
    simp only [opC, ho]
    split
    · rw [unC_param]
    · rfl
  | makeInterface t x =>
    refine cls_pure (x := opC P (fun _ _ _ _ => none) lo sand o env [] [] (fun v _ _ => some v)) (fun F2 G2 k' => ?_) h
    simp only [opC, ho]
    repeat' first
      | rfl
      | split
  | makeFunc fn fi ca =>
    cases fn with
    | func f =>
      refine cls_pure (x := opC P (fun _ _ _ _ => none) lo sand o env [] [] (fun v _ _ => some v)) (fun F2 G2 k' => ?_) h
      simp only [opC, ho]
      repeat' first
        | rfl
        | split
    | _ => simp [opC, ho] at h
  | fieldAddr t x f =>
    refine cls_pure (x := opC P (fun _ _ _ _ => none) lo sand o env [] [] (fun v _ _ => some v)) (fun F2 G2 k' => ?_) h
    simp only [opC, ho]
    repeat' first
      | rfl
      | split
  | field t x f =>
    refine cls_pure (x := opC P (fun _ _ _ _ => none) lo sand o env [] [] (fun v _ _ => some v)) (fun F2 G2 k' => ?_) h
    simp only [opC, ho]
    repeat' first
      | rfl
      | split
  | indexAddr t x y =>
    refine cls_pure (x := opC P (fun _ _ _ _ => none) lo sand o env [] [] (fun v _ _ => some v)) (fun F2 G2 k' => ?_) h
    simp only [opC, ho]
    repeat' first
      | rfl
      | split
  | index t x y =>
    refine cls_pure (x := opC P (fun _ _ _ _ => none) lo sand o env [] [] (fun v _ _ => some v)) (fun F2 G2 k' => ?_) h
    simp only [opC, ho]
    repeat' first
      | rfl
      | (rw [cond_bind]; rfl)
      | split
  | extract x i =>
    refine cls_pure (x := opC P (fun _ _ _ _ => none) lo sand o env [] [] (fun v _ _ => some v)) (fun F2 G2 k' => ?_) h
    simp only [opC, ho]
    repeat' first
      | rfl
      | split
  | load t x =>
    simp only
    have h0 := h
    simp only [opC, ho] at h
    split at h
    · rename_i a ha
      rw [ha]
      obtain ⟨v, h1, h2⟩ := (by rw [loadC_param] at h; cases hv : loadC P t a F G some with | none => rw [hv] at h; cases h | some v => exact ⟨v, rfl, trivial⟩ : ∃ v, loadC P t a F G some = some v ∧ True)
      have key : ∀ F2 G2, loadC P t a F2 G2 some = some v → OpTo P O lo sand o env F2 G2 v F2 G2 := fun F2 G2 hq k' => by
        simp only [opC, ho, ha]
        rw [loadC_param, hq]; rfl
      cases a with
      | loc b i => exact ⟨v, fun F2 G2 hb => key F2 G2 (by rw [loadC_loc hb]; exact h1)⟩
      | ptr p => exact ⟨v, fun F2 => key F2 G (by rw [loadC_ptr (F := F)]; exact h1)⟩
      | _ => trivial
    · cases h
  | store t x y =>
    simp only
    simp only [opC, ho] at h
    split at h
    · rename_i a v ha hv
      rw [ha]
      unfold storeC at h
      split at h
      · rename_i hc
        cases a with
        | loc b i =>
          simp only at h
          split at h
          · rename_i cs hcs
            split at h
            · rename_i hl
              refine ⟨undefI, splice cs i v.cells, (List.getElem?_eq_some_iff.1 hcs).1, fun F2 G2 hb k' => ?_⟩
              simp only [opC, ho, ha, hv, storeC, hb, hcs]
              rw [if_pos hc, if_pos hl]
            · cases h
          · cases h
        | ptr p =>
          cases p with
          | none => cases h
          | some p =>
            simp only at h
            split at h
            · rename_i hn
              split at h
              · rename_i G' hG
                refine ⟨undefI, G', fun F2 k' => ?_⟩
                simp only [opC, ho, ha, hv, storeC, hG]
                rw [if_pos hc, if_pos hn]
              · cases h
            · cases h
        | _ => cases h
      · cases h
    · cases h
  | alloc t =>
    simp only
    simp only [opC, ho] at h
    split at h
    · rename_i v hv
      unfold allocC at h
      split at h
      · rename_i hl
        rw [if_pos hl]
        exact ⟨v.cells, fun F2 G2 k' => by simp only [opC, ho, hv, allocC]; rw [if_pos hl]⟩
      · rename_i hl
        rw [if_neg hl]
        split at h
        · rename_i hn
          exact ⟨_, _, fun F2 k' => by simp only [opC, ho, hv, allocC]; rw [if_neg hl, if_pos hn]⟩
        · cases h
    · cases h
  | box t x =>
    simp only
    simp only [opC, ho] at h
    split at h
    · rename_i v hv
      unfold allocC at h
      split at h
      · rename_i hl
        rw [if_pos hl]
        exact ⟨v.cells, fun F2 G2 k' => by simp only [opC, ho, hv, allocC]; rw [if_pos hl]⟩
      · rename_i hl
        rw [if_neg hl]
        split at h
        · rename_i hn
          exact ⟨_, _, fun F2 k' => by simp only [opC, ho, hv, allocC]; rw [if_neg hl, if_pos hn]⟩
        · cases h
    · cases h
  | makeSlice t l c =>
    refine cls_g (x := opC P (fun _ _ _ _ => none) lo sand o env [] G (fun v _ G => some (v, G))) (fun F2 k' => ?_) h
    simp only [opC, ho]
    repeat' first
      | rfl
      | (rw [cond_bind]; rfl)
      | split
  | buildSlice t n ps =>
    refine cls_g (x := opC P (fun _ _ _ _ => none) lo sand o env [] G (fun v _ G => some (v, G))) (fun F2 k' => ?_) h
    simp only [opC, ho]
    repeat' first
      | rfl
      | split
  | convert s d x =>
    simp only
    split
    · refine cls_g (x := opC P (fun _ _ _ _ => none) lo sand o env [] G (fun v _ G => some (v, G))) (fun F2 k' => ?_) h
      simp only [opC, ho]
      split
      · rw [convC_param]
      · rfl
    · rename_i hsl
      simp only [Bool.or_eq_true, not_or, Bool.not_eq_true] at hsl
      refine cls_pure (x := opC P (fun _ _ _ _ => none) lo sand o env [] [] (fun v _ _ => some v)) (fun F2 G2 k' => ?_) h
      simp only [opC, ho]
      split
      · unfold convC
        have n1 : ∀ e, P.underlying s ≠ some (.slice e) := fun e he => by simp [sliceT, he] at hsl
        have n2 : ∀ e, P.underlying d ≠ some (.slice e) := fun e he => by simp [sliceT, he] at hsl
        repeat' first
          | rfl
          | (rename_i hh _; exact absurd hh (n2 _))
          | (rename_i hh; exact absurd hh (n2 _))
          | (rename_i hh _; exact absurd hh (n1 _))
          | (rename_i hh; exact absurd hh (n1 _))
          | (rename_i hh1 hh2; exact absurd hh1 (n2 _))
          | (rename_i hh1 hh2; exact absurd hh1 (n1 _))
          | (rename_i hh1 hh2 _; exact absurd hh1 (n2 _))
          | (rename_i hh1 hh2 _; exact absurd hh1 (n1 _))
          | split
      · rfl
  | slice t x l hh mx =>
    have key : ∀ F2 (k' : IV → List (List IV) → GH → Option R), opC P O lo sand o env F2 G k' = (opC P (fun _ _ _ _ => none) lo sand o env [] G (fun v _ _ => some v)).bind fun v => k' v F2 G := fun F2 k' => by
      simp only [opC, ho]
      repeat' first
        | rfl
        | (rw [cond_bind]; rfl)
        | split
    show ∃ v, ∀ F2, OpTo P O lo sand o env F2 G v F2 G
    rw [key] at h
    cases hx : opC P (fun _ _ _ _ => none) lo sand o env [] G (fun v _ _ => some v) with
    | none => rw [hx] at h; cases h
    | some v => exact ⟨v, fun F2 k' => by rw [key, hx]; rfl⟩
  | call c =>
    cases hcc : c.callee with
    | builtin b =>
      have gen : Cls P O lo sand o env F G .wg := by
        refine cls_g (x := opC P (fun _ _ _ _ => none) lo sand o env [] G (fun v _ G => some (v, G))) (fun F2 k' => ?_) h
        simp only [opC, ho, hcc]
        split
        · rw [builtinC_param]
        · rfl
      simp only [hcc]
      cases b with
      | len =>
        refine cls_pure (x := opC P (fun _ _ _ _ => none) lo sand o env [] [] (fun v _ _ => some v)) (fun F2 G2 k' => ?_) h
        simp only [opC, ho, hcc]
        split
        · unfold builtinC
          simp only
          repeat' first
            | rfl
            | split
        · rfl
      | max =>
        refine cls_pure (x := opC P (fun _ _ _ _ => none) lo sand o env [] [] (fun v _ _ => some v)) (fun F2 G2 k' => ?_) h
        simp only [opC, ho, hcc]
        split
        · unfold builtinC
          simp only
          split
          · rw [minmaxC_param]
          · rfl
        · rfl
      | min =>
        refine cls_pure (x := opC P (fun _ _ _ _ => none) lo sand o env [] [] (fun v _ _ => some v)) (fun F2 G2 k' => ?_) h
        simp only [opC, ho, hcc]
        split
        · unfold builtinC
          simp only
          split
          · rw [minmaxC_param]
          · rfl
        · rfl
      | _ => exact gen
    | value f =>
      simp only [opC, ho, hcc] at h
      simp only [hcc]
      split at h
      · rename_i args hargs
        split at h
        · rename_i fid caps hf
          split at h
          · rename_i hnl
            cases sand
            · simp only [Bool.false_eq_true, if_false] at h ⊢
              obtain ⟨v, G', hv⟩ := hN _ _ _ _ _ h
              rw [hv] at h
              refine ⟨v, G', fun F2 k' => ?_⟩
              simp only [opC, ho, hcc, hargs, hf, hnl, if_true, Bool.false_eq_true, if_false]
              rw [hv]
              exact castT_nat h _
            · simp only [if_true] at h ⊢
              obtain ⟨v, G', hv⟩ := hN _ _ _ _ _ h
              rw [hv] at h
              have h1 := castT_out h
              split at h1
              · rename_i hfl
                refine ⟨v, fun F2 k' => ?_⟩
                simp only [opC, ho, hcc, hargs, hf, hnl, if_true]
                rw [hv, castT_nat h]
                rw [if_pos hfl]
              · cases h1
          · cases h
        · cases h
      · cases h
    | invoke x n => simp only [opC, ho, hcc] at h; split at h <;> cases h
  | _ => simp [opC, ho] at h
end
end Go.LI
