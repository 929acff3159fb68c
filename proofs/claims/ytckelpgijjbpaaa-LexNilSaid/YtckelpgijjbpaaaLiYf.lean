/- What code comes to does not hang on what follows. -/
import Derived.Test.YtckelpgijjbpaaaLiYe
set_option linter.unusedVariables false
namespace Go.LI
open Go Go.RowKit

section
variable {R : Type} {P : Program} {O : Ora R} {lo : List Nat}

theorem storeC_nat {t : TypeId} {x v : IV} {F : List (List IV)} {G : GH} {k : List (List IV) → GH → Option R} {r : R} (h : storeC P t x v F G k = some r) : ∃ F' G', ∀ k' : List (List IV) → GH → Option R, storeC P t x v F G k' = k' F' G' := by
  rw [storeC_param] at h
  cases hs : storeC P t x v F G (fun F G => some (F, G)) with
  | none => rw [hs] at h; cases h
  | some p => exact ⟨p.1, p.2, fun k' => by rw [storeC_param, hs]; rfl⟩

theorem region_nat (hN : NatO O) {fuel id : Nat} {ops : Array Oper} {draw : Bool} {env : List IV} {F : List (List IV)} {G : GH} {k : Ex → List IV → List (List IV) → GH → Option R} {r : R} (h : codeC P O lo fuel (.region id ops draw) env F G k = some r) :
    ∃ env' F' G', ∀ k' : Ex → List IV → List (List IV) → GH → Option R, codeC P O lo fuel (.region id ops draw) env F G k' = k' .normal env' F' G' := by
  simp only [codeC] at h
  cases draw
  · simp only [Bool.false_eq_true, if_false] at h
    obtain ⟨env', F', G', h1⟩ := ops_nat hN h
    exact ⟨env', F', G', fun k' => by simp only [codeC, Bool.false_eq_true, if_false]; exact h1 _⟩
  · simp only [if_true] at h
    split at h
    · rename_i hd
      obtain ⟨env1, F1, G1, h1⟩ := ops_nat hN h
      rw [h1] at h
      obtain ⟨env2, F2, G2, h2⟩ := ops_nat hN h
      exact ⟨env2, F2, G2, fun k' => by simp only [codeC, if_true]; rw [if_pos hd, h1, h2]⟩
    · rename_i hd
      split at h
      · rename_i hs
        split at h
        · rename_i t x v ty pos after guard hop
          split at h
          · rename_i b i hx
            obtain ⟨env1, F1, G1, h1⟩ := ops_nat hN h
            rw [h1] at h
            split at h
            · rename_i b' i' v' hx1 hv1
              split at h
              · rename_i hbi
                obtain ⟨F2, G2, h2⟩ := storeC_nat h
                rw [h2] at h
                obtain ⟨env3, F3, G3, h3⟩ := ops_nat hN h
                exact ⟨env3, F2, G2, fun k' => by
                  simp only [codeC, if_true]
                  rw [if_neg hd, if_pos hs, hop]
                  simp only
                  rw [hx]
                  simp only
                  rw [h1, hx1, hv1]
                  simp only
                  rw [if_pos hbi, h2, h3]⟩
              · cases h
            · cases h
          · cases h
        · cases h
      · rename_i hs
        obtain ⟨env1, F1, G1, h1⟩ := ops_nat hN h
        rw [h1] at h
        split at h
        · rename_i hD
          exact ⟨env1, F1, G1, fun k' => by
            simp only [codeC, if_true]
            rw [if_neg hd, if_neg hs, h1, if_pos hD]⟩
        · cases h

/-- So code comes to its end. -/
def CodeTo (P : Program) (O : Ora R) (lo : List Nat) (fuel : Nat) (c : Code) (env : List IV) (F : List (List IV)) (G : GH) : Prop :=
  ∃ e env' F' G', ∀ k : Ex → List IV → List (List IV) → GH → Option R, codeC P O lo fuel c env F G k = k e env' F' G'

theorem stepN_some {n : Nat} {x : Option R} {r : R} (h : stepN n x = some r) : ∃ m, n = m + 1 ∧ x = some r := by
  cases n with
  | zero => cases h
  | succ m => exact ⟨m, rfl, h⟩

theorem code_nat (hN : NatO O) {fuel : Nat} : ∀ (c : Code) {env : List IV} {F : List (List IV)} {G : GH} {k : Ex → List IV → List (List IV) → GH → Option R} {r : R}, codeC P O lo fuel c env F G k = some r → CodeTo P O lo fuel c env F G
  | .skip, env, F, G, k, r, h => ⟨.normal, env, F, G, fun k' => rfl⟩
  | .region id ops draw, env, F, G, k, r, h => by
    obtain ⟨env', F', G', h1⟩ := region_nat hN h
    exact ⟨.normal, env', F', G', h1⟩
  | .seq x y, env, F, G, k, r, h => by
    simp only [codeC] at h
    by_cases hc : cutS x y = true
    · rw [if_pos hc] at h
      cases hmq : maskQ lo (4 * headId y + 2)
      · rw [hmq, cond_false] at h
        obtain ⟨n, rfl, h⟩ := stepN_some h
        obtain ⟨e, env1, F1, G1, h1⟩ := code_nat hN x h
        rw [h1] at h
        cases e with
        | normal =>
          obtain ⟨e2, env2, F2, G2, h2⟩ := code_nat hN y h
          exact ⟨e2, env2, F2, G2, fun k' => by simp only [codeC]; rw [if_pos hc, hmq, cond_false]; simp only [stepN]; rw [h1]; exact h2 k'⟩
        | exit id => exact ⟨.exit id, env1, F1, G1, fun k' => by simp only [codeC]; rw [if_pos hc, hmq, cond_false]; simp only [stepN]; rw [h1]⟩
        | ret => exact ⟨.ret, env1, F1, G1, fun k' => by simp only [codeC]; rw [if_pos hc, hmq, cond_false]; simp only [stepN]; rw [h1]⟩
      · rw [hmq, cond_true] at h
        obtain ⟨n, rfl, h⟩ := stepN_some h
        obtain ⟨e, env1, F1, G1, h1⟩ := code_nat hN x h
        rw [h1] at h
        simp only [kpD] at h
        cases e with
        | normal =>
          obtain ⟨e2, env2, F2, G2, h2⟩ := code_nat hN y h
          exact ⟨e2, env2, F2, G2, fun k' => by simp only [codeC]; rw [if_pos hc, hmq, cond_true]; simp only [stepN]; rw [h1]; simp only [kpD]; exact h2 k'⟩
        | exit id => exact ⟨.exit id, _, _, G1, fun k' => by simp only [codeC]; rw [if_pos hc, hmq, cond_true]; simp only [stepN]; rw [h1]; rfl⟩
        | ret => exact ⟨.ret, _, _, G1, fun k' => by simp only [codeC]; rw [if_pos hc, hmq, cond_true]; simp only [stepN]; rw [h1]; rfl⟩
    · rw [if_neg hc] at h
      obtain ⟨e, env1, F1, G1, h1⟩ := code_nat hN x h
      rw [h1] at h
      cases e with
      | normal =>
        obtain ⟨e2, env2, F2, G2, h2⟩ := code_nat hN y h
        exact ⟨e2, env2, F2, G2, fun k' => by simp only [codeC]; rw [if_neg hc, h1]; exact h2 k'⟩
      | exit id => exact ⟨.exit id, env1, F1, G1, fun k' => by simp only [codeC]; rw [if_neg hc, h1]⟩
      | ret => exact ⟨.ret, env1, F1, G1, fun k' => by simp only [codeC]; rw [if_neg hc, h1]⟩
  | .cond c x y, env, F, G, k, r, h => by
    simp only [codeC] at h
    split at h
    · rename_i t ht
      cases t
      · obtain ⟨e, env1, F1, G1, h1⟩ := code_nat hN y h
        exact ⟨e, env1, F1, G1, fun k' => by simp only [codeC]; rw [ht]; exact h1 k'⟩
      · obtain ⟨e, env1, F1, G1, h1⟩ := code_nat hN x h
        exact ⟨e, env1, F1, G1, fun k' => by simp only [codeC]; rw [ht]; exact h1 k'⟩
    · cases h
  | .block id c, env, F, G, k, r, h => by
    simp only [codeC] at h
    obtain ⟨e, env1, F1, G1, h1⟩ := code_nat hN c h
    cases e with
    | normal => exact ⟨.normal, env1, F1, G1, fun k' => by simp only [codeC]; rw [h1]⟩
    | exit j =>
      by_cases hj : j = id
      · exact ⟨.normal, env1, F1, G1, fun k' => by simp only [codeC]; rw [h1]; simp only; rw [if_pos hj]⟩
      · exact ⟨.exit j, env1, F1, G1, fun k' => by simp only [codeC]; rw [h1]; simp only; rw [if_neg hj]⟩
    | ret => exact ⟨.ret, env1, F1, G1, fun k' => by simp only [codeC]; rw [h1]⟩
  | .loop c, env, F, G, k, r, h => by
    simp only [codeC] at h
    cases hmq : maskQ lo (4 * headId c)
    · rw [hmq, cond_false] at h
      have key : ∀ (n : Nat) {env : List IV} {F : List (List IV)} {G : GH}, loopN (fun env F G k => codeC P O lo fuel c env F G k) n env F G k = some r →
          ∃ e env' F' G', ∀ k' : Ex → List IV → List (List IV) → GH → Option R, loopN (fun env F G k => codeC P O lo fuel c env F G k) n env F G k' = k' e env' F' G' := by
        intro n
        induction n with
        | zero => intro env F G h; simp [loopN] at h
        | succ n ih =>
          intro env F G h
          simp only [loopN] at h
          obtain ⟨e, env1, F1, G1, h1⟩ := code_nat hN c h
          rw [h1] at h
          cases e with
          | normal =>
            obtain ⟨e2, env2, F2, G2, h2⟩ := ih h
            exact ⟨e2, env2, F2, G2, fun k' => by simp only [loopN]; rw [h1]; exact h2 k'⟩
          | exit j => exact ⟨.exit j, env1, F1, G1, fun k' => by simp only [loopN]; rw [h1]⟩
          | ret => exact ⟨.ret, env1, F1, G1, fun k' => by simp only [loopN]; rw [h1]⟩
      obtain ⟨e, env1, F1, G1, h1⟩ := key fuel h
      exact ⟨e, env1, F1, G1, fun k' => by simp only [codeC]; rw [hmq, cond_false]; exact h1 k'⟩
    · rw [hmq, cond_true] at h
      have key : ∀ (n : Nat) {env : List IV} {F : List (List IV)} {G : GH}, loopN (fun env F G k => codeC P O lo fuel c env F G (kpD lo (4 * headId c) F.length k)) n env F G k = some r →
          ∃ e env' F' G', ∀ k' : Ex → List IV → List (List IV) → GH → Option R, loopN (fun env F G k => codeC P O lo fuel c env F G (kpD lo (4 * headId c) F.length k)) n env F G k' = k' e env' F' G' := by
        intro n
        induction n with
        | zero => intro env F G h; simp [loopN] at h
        | succ n ih =>
          intro env F G h
          simp only [loopN] at h
          obtain ⟨e, env1, F1, G1, h1⟩ := code_nat hN c h
          rw [h1] at h
          simp only [kpD] at h
          cases e with
          | normal =>
            obtain ⟨e2, env2, F2, G2, h2⟩ := ih h
            exact ⟨e2, env2, F2, G2, fun k' => by simp only [loopN]; rw [h1]; simp only [kpD]; exact h2 k'⟩
          | exit j => exact ⟨.exit j, _, _, G1, fun k' => by simp only [loopN]; rw [h1]; rfl⟩
          | ret => exact ⟨.ret, _, _, G1, fun k' => by simp only [loopN]; rw [h1]; rfl⟩
      obtain ⟨e, env1, F1, G1, h1⟩ := key fuel h
      exact ⟨e, env1, F1, G1, fun k' => by simp only [codeC]; rw [hmq, cond_true]; exact h1 k'⟩
  | .exit id, env, F, G, k, r, h => ⟨.exit id, env, F, G, fun k' => rfl⟩
  | .ret, env, F, G, k, r, h => ⟨.ret, env, F, G, fun k' => rfl⟩
  | .rangeFunc _ _ _ _, env, F, G, k, r, h => by simp [codeC] at h
  | .scope _, env, F, G, k, r, h => by simp [codeC] at h
  | .label _, env, F, G, k, r, h => by simp [codeC] at h
  | .goto _, env, F, G, k, r, h => by simp [codeC] at h
  | .refuse _, env, F, G, k, r, h => by simp [codeC] at h

theorem resL_nat {env : List IV} {F : List (List IV)} {G : GH} : ∀ {rs : List ResultVar} {k : List IV → Option R} {r : R}, resL P env F G rs k = some r → ∃ vs, ∀ k' : List IV → Option R, resL P env F G rs k' = k' vs
  | [], k, r, h => ⟨[], fun k' => rfl⟩
  | .tmp t :: rs, k, r, h => by
    simp only [resL] at h
    split at h
    · rename_i v hv
      obtain ⟨vs, h1⟩ := resL_nat h
      exact ⟨v :: vs, fun k' => by simp only [resL]; rw [hv]; exact h1 _⟩
    · cases h
  | .cell a t :: rs, k, r, h => by
    simp only [resL] at h
    split at h
    · rename_i x hx
      rw [loadC_param] at h
      cases hl : loadC P t x F G some with
      | none => rw [hl] at h; cases h
      | some v =>
        rw [hl] at h
        obtain ⟨vs, h1⟩ := resL_nat h
        exact ⟨v :: vs, fun k' => by simp only [resL]; rw [hx]; simp only; rw [loadC_param, hl]; exact h1 _⟩
    · cases h

theorem resC_nat {fn : Func} {env : List IV} {F : List (List IV)} {G : GH} {k : IV → GH → Option R} {r : R} (h : resC P fn env F G k = some r) : ∃ v, ∀ k' : IV → GH → Option R, resC P fn env F G k' = k' v G := by
  unfold resC at h
  obtain ⟨vs, h1⟩ := resL_nat h
  rw [h1] at h
  split at h
  · rename_i v
    split at h
    · rename_i hn
      exact ⟨v, fun k' => by unfold resC; rw [h1]; simp only; rw [if_pos hn]⟩
    · cases h
  · rename_i hne
    split at h
    · rename_i hn
      refine ⟨.tuple vs, fun k' => ?_⟩
      unfold resC
      rw [h1]
      split
      · rename_i v; exact absurd rfl (hne v)
      · rw [if_pos hn]
    · cases h

theorem extern_nat {fn : Func} {args : List IV} {G : GH} {k : IV → GH → Option R} {r : R} (h : externC fn args G k = some r) : ∃ v, ∀ k' : IV → GH → Option R, externC fn args G k' = k' v G := by
  have key : ∀ k' : IV → GH → Option R, externC fn args G k' = (externC fn args G fun v _ => some v).bind fun v => k' v G := by
    intro k'
    have ib : ∀ (c : Prop) [Decidable c] (x y : Option R) (x' y' : Option IV), x = x'.bind (fun v => k' v G) → y = y'.bind (fun v => k' v G) → (if c then x else y) = (if c then x' else y').bind (fun v => k' v G) := by
      intro c _ x y x' y' h1 h2
      split <;> assumption
    unfold externC
    repeat' first
      | rfl
      | refine ib _ _ _ _ _ ?_ ?_
      | split
  rw [key] at h
  cases hx : externC fn args G fun v _ => some v with
  | none => rw [hx] at h; cases h
  | some v => exact ⟨v, fun k' => by rw [key, hx]; rfl⟩

theorem body_nat (hN : NatO O) {fuel : Nat} {fn : Func} {args : List IV} {G : GH} {k : IV → GH → Option R} {r : R} (h : bodyC P O lo fuel fn args G k = some r) : ∃ v G', ∀ k' : IV → GH → Option R, bodyC P O lo fuel fn args G k' = k' v G' := by
  unfold bodyC at h
  split at h
  · rename_i hb
    obtain ⟨v, h1⟩ := extern_nat h
    exact ⟨v, G, fun k' => by unfold bodyC; rw [hb]; exact h1 k'⟩
  · rename_i c hc
    obtain ⟨e, env', F', G', h1⟩ := code_nat hN c h
    rw [h1] at h
    cases e with
    | exit id => cases h
    | normal =>
      obtain ⟨v, h2⟩ := resC_nat h
      exact ⟨v, G', fun k' => by unfold bodyC; rw [hc]; simp only; rw [h1]; exact h2 k'⟩
    | ret =>
      obtain ⟨v, h2⟩ := resC_nat h
      exact ⟨v, G', fun k' => by unfold bodyC; rw [hc]; simp only; rw [h1]; exact h2 k'⟩

theorem run_nat (lo : Nat → List Nat) (fuel : Nat) : ∀ n : Nat, NatO (R := R) (runC P lo fuel n)
  | 0 => fun f args G k r h => by cases h
  | n + 1 => fun f args G k r h => by
    simp only [runC] at h
    split at h
    · rename_i fn hf
      by_cases hp : (lo f).contains pureMark = true
      · rw [if_pos hp] at h
        split at h
        · rename_i hfl
          obtain ⟨v, G', h1⟩ := body_nat (run_nat lo fuel n) h
          rw [h1] at h
          split at h
          · rename_i hv
            exact ⟨v, G, fun k' => by simp only [runC]; rw [hf]; simp only; rw [if_pos hp, if_pos hfl, h1, if_pos hv]⟩
          · cases h
        · cases h
      · rw [if_neg hp] at h
        obtain ⟨v, G', h1⟩ := body_nat (run_nat lo fuel n) h
        exact ⟨v, G', fun k' => by simp only [runC]; rw [hf]; simp only; rw [if_neg hp]; exact h1 k'⟩
    · cases h
end
end Go.LI
