/- Operations that stand apart change places. -/
import Derived.Test.YtckelpgijjbpaaaLiYb
set_option linter.unusedVariables false
namespace Go.LI
open Go Go.RowKit

section
variable {R : Type} {P : Program} {O : Ora R} {lo : List Nat} {sand : Bool}

theorem ClsG.mono {T T' : List (List IV) → GH → IV → List (List IV) → GH → Prop} (h : ∀ F G v F' G', T F G v F' G' → T' F G v F' G') {F : List (List IV)} {G : GH} : ∀ {f : Fp}, ClsG T F G f → ClsG T' F G f
  | .none, ⟨v, q⟩ => ⟨v, fun F2 G2 => h _ _ _ _ _ (q F2 G2)⟩
  | .rf _, ⟨v, q⟩ => ⟨v, fun F2 G2 e => h _ _ _ _ _ (q F2 G2 e)⟩
  | .rg, ⟨v, q⟩ => ⟨v, fun F2 => h _ _ _ _ _ (q F2)⟩
  | .wf _, ⟨v, cs, hb, q⟩ => ⟨v, cs, hb, fun F2 G2 e => h _ _ _ _ _ (q F2 G2 e)⟩
  | .nf, ⟨cs, q⟩ => ⟨cs, fun F2 G2 => h _ _ _ _ _ (q F2 G2)⟩
  | .wg, ⟨v, G', q⟩ => ⟨v, G', fun F2 => h _ _ _ _ _ (q F2)⟩
  | .bad, _ => trivial

theorem boxNe_ne {n : Option Nat} {b : Nat} (h : boxNe n b = true) : ∃ m, n = some m ∧ m ≠ b := by
  cases n with
  | none => cases h
  | some m => exact ⟨m, rfl, by simpa [boxNe] using h⟩

/-- Two steps whose footprints go together. -/
theorem comm2 {Tx Ty : List (List IV) → GH → IV → List (List IV) → GH → Prop} {F : List (List IV)} {G : GH} {fx fy : Fp} {nx ny : Option Nat} (hx : ClsG Tx F G fx)
    (hy : ∀ v1 F1 G1, Tx F G v1 F1 G1 → ClsG Ty F1 G1 fy) (hc : fpOk nx ny fx fy = true)
    (hbx : fx = .nf → ∀ cs, Tx F G (.loc F.length 0) (F ++ [cs]) G → ∀ n, nx = some n → n = F.length)
    (hby : fy = .nf → ∀ v1 F1 G1 cs, Tx F G v1 F1 G1 → Ty F1 G1 (.loc F1.length 0) (F1 ++ [cs]) G1 → ∀ n, ny = some n → n = F1.length) :
    ∃ v1 F1 G1 v2 F2 G2 Fa Ga, Tx F G v1 F1 G1 ∧ Ty F1 G1 v2 F2 G2 ∧ Ty F G v2 Fa Ga ∧ Tx Fa Ga v1 F2 G2 := by
  have app : ∀ {F : List (List IV)} {cs : List IV} {b : Nat}, F.length ≠ b → (F ++ [cs])[b]? = F[b]? := fun {F cs b} h => by
    rcases Nat.lt_or_ge b F.length with h1 | h1
    · rw [List.getElem?_append_left h1]
    · rw [List.getElem?_eq_none (by simp; omega), List.getElem?_eq_none h1]
  cases fx with
  | bad => cases fy <;> cases hc
  | none =>
    obtain ⟨v, q⟩ := hx
    have h := hy _ _ _ (q F G)
    cases fy with
    | bad => cases hc
    | none => obtain ⟨u, p⟩ := h; exact ⟨v, F, G, u, F, G, F, G, q F G, p _ _, p _ _, q _ _⟩
    | rf b => obtain ⟨u, p⟩ := h; exact ⟨v, F, G, u, F, G, F, G, q F G, p _ _ rfl, p _ _ rfl, q _ _⟩
    | rg => obtain ⟨u, p⟩ := h; exact ⟨v, F, G, u, F, G, F, G, q F G, p _, p _, q _ _⟩
    | wf b => obtain ⟨u, cs, hb, p⟩ := h; exact ⟨v, F, G, u, _, G, _, G, q F G, p _ _ rfl, p _ _ rfl, q _ _⟩
    | nf => obtain ⟨cs, p⟩ := h; exact ⟨v, F, G, _, _, G, _, G, q F G, p _ _, p _ _, q _ _⟩
    | wg => obtain ⟨u, G', p⟩ := h; exact ⟨v, F, G, u, F, G', F, G', q F G, p _, p _, q _ _⟩
  | rf b =>
    obtain ⟨v, q⟩ := hx
    have q0 := q F G rfl
    have h := hy _ _ _ q0
    cases fy with
    | bad => cases hc
    | none => obtain ⟨u, p⟩ := h; exact ⟨v, F, G, u, F, G, F, G, q0, p _ _, p _ _, q0⟩
    | rf b => obtain ⟨u, p⟩ := h; exact ⟨v, F, G, u, F, G, F, G, q0, p _ _ rfl, p _ _ rfl, q0⟩
    | rg => obtain ⟨u, p⟩ := h; exact ⟨v, F, G, u, F, G, F, G, q0, p _, p _, q0⟩
    | wf b' =>
      obtain ⟨u, cs, hb, p⟩ := h
      have hne : b ≠ b' := by simpa [fpOk] using hc
      exact ⟨v, F, G, u, _, G, _, G, q0, p _ _ rfl, p _ _ rfl, q _ _ (List.getElem?_set_ne (Ne.symm hne))⟩
    | nf =>
      obtain ⟨cs, p⟩ := h
      obtain ⟨n, h1, h2⟩ := boxNe_ne (by simpa [fpOk] using hc)
      have := hby rfl _ _ _ cs q0 (p _ _) n h1
      exact ⟨v, F, G, _, _, G, _, G, q0, p _ _, p _ _, q _ _ (app (by omega))⟩
    | wg => obtain ⟨u, G', p⟩ := h; exact ⟨v, F, G, u, F, G', F, G', q0, p _, p _, q _ _ rfl⟩
  | rg =>
    obtain ⟨v, q⟩ := hx
    have q0 := q F
    have h := hy _ _ _ q0
    cases fy with
    | bad => cases hc
    | none => obtain ⟨u, p⟩ := h; exact ⟨v, F, G, u, F, G, F, G, q0, p _ _, p _ _, q0⟩
    | rf b => obtain ⟨u, p⟩ := h; exact ⟨v, F, G, u, F, G, F, G, q0, p _ _ rfl, p _ _ rfl, q0⟩
    | rg => obtain ⟨u, p⟩ := h; exact ⟨v, F, G, u, F, G, F, G, q0, p _, p _, q0⟩
    | wf b' => obtain ⟨u, cs, hb, p⟩ := h; exact ⟨v, F, G, u, _, G, _, G, q0, p _ _ rfl, p _ _ rfl, q _⟩
    | nf => obtain ⟨cs, p⟩ := h; exact ⟨v, F, G, _, _, G, _, G, q0, p _ _, p _ _, q _⟩
    | wg => cases hc
  | wf b =>
    obtain ⟨v, cs, hb, q⟩ := hx
    have q0 := q F G rfl
    have h := hy _ _ _ q0
    cases fy with
    | bad => cases hc
    | none => obtain ⟨u, p⟩ := h; exact ⟨v, _, G, u, _, G, F, G, q0, p _ _, p _ _, q0⟩
    | rf b' =>
      obtain ⟨u, p⟩ := h
      have hne : b ≠ b' := by simpa [fpOk] using hc
      exact ⟨v, _, G, u, _, G, F, G, q0, p _ _ rfl, p _ _ (List.getElem?_set_ne hne).symm, q0⟩
    | rg => obtain ⟨u, p⟩ := h; exact ⟨v, _, G, u, _, G, F, G, q0, p _, p _, q0⟩
    | wf b' =>
      obtain ⟨u, cs', hb', p⟩ := h
      have hne : b ≠ b' := by simpa [fpOk] using hc
      exact ⟨v, _, G, u, _, G, _, G, q0, p _ _ rfl, p _ _ (List.getElem?_set_ne hne).symm, by
        rw [List.set_comm _ _ hne]; exact q _ _ (List.getElem?_set_ne (Ne.symm hne))⟩
    | nf =>
      obtain ⟨cs', p⟩ := h
      obtain ⟨n, h1, h2⟩ := boxNe_ne (by simpa [fpOk] using hc)
      have hq := hby rfl _ _ _ cs' q0 (p _ _) n h1
      refine ⟨v, _, G, _, _, G, F ++ [cs'], G, q0, p _ _, ?_, ?_⟩
      · rw [List.length_set]; exact p _ _
      · rw [← List.set_append_left _ _ hb]; exact q _ _ (app (by rw [List.length_set] at hq; omega))
    | wg => obtain ⟨u, G', p⟩ := h; exact ⟨v, _, G, u, _, G', F, G', q0, p _, p _, q _ _ rfl⟩
  | nf =>
    obtain ⟨cs, q⟩ := hx
    have q0 := q F G
    have h := hy _ _ _ q0
    cases fy with
    | bad => cases hc
    | none => obtain ⟨u, p⟩ := h; exact ⟨_, _, G, u, _, G, F, G, q0, p _ _, p _ _, q0⟩
    | rf b =>
      obtain ⟨u, p⟩ := h
      obtain ⟨n, h1, h2⟩ := boxNe_ne (by simpa [fpOk] using hc)
      have hq := hbx rfl cs q0 n h1
      exact ⟨_, _, G, u, _, G, F, G, q0, p _ _ rfl, p _ _ (app (by omega)).symm, q0⟩
    | rg => obtain ⟨u, p⟩ := h; exact ⟨_, _, G, u, _, G, F, G, q0, p _, p _, q0⟩
    | wf b =>
      obtain ⟨u, cs', hb, p⟩ := h
      obtain ⟨n, h1, h2⟩ := boxNe_ne (by simpa [fpOk] using hc)
      have hq := hbx rfl cs q0 n h1
      have hb' : b < F.length := by simp at hb; omega
      refine ⟨_, _, G, u, _, G, F.set b cs', G, q0, p _ _ rfl, p _ _ (app (by omega)).symm, ?_⟩
      rw [List.set_append_left _ _ hb']
      have := q (F.set b cs') G
      rwa [List.length_set] at this
    | nf => cases hc
    | wg => obtain ⟨u, G', p⟩ := h; exact ⟨_, _, G, u, _, G', F, G', q0, p _, p _, q _ _⟩
  | wg =>
    obtain ⟨v, G1, q⟩ := hx
    have q0 := q F
    have h := hy _ _ _ q0
    cases fy with
    | bad => cases hc
    | none => obtain ⟨u, p⟩ := h; exact ⟨v, F, G1, u, F, G1, F, G, q0, p _ _, p _ _, q0⟩
    | rf b => obtain ⟨u, p⟩ := h; exact ⟨v, F, G1, u, F, G1, F, G, q0, p _ _ rfl, p _ _ rfl, q0⟩
    | rg => cases hc
    | wf b' => obtain ⟨u, cs, hb, p⟩ := h; exact ⟨v, F, G1, u, _, G1, _, G, q0, p _ _ rfl, p _ _ rfl, q _⟩
    | nf => obtain ⟨cs, p⟩ := h; exact ⟨v, F, G1, _, _, G1, _, G, q0, p _ _, p _ _, q _⟩
    | wg => cases hc
end
end Go.LI
