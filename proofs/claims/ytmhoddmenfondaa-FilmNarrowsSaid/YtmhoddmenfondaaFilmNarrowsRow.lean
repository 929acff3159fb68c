/-
  FilmNarrows returns true for every input, and leaves all as it was.
  Conditions: none beyond the row's own.
-/
import Derived.Test.YtmhoddmenfondaaFilmNw
import Derived.Test.YtmhoddmenfondaaLiAll2
import Derived.ChangeMaps5
namespace Go.Proofs.Ytmhoddmenfondaa.filmNarrows
open Go.ChangeShapes Go.WideShapes Go.ChangeAt Go.RowKit Go.ChangeMaps
set_option linter.unusedVariables false
set_option maxRecDepth 100000

theorem own : ownKnob Try.prog.godebug = none := by kernel_rfl

theorem law (H : Type) (ds : List (DataW H)) (hd : ds.length = Try.f4.params.size) : (Rows.filmNarrowsSpec.fn H ds).results = [.lit (.bool true)] ∧ (Rows.filmNarrowsSpec.fn H ds).args = ds ∧ (Rows.filmNarrowsSpec.fn H ds).vars = [] := by
  match ds, hd with
  | [d0, d1], _ => exact ⟨rfl, rfl, rfl⟩

theorem walk (x0 : Nat) (x1 : Nat) (u0 : x0 < 2 ^ 64) (u1 : x1 < 2 ^ 64) (w : World) :
    Calls Try.prog 4 #[.float .f64 x0, .float .f64 x1] w fun e w' => e = .returned (.bool true) ∧ Below w.heap.size w w' :=
  LI.calls_of_run LI.Film.hm (LI.noCount_spec LI.Film.hn) Try.func4 rfl (LI.Film.narrows_ok x0 x1 u0 u1) rfl
    (fun m => LI.arel_cons (by constructor) (LI.arel_cons (by constructor) (LI.arel_nil m))) w

theorem lifted (os : Os) (started : os.Started) (H : Type) (enc : TypeId × Value → H) :
    ReturnsInHanded {} Try.checked os 4 .any (Rows.filmNarrowsSpec.pre6 enc Try.prog Try.f4 Rows.filmNarrowsRow.domain false) (Rows.filmNarrowsSpec.post enc Try.prog Try.f4 false true false false) := by
  refine returnsInHanded_of_change (C := Try.checked) own started (by kernel_rfl) Try.func4
    (ChangeSpec.witness6 (enc := enc) (C := Try.checked) false ⟨#[], #[.float .f64 0, .float .f64 0], []⟩ 8 (by kernel_rfl) (by kernel_rfl) (by kernel_rfl) (by kernel_rfl)) ?_
  intro W base args ds gs before hval0 hW hcnd _
  have hval : ∀ (j : Nat) t v, Try.f4.params[j]? = some t → args[j]? = some v → Value.okWide Try.prog W .any base t v := hval0
  have hW' := hW
  obtain ⟨p, q, hA0, hV, rfl, hfz, hnd⟩ := hW
  have hA : DataW.TrodAll enc Try.prog W 0 (fun _ => true) true Try.f4.params.toList args.toList ds p := hA0
  rw [Try.params4] at hA hval
  obtain ⟨v0, vs0, d0, ds0, p0, q0, hargs, rfl, rfl, h0, r0⟩ := trodAll_cons hA
  obtain ⟨v1, vs1, d1, ds1, p1, q1, rfl, rfl, rfl, h1, r1⟩ := trodAll_cons r0
  obtain ⟨rfl, rfl, rfl⟩ := trodAll_nil r1
  obtain rfl : args = #[v0, v1] := by cases args; simp_all
  obtain ⟨x0, rfl, u0⟩ := LI.okWide_f64 Try.underlying33 (hval 0 33 v0 rfl rfl)
  obtain ⟨x1, rfl, u1⟩ := LI.okWide_f64 Try.underlying33 (hval 1 33 v1 rfl rfl)
  clear hA0 hval0 hA hval h0 h1
  refine (walk x0 x1 u0 u1 W).mono fun e W' ⟨he, hb⟩ => ?_
  subst he
  exact ⟨_, rfl, LI.law_post hW' (by kernel_rfl) (by kernel_rfl) rfl Try.underlying4 rfl (law H) hb⟩

theorem over : Rows.filmNarrowsRow.holds Try.pinned (OpenSpec.ofChange Rows.filmNarrowsSpec) :=
  OpenClaim.holds_of_wide 4 Try.f4 rfl rfl rfl rfl rfl rfl rfl ⟨rfl, rfl, rfl, rfl, rfl⟩ rfl rfl rfl rfl rfl (by kernel_rfl) Try.func4 (by kernel_rfl)
    (of_decide_eq_true (by kernel_rfl)) (by unfold Func.isWrapper; first | (rw [if_pos (by decide +kernel)]; kernel_rfl) | (rw [if_neg (by decide +kernel)]; exact ⟨rfl, rfl⟩))
    (fun os started H enc _ => lifted os started H enc)

/-- FilmNarrows: true for every input. -/
theorem proved : Rows.FilmNarrowsSaid := over
end Go.Proofs.Ytmhoddmenfondaa.filmNarrows
