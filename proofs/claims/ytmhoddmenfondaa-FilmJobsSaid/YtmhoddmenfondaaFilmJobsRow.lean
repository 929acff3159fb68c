/-
  FilmJobs returns true for every input, and leaves all as it was.
  Conditions: none beyond the row's own.
-/
import Derived.Test.YtmhoddmenfondaaFilmM
import Derived.Test.YtmhoddmenfondaaLiV
import Derived.Test.YtmhoddmenfondaaLiZr
import Derived.ChangeMaps5
namespace Go.Proofs.Ytmhoddmenfondaa.filmJobs
open Go.ChangeShapes Go.WideShapes Go.ChangeAt Go.RowKit Go.ChangeMaps
set_option linter.unusedVariables false
set_option maxRecDepth 100000

theorem own : ownKnob Try.prog.godebug = none := by kernel_rfl

theorem law (H : Type) (ds : List (DataW H)) (hd : ds.length = Try.f3.params.size) : (Rows.filmJobsSpec.fn H ds).results = [.lit (.bool true)] ∧ (Rows.filmJobsSpec.fn H ds).args = ds ∧ (Rows.filmJobsSpec.fn H ds).vars = [] := by
  match ds, hd with
  | [d0, d1, d2], _ => exact ⟨rfl, rfl, rfl⟩

theorem walk (x0 : Int) (x1 : Int) (x2 : Int) (l0 : -9223372036854775808 ≤ x0) (u0 : x0 < 9223372036854775808) (l1 : -9223372036854775808 ≤ x1) (u1 : x1 < 9223372036854775808) (l2 : -9223372036854775808 ≤ x2) (u2 : x2 < 9223372036854775808) (w : World) :
    Calls Try.prog 3 #[.int .i64 x0, .int .i64 x1, .int .i64 x2] w fun e w' => e = .returned (.bool true) ∧ Below w.heap.size w w' :=
  LI.calls_of_run LI.Film.hm (LI.noCount_spec LI.Film.hn) Try.func3 rfl (LI.Film.s3 x0 x1 x2 u2) rfl
    (fun m => LI.arel_cons (by constructor) (LI.arel_cons (by constructor) (LI.arel_cons (by constructor) (LI.arel_nil m)))) w

theorem lifted (os : Os) (started : os.Started) (H : Type) (enc : TypeId × Value → H) :
    ReturnsInHanded {} Try.checked os 3 .any (Rows.filmJobsSpec.pre6 enc Try.prog Try.f3 Rows.filmJobsRow.domain false) (Rows.filmJobsSpec.post enc Try.prog Try.f3 false true false false) := by
  refine returnsInHanded_of_change (C := Try.checked) own started (by kernel_rfl) Try.func3
    (ChangeSpec.witness6 (enc := enc) (C := Try.checked) false ⟨#[], #[.int .i64 0, .int .i64 0, .int .i64 0], []⟩ 8 (by kernel_rfl) (by kernel_rfl) (by kernel_rfl) (by kernel_rfl)) ?_
  intro W base args ds gs before hval0 hW hcnd _
  have hval : ∀ (j : Nat) t v, Try.f3.params[j]? = some t → args[j]? = some v → Value.okWide Try.prog W .any base t v := hval0
  have hW' := hW
  obtain ⟨p, q, hA0, hV, rfl, hfz, hnd⟩ := hW
  have hA : DataW.TrodAll enc Try.prog W 0 (fun _ => true) true Try.f3.params.toList args.toList ds p := hA0
  rw [Try.params3] at hA hval
  obtain ⟨v0, vs0, d0, ds0, p0, q0, hargs, rfl, rfl, h0, r0⟩ := trodAll_cons hA
  obtain ⟨v1, vs1, d1, ds1, p1, q1, rfl, rfl, rfl, h1, r1⟩ := trodAll_cons r0
  obtain ⟨v2, vs2, d2, ds2, p2, q2, rfl, rfl, rfl, h2, r2⟩ := trodAll_cons r1
  obtain ⟨rfl, rfl, rfl⟩ := trodAll_nil r2
  obtain rfl : args = #[v0, v1, v2] := by cases args; simp_all
  obtain ⟨x0, rfl, l0, u0⟩ := LI.okWide_i64 Try.underlying3 (hval 0 3 v0 rfl rfl)
  obtain ⟨x1, rfl, l1, u1⟩ := LI.okWide_i64 Try.underlying3 (hval 1 3 v1 rfl rfl)
  obtain ⟨x2, rfl, l2, u2⟩ := LI.okWide_i64 Try.underlying3 (hval 2 3 v2 rfl rfl)
  clear hA0 hval0 hA hval h0 h1 h2
  refine (walk x0 x1 x2 l0 u0 l1 u1 l2 u2 W).mono fun e W' ⟨he, hb⟩ => ?_
  subst he
  exact ⟨_, rfl, LI.law_post hW' (by kernel_rfl) (by kernel_rfl) rfl Try.underlying4 rfl (law H) hb⟩

theorem over : Rows.filmJobsRow.holds Try.pinned (OpenSpec.ofChange Rows.filmJobsSpec) :=
  OpenClaim.holds_of_wide 3 Try.f3 rfl rfl rfl rfl rfl rfl rfl ⟨rfl, rfl, rfl, rfl, rfl⟩ rfl rfl rfl rfl rfl (by kernel_rfl) Try.func3 (by kernel_rfl)
    (of_decide_eq_true (by kernel_rfl)) (by unfold Func.isWrapper; first | (rw [if_pos (by decide +kernel)]; kernel_rfl) | (rw [if_neg (by decide +kernel)]; exact ⟨rfl, rfl⟩))
    (fun os started H enc _ => lifted os started H enc)

/-- FilmJobs: true for every input. -/
theorem proved : Rows.FilmJobsSaid := over
end Go.Proofs.Ytmhoddmenfondaa.filmJobs
