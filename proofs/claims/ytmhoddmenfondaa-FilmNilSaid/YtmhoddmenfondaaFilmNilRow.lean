/-
  FilmNil returns true for every input, and leaves all as it was.
  Conditions: none beyond the row's own.
-/
import Derived.Test.YtmhoddmenfondaaFilmB
import Derived.Test.YtmhoddmenfondaaLiV
import Derived.Test.YtmhoddmenfondaaLiZ
import Derived.ChangeMaps5
namespace Go.Proofs.Ytmhoddmenfondaa.filmNil
open Go.ChangeShapes Go.WideShapes Go.ChangeAt Go.RowKit Go.ChangeMaps
set_option linter.unusedVariables false
set_option maxRecDepth 100000

theorem own : ownKnob Try.prog.godebug = none := by kernel_rfl

theorem agg30 : LI.aggB Try.prog 30 = true := by kernel_rfl
theorem cells30 : LI.cellsB Try.prog 30 [3, 3, 3, 3] = true := by kernel_rfl

theorem arr4 {cs : Array Value} (h : cs.size = 4) : ∃ c0 c1 c2 c3, cs = #[c0, c1, c2, c3] := by
  obtain ⟨l⟩ := cs
  match l, h with
  | [c0, c1, c2, c3], _ => exact ⟨c0, c1, c2, c3, rfl⟩
theorem law (H : Type) (ds : List (DataW H)) (hd : ds.length = Try.f9.params.size) : (Rows.filmNilSpec.fn H ds).results = [.lit (.bool true)] ∧ (Rows.filmNilSpec.fn H ds).args = ds ∧ (Rows.filmNilSpec.fn H ds).vars = [] := by
  match ds, hd with
  | [d1, d2, d3], _ => exact ⟨rfl, rfl, rfl⟩

theorem walk (x y x0 y0 x1 y1 : Int) (w : World) :
    Calls Try.prog 9 #[.int .i64 x, .int .i64 y, .agg #[.int .i64 x0, .int .i64 y0, .int .i64 x1, .int .i64 y1]] w fun e w' => e = .returned (.bool true) ∧ Below w.heap.size w w' :=
  LI.calls_of_run LI.Film.hm (LI.noCount_spec LI.Film.hn) Try.func9 rfl (LI.Film.s9 x y x0 y0 x1 y1 [] _) rfl
    (fun m => LI.arel_cons (by constructor) (LI.arel_cons (by constructor) (LI.arel_cons (LI.vrel_agg (LI.arel_cons (by constructor) (LI.arel_cons (by constructor) (LI.arel_cons (by constructor) (LI.arel_cons (by constructor) (LI.arel_nil m)))))) (LI.arel_nil m)))) w

theorem lifted (os : Os) (started : os.Started) (H : Type) (enc : TypeId × Value → H) :
    ReturnsInHanded {} Try.checked os 9 .any (Rows.filmNilSpec.pre6 enc Try.prog Try.f9 Rows.filmNilRow.domain false) (Rows.filmNilSpec.post enc Try.prog Try.f9 false true false false) := by
  refine returnsInHanded_of_change (C := Try.checked) own started (by kernel_rfl) Try.func9
    (ChangeSpec.witness6 (enc := enc) (C := Try.checked) false ⟨#[], #[.int .i64 0, .int .i64 0, .agg #[.int .i64 0, .int .i64 0, .int .i64 0, .int .i64 0]], []⟩ 8 (by kernel_rfl) (by kernel_rfl) (by kernel_rfl) (by kernel_rfl)) ?_
  intro W base args ds gs before hval0 hW hcnd _
  have hval : ∀ (j : Nat) t v, Try.f9.params[j]? = some t → args[j]? = some v → Value.okWide Try.prog W .any base t v := hval0
  have hW' := hW
  obtain ⟨p, q, hA0, hV, rfl, hfz, hnd⟩ := hW
  have hA : DataW.TrodAll enc Try.prog W 0 (fun _ => true) true Try.f9.params.toList args.toList ds p := hA0
  rw [Try.params9] at hA hval
  obtain ⟨v0, vs0, d0, ds0, p0, q0, hargs, rfl, rfl, h0, r0⟩ := trodAll_cons hA
  obtain ⟨v1, vs1, d1, ds1, p1, q1, rfl, rfl, rfl, h1, r1⟩ := trodAll_cons r0
  obtain ⟨v2, vs2, d2, ds2, p2, q2, rfl, rfl, rfl, h2, r2⟩ := trodAll_cons r1
  obtain ⟨rfl, rfl, rfl⟩ := trodAll_nil r2
  obtain rfl : args = #[v0, v1, v2] := by cases args; simp_all
  obtain ⟨x, rfl⟩ := okWide_int Try.underlying3 (hval 0 3 v0 rfl rfl)
  obtain ⟨y, rfl⟩ := okWide_int Try.underlying3 (hval 1 3 v1 rfl rfl)
  have hh := hval 2 30 v2 rfl rfl
  have hsh := LI.agg_shape (P := Try.prog) (t := 30) (ts := [3, 3, 3, 3]) agg30 cells30 hh
  obtain ⟨cs, hcs, hs, hc⟩ := hsh
  subst hcs
  obtain ⟨c0, c1, c2, c3, hcc⟩ := arr4 hs
  subst hcc
  obtain ⟨x0, rfl⟩ : ∃ n, c0 = .int .i64 n := by have := hc 0 3 c0 rfl rfl; unfold LI.leafOk at this; rw [Try.underlying3] at this; exact this
  obtain ⟨y0, rfl⟩ : ∃ n, c1 = .int .i64 n := by have := hc 1 3 c1 rfl rfl; unfold LI.leafOk at this; rw [Try.underlying3] at this; exact this
  obtain ⟨x1, rfl⟩ : ∃ n, c2 = .int .i64 n := by have := hc 2 3 c2 rfl rfl; unfold LI.leafOk at this; rw [Try.underlying3] at this; exact this
  obtain ⟨y1, rfl⟩ : ∃ n, c3 = .int .i64 n := by have := hc 3 3 c3 rfl rfl; unfold LI.leafOk at this; rw [Try.underlying3] at this; exact this
  clear hA0 hval0 hA hval h0 h1 h2
  refine (walk x y x0 y0 x1 y1 W).mono fun e W' ⟨he, hb⟩ => ?_
  subst he
  exact ⟨_, rfl, LI.law_post hW' (by kernel_rfl) (by kernel_rfl) rfl Try.underlying4 rfl (law H) hb⟩

theorem over : Rows.filmNilRow.holds Try.pinned (OpenSpec.ofChange Rows.filmNilSpec) :=
  OpenClaim.holds_of_wide 9 Try.f9 rfl rfl rfl rfl rfl rfl rfl ⟨rfl, rfl, rfl, rfl, rfl⟩ rfl rfl rfl rfl rfl (by kernel_rfl) Try.func9 (by kernel_rfl)
    (of_decide_eq_true (by kernel_rfl)) (by unfold Func.isWrapper; first | (rw [if_pos (by decide +kernel)]; kernel_rfl) | (rw [if_neg (by decide +kernel)]; exact ⟨rfl, rfl⟩))
    (fun os started H enc _ => lifted os started H enc)

/-- FilmNil: true for every input. -/
theorem proved : Rows.FilmNilSaid := over
end Go.Proofs.Ytmhoddmenfondaa.filmNil
