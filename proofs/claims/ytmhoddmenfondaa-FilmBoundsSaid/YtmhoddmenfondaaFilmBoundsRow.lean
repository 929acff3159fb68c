/-
  FilmBounds returns true for every input, and leaves all as it was.
  Conditions: none beyond the row's own.
-/
import Derived.Test.YtmhoddmenfondaaFilmDr
import Derived.Test.YtmhoddmenfondaaFilmAw
import Derived.Test.YtmhoddmenfondaaRdZi
import Derived.Test.YtmhoddmenfondaaLiNo
import Derived.ChangeMaps5
import Derived.SizedLaws
namespace Go.Proofs.Ytmhoddmenfondaa.filmBounds
open Go.ChangeShapes Go.WideShapes Go.ChangeAt Go.RowKit Go.ChangeMaps
set_option linter.unusedVariables false
set_option maxRecDepth 100000

theorem own : ownKnob Try.prog.godebug = none := by kernel_rfl

theorem flat62 : LI.flatT Try.prog 5 62 = some LI.Film.dk := by kernel_rfl
theorem cells62 : Try.prog.cellsOf 62 = 9 := by kernel_rfl
theorem bytes62 : Try.prog.bytesOf 62 = 72 := by kernel_rfl

theorem law (H : Type) (ds : List (DataW H)) (hd : ds.length = Try.f7.params.size) : (Rows.filmBoundsSpec.fn H ds).results = [.lit (.bool true)] ∧ (Rows.filmBoundsSpec.fn H ds).args = ds ∧ (Rows.filmBoundsSpec.fn H ds).vars = [] := by
  match ds, hd with
  | [d1, d2, d3], _ => exact ⟨rfl, rfl, rfl⟩

theorem run {F N : Nat} (eF : F = 1152921504606846976) (eN : N = 50) {G : LI.GH} {sa : Option LI.GA} {n : Nat} {ds : List LI.Film.Drp} (hD : LI.Film.Drps G G.length sa n ds) (hn : n ≤ 140737488355328) (p0 p1 : Int) :
    LI.runL (R := LI.IV) Try.prog (fun _ _ => Option.none) LI.Film.lo0 F (N + 1) 7 [.int .i64 p0, .int .i64 p1, .slice sa n] G (fun v _ => some v) = some (.bool true) := by
  rw [LI.runL_none]
  have hAw : LI.Film.SAw (LI.runC (R := LI.IV) Try.prog LI.Film.lo0 F N) := by
    intro G k
    rw [eF, eN]
    exact LI.Film.awake60 G k
  obtain ⟨G', h⟩ := LI.Film.s7 (R := LI.IV) (F := F) (N := N) (by omega) (by omega) hAw hD ⟨by omega, by omega⟩ p0 p1 (fun v _ => some v)
  exact h

theorem walk {W : World} {v2 : Value} (p0 p1 : Int) (h2 : v2 = .slice Option.none 0 0 ∨ ∃ n cells a cap c t' fr, LI.SlArg W LI.Film.dk v2 n cells a cap c t' fr) :
    Calls Try.prog 7 #[.int .i64 p0, .int .i64 p1, v2] W fun e w' => e = .returned (.bool true) ∧ Below W.heap.size W w' := by
  have A1 := (LI.Args.nil (P := Try.prog) W).snoc (iv := .int .i64 p0) (v := .int .i64 p0) (by constructor) rfl
  have A2 := A1.snoc (iv := .int .i64 p1) (v := .int .i64 p1) (by constructor) rfl
  obtain ⟨m1, a0, n0, c0, G1, A3, S0, L0, B0, K0, _⟩ := A2.slice 62 h2
  obtain ⟨ds, hD⟩ := LI.Film.drps_of S0 L0 K0
  exact LI.callsA_of_run LI.Film.hm (LI.noCount_spec LI.Film.hn) LI.noLib_good Try.func7 rfl A3 (run rfl rfl hD B0 p0 p1)

theorem lifted (os : Os) (started : os.Started) (H : Type) (enc : TypeId × Value → H) :
    ReturnsInHanded {} Try.checked os 7 .any (Rows.filmBoundsSpec.pre6 enc Try.prog Try.f7 Rows.filmBoundsRow.domain false) (Rows.filmBoundsSpec.post enc Try.prog Try.f7 false true false false) := by
  refine returnsInHanded_of_change_sized (C := Try.checked) own started (by kernel_rfl) Try.func7
    (ChangeSpec.witness6 (enc := enc) (C := Try.checked) false ⟨#[], #[.int .i64 0, .int .i64 0, .slice Option.none 0 0], []⟩ 8 (by kernel_rfl) (by kernel_rfl) (by kernel_rfl) (by kernel_rfl)) ?_
  intro W base args ds gs before hval0 hW hcnd hsz _
  have hval : ∀ (j : Nat) t v, Try.f7.params[j]? = some t → args[j]? = some v → Value.okWide Try.prog W .any base t v := hval0
  have hW' := hW
  obtain ⟨p, q, hA0, hV, rfl, hfz, hnd⟩ := hW
  have hA : DataW.TrodAll enc Try.prog W 0 (fun _ => true) true Try.f7.params.toList args.toList ds p := hA0
  rw [Try.params7] at hA hval
  obtain ⟨v0, vs0, d0, ds0, p0, q0, hargs, rfl, rfl, h0, r0⟩ := trodAll_cons hA
  obtain ⟨v1, vs1, d1, ds1, p1, q1, rfl, rfl, rfl, h1, r1⟩ := trodAll_cons r0
  obtain ⟨v2, vs2, d2, ds2, p2, q2, rfl, rfl, rfl, h2, r2⟩ := trodAll_cons r1
  obtain ⟨rfl, rfl, rfl⟩ := trodAll_nil r2
  obtain rfl : args = #[v0, v1, v2] := by cases args; simp_all
  obtain ⟨x, rfl⟩ := okWide_int Try.underlying3 (hval 0 3 v0 rfl rfl)
  obtain ⟨y, rfl⟩ := okWide_int Try.underlying3 (hval 1 3 v1 rfl rfl)
  have o2 := LI.open_slice (P := Try.prog) Try.underlying40 flat62 cells62 (by decide) (by rw [bytes62]; decide) (hval 2 40 v2 rfl rfl) h2 (LI.wt_of hsz (j := 2) rfl rfl)
  clear hA0 hval0 hA hval h0 h1 h2
  refine (walk x y o2).mono fun e W' ⟨he, hb⟩ => ?_
  subst he
  exact ⟨_, rfl, LI.law_post hW' (by kernel_rfl) (by kernel_rfl) rfl Try.underlying4 rfl (law H) hb⟩

theorem over : Rows.filmBoundsRow.holds Try.pinned (OpenSpec.ofChange Rows.filmBoundsSpec) :=
  OpenClaim.holds_of_wide 7 Try.f7 rfl rfl rfl rfl rfl rfl rfl ⟨rfl, rfl, rfl, rfl, rfl⟩ rfl rfl rfl rfl rfl (by kernel_rfl) Try.func7 (by kernel_rfl)
    (of_decide_eq_true (by kernel_rfl)) (by unfold Func.isWrapper; first | (rw [if_pos (by decide +kernel)]; kernel_rfl) | (rw [if_neg (by decide +kernel)]; exact ⟨rfl, rfl⟩))
    (fun os started H enc _ => lifted os started H enc)

/-- FilmBounds: true for every input. -/
theorem proved : Rows.FilmBoundsSaid := over
end Go.Proofs.Ytmhoddmenfondaa.filmBounds
