/-
  FilmMerges returns true for every input, and leaves all as it was.
  Conditions: none beyond the row's own.
-/
import Derived.Test.YtmhoddmenfondaaFilmDr
import Derived.Test.YtmhoddmenfondaaFilmAw
import Derived.Test.YtmhoddmenfondaaRdM4
import Derived.Test.YtmhoddmenfondaaLiNo
import Derived.ChangeMaps5
import Derived.SizedLaws
namespace Go.Proofs.Ytmhoddmenfondaa.filmMerges
open Go.ChangeShapes Go.WideShapes Go.ChangeAt Go.RowKit Go.ChangeMaps
set_option linter.unusedVariables false
set_option maxRecDepth 100000

theorem own : ownKnob Try.prog.godebug = none := by kernel_rfl

theorem agg30 : LI.aggB Try.prog 30 = true := by kernel_rfl
theorem cells30 : LI.cellsB Try.prog 30 [3, 3, 3, 3] = true := by kernel_rfl
theorem flat62 : LI.flatT Try.prog 5 62 = some LI.Film.dk := by kernel_rfl
theorem cells62 : Try.prog.cellsOf 62 = 9 := by kernel_rfl
theorem bytes62 : Try.prog.bytesOf 62 = 72 := by kernel_rfl

theorem arr4 {cs : Array Value} (h : cs.size = 4) : ∃ c0 c1 c2 c3, cs = #[c0, c1, c2, c3] := by
  obtain ⟨l⟩ := cs
  match l, h with
  | [c0, c1, c2, c3], _ => exact ⟨c0, c1, c2, c3, rfl⟩
theorem law (H : Type) (ds : List (DataW H)) (hd : ds.length = Try.f5.params.size) : (Rows.filmMergesSpec.fn H ds).results = [.lit (.bool true)] ∧ (Rows.filmMergesSpec.fn H ds).args = ds ∧ (Rows.filmMergesSpec.fn H ds).vars = [] := by
  match ds, hd with
  | [d1, d2, d3], _ => exact ⟨rfl, rfl, rfl⟩

theorem run {F N : Nat} (eF : F = 1152921504606846976) (eN : N = 50) {G : LI.GH} {sa sb : Option LI.GA} {n m : Nat} {ds es : List LI.Film.Drp} (hD : LI.Film.Drps G G.length sa n ds) (hE : LI.Film.Drps G G.length sb m es) (hn : n ≤ 140737488355328) (hm : m ≤ 140737488355328) (x0 y0 x1 y1 : Int) :
    LI.runL (R := LI.IV) Try.prog (fun _ _ => Option.none) LI.Film.lo0 F (N + 1) 5 [.slice sa n, .slice sb m, .agg [.int .i64 x0, .int .i64 y0, .int .i64 x1, .int .i64 y1]] G (fun v _ => some v) = some (.bool true) := by
  rw [LI.runL_none]
  have hAw : LI.Film.SAw (LI.runC (R := LI.IV) Try.prog LI.Film.lo0 F N) := by
    intro G k
    rw [eF, eN]
    exact LI.Film.awake60 G k
  obtain ⟨G', h⟩ := LI.Film.s5 (R := LI.IV) (F := F) (N := N) (by omega) (by omega) hAw hD hE ⟨by omega, by omega⟩ ⟨by omega, by omega⟩ x0 y0 x1 y1 (fun v _ => some v)
  exact h

theorem walk {W : World} {v0 v1 : Value} (x0 y0 x1 y1 : Int) (h0 : v0 = .slice Option.none 0 0 ∨ ∃ n cells a cap c t' fr, LI.SlArg W LI.Film.dk v0 n cells a cap c t' fr) (h1 : v1 = .slice Option.none 0 0 ∨ ∃ n cells a cap c t' fr, LI.SlArg W LI.Film.dk v1 n cells a cap c t' fr) :
    Calls Try.prog 5 #[v0, v1, .agg #[.int .i64 x0, .int .i64 y0, .int .i64 x1, .int .i64 y1]] W fun e w' => e = .returned (.bool true) ∧ Below W.heap.size W w' := by
  obtain ⟨m1, a0, n0, c0, G1, A1, S0, L0, B0, K0, _⟩ := (LI.Args.nil (P := Try.prog) W).slice 62 h0
  obtain ⟨m2, a1, n1, c1, G2, A2, S1, L1, B1, K1, _⟩ := A1.slice 62 h1
  have A3 := A2.snoc (iv := .agg [.int .i64 x0, .int .i64 y0, .int .i64 x1, .int .i64 y1]) (v := .agg #[.int .i64 x0, .int .i64 y0, .int .i64 x1, .int .i64 y1]) (LI.vrel_agg (LI.arel_cons (by constructor) (LI.arel_cons (by constructor) (LI.arel_cons (by constructor) (LI.arel_cons (by constructor) (LI.arel_nil m2)))))) rfl
  obtain ⟨ds, hD⟩ := LI.Film.drps_of (S0.grow G2) L0 K0
  obtain ⟨es, hE⟩ := LI.Film.drps_of S1 L1 K1
  exact LI.callsA_of_run LI.Film.hm (LI.noCount_spec LI.Film.hn) LI.noLib_good Try.func5 rfl A3 (run rfl rfl hD hE B0 B1 x0 y0 x1 y1)

theorem lifted (os : Os) (started : os.Started) (H : Type) (enc : TypeId × Value → H) :
    ReturnsInHanded {} Try.checked os 5 .any (Rows.filmMergesSpec.pre6 enc Try.prog Try.f5 Rows.filmMergesRow.domain false) (Rows.filmMergesSpec.post enc Try.prog Try.f5 false true false false) := by
  refine returnsInHanded_of_change_sized (C := Try.checked) own started (by kernel_rfl) Try.func5
    (ChangeSpec.witness6 (enc := enc) (C := Try.checked) false ⟨#[], #[.slice Option.none 0 0, .slice Option.none 0 0, .agg #[.int .i64 0, .int .i64 0, .int .i64 0, .int .i64 0]], []⟩ 8 (by kernel_rfl) (by kernel_rfl) (by kernel_rfl) (by kernel_rfl)) ?_
  intro W base args ds gs before hval0 hW hcnd hsz _
  have hval : ∀ (j : Nat) t v, Try.f5.params[j]? = some t → args[j]? = some v → Value.okWide Try.prog W .any base t v := hval0
  have hW' := hW
  obtain ⟨p, q, hA0, hV, rfl, hfz, hnd⟩ := hW
  have hA : DataW.TrodAll enc Try.prog W 0 (fun _ => true) true Try.f5.params.toList args.toList ds p := hA0
  rw [Try.params5] at hA hval
  obtain ⟨v0, vs0, d0, ds0, p0, q0, hargs, rfl, rfl, h0, r0⟩ := trodAll_cons hA
  obtain ⟨v1, vs1, d1, ds1, p1, q1, rfl, rfl, rfl, h1, r1⟩ := trodAll_cons r0
  obtain ⟨v2, vs2, d2, ds2, p2, q2, rfl, rfl, rfl, h2, r2⟩ := trodAll_cons r1
  obtain ⟨rfl, rfl, rfl⟩ := trodAll_nil r2
  obtain rfl : args = #[v0, v1, v2] := by cases args; simp_all
  have o0 := LI.open_slice (P := Try.prog) Try.underlying40 flat62 cells62 (by decide) (by rw [bytes62]; decide) (hval 0 40 v0 rfl rfl) h0 (LI.wt_of hsz (j := 0) rfl rfl)
  have o1 := LI.open_slice (P := Try.prog) Try.underlying40 flat62 cells62 (by decide) (by rw [bytes62]; decide) (hval 1 40 v1 rfl rfl) h1 (LI.wt_of hsz (j := 1) rfl rfl)
  have hh := hval 2 30 v2 rfl rfl
  have hsh := LI.agg_shape (P := Try.prog) (t := 30) (ts := [3, 3, 3, 3]) agg30 cells30 hh
  obtain ⟨cs, hcs, hs, hc⟩ := hsh
  subst hcs
  obtain ⟨c0, c1, c2, c3, hcc⟩ := arr4 hs
  subst hcc
  obtain ⟨x0, rfl⟩ : ∃ n, c0 = .int .i64 n := by have := hc 0 3 c0 rfl rfl; unfold LI.leafOk at this; rw [Try.underlying3] at this; exact this
  obtain ⟨y0, rfl⟩ : ∃ n, c1 = .int .i64 n := by have := hc 1 3 c1 rfl rfl; unfold LI.leafOk at this; rw [Try.underlying3] at this; exact this
  obtain ⟨x1, rfl⟩ : ∃ n, c2 = .int .i64 n := by have := hc 2 3 c2 rfl rfl; unfold LI.leafOk at this; rw [Try.underlying3] at this; exact this
  obtain ⟨y1, rfl⟩ : ∃ n, c3 = .int .i64 n := by have := hc 3 3 c3 rfl rfl; unfold LI.leafOk at this; rw [Try.underlying3] at this; exact this
  clear hA0 hval0 hA hval h0 h1 h2
  refine (walk x0 y0 x1 y1 o0 o1).mono fun e W' ⟨he, hb⟩ => ?_
  subst he
  exact ⟨_, rfl, LI.law_post hW' (by kernel_rfl) (by kernel_rfl) rfl Try.underlying4 rfl (law H) hb⟩

theorem over : Rows.filmMergesRow.holds Try.pinned (OpenSpec.ofChange Rows.filmMergesSpec) :=
  OpenClaim.holds_of_wide 5 Try.f5 rfl rfl rfl rfl rfl rfl rfl ⟨rfl, rfl, rfl, rfl, rfl⟩ rfl rfl rfl rfl rfl (by kernel_rfl) Try.func5 (by kernel_rfl)
    (of_decide_eq_true (by kernel_rfl)) (by unfold Func.isWrapper; first | (rw [if_pos (by decide +kernel)]; kernel_rfl) | (rw [if_neg (by decide +kernel)]; exact ⟨rfl, rfl⟩))
    (fun os started H enc _ => lifted os started H enc)

/-- FilmMerges: true for every input. -/
theorem proved : Rows.FilmMergesSaid := over
end Go.Proofs.Ytmhoddmenfondaa.filmMerges
