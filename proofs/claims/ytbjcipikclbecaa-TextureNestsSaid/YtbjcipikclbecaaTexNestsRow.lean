/-
  TextureNests returns true for every input, and leaves all as it was.
  Conditions: none beyond the row's own.
-/
import Derived.Test.YtbjcipikclbecaaTvJ
import Derived.Test.YtbjcipikclbecaaLiNo
import Derived.ChangeMaps5
import Derived.SizedLaws
namespace Go.Proofs.Ytbjcipikclbecaa.textureNests
open Go.ChangeShapes Go.WideShapes Go.ChangeAt Go.RowKit Go.ChangeMaps
set_option linter.unusedVariables false
set_option maxRecDepth 100000

theorem own : ownKnob Try.prog.godebug = none := by kernel_rfl
theorem arg36 : LI.argN Try.prog 6 36 = some 7 := by kernel_rfl
theorem arg37 : LI.argN Try.prog 2 37 = some 4 := by kernel_rfl

theorem agg37 : LI.aggB Try.prog 37 = true := by kernel_rfl
theorem cells37 : LI.cellsB Try.prog 37 [32, 32, 32, 32] = true := by kernel_rfl
theorem four {W : World} {r : Reach} {b : Nat} {v : Value} (h : Value.okWide Try.prog W r b 37 v) : ∃ cs, v = .agg cs := by
  obtain ⟨cs, h1, _⟩ := LI.agg_shape agg37 cells37 h
  exact ⟨cs, h1⟩

theorem law (H : Type) (ds : List (DataW H)) (hd : ds.length = Try.f4.params.size) : (Rows.textureNestsSpec.fn H ds).results = [.lit (.bool true)] ∧ (Rows.textureNestsSpec.fn H ds).args = ds ∧ (Rows.textureNestsSpec.fn H ds).vars = [] := by
  match ds, hd with
  | [d1, d2], _ => exact ⟨rfl, rfl, rfl⟩

theorem run {F : Nat} (eF : F = 1152921504606846976) {G : LI.GH} {cs ds : List LI.IV} (hx : LI.Opn Try.prog G 6 36 cs) (hy : LI.Opn Try.prog G 2 37 ds) :
    LI.runC (R := LI.IV) Try.prog LI.Film.lo0 F 51 4 [.agg cs, .agg ds] G (fun v _ => some v) = some (.bool true) := by
  have hAw : LI.Film.SQAw (LI.runC (R := LI.IV) Try.prog LI.Film.lo0 F 50) := by
    intro G k
    rw [eF]
    exact LI.Film.awakeT G k
  obtain ⟨s0, s1, s2, s3, rfl, _⟩ := LI.Film.opn_four (d := 0) hy
  obtain ⟨G', h⟩ := LI.Film.s4n (R := LI.IV) (F := F) (n := 50) (by omega) (by decide) hAw cs _ G (LI.Film.opn_where (d := 0) hx) ⟨s0, s1, s2, s3, rfl⟩
  exact h _

theorem walk {H : Type} {enc : TypeId × Value → H} {W : World} {c0 c1 : Array Value} {d0 d1 : DataW H} {p0 p1 : List MemPlace}
    (h0 : DataW.Trod enc Try.prog W 0 (fun _ => true) true 36 (.agg c0) d0 p0) (h1 : DataW.Trod enc Try.prog W 0 (fun _ => true) true 37 (.agg c1) d1 p1) (w0 : ∀ n ∈ d0.weights Try.prog 36, n ≤ reachBytes) (w1 : ∀ n ∈ d1.weights Try.prog 37, n ≤ reachBytes) :
    Calls Try.prog 4 #[.agg c0, .agg c1] W fun e w' => e = .returned (.bool true) ∧ Below W.heap.size W w' := by
  obtain ⟨m1, G1, x, A1, o1⟩ := (LI.Args.nil (P := Try.prog) W).anyAgg arg36 h0 w0
  obtain ⟨m2, G2, y, A2, o2⟩ := A1.anyAgg arg37 h1 w1
  refine LI.callsA_of_run LI.Film.hm (LI.noCount_spec LI.Film.hn) LI.noLib_good Try.func4 rfl A2 ?_ (lo := LI.Film.lo0) (fuel := 1152921504606846976) (n := 51) (b := true)
  rw [LI.runL_none]
  exact run rfl (LI.Opn.grow G2 _ _ _ o1) o2

theorem lifted (os : Os) (started : os.Started) (H : Type) (enc : TypeId × Value → H) :
    ReturnsInHanded {} Try.checked os 4 .any (Rows.textureNestsSpec.pre6 enc Try.prog Try.f4 Rows.textureNestsRow.domain false) (Rows.textureNestsSpec.post enc Try.prog Try.f4 false true false false) := by
  refine returnsInHanded_of_change_sized (C := Try.checked) own started (by kernel_rfl) Try.func4
    (ChangeSpec.witness6 (enc := enc) (C := Try.checked) false ⟨#[], #[.agg #[.slice none 0 0, .slice none 0 0, .int .i64 0, .float .f64 0, .float .f64 0, .float .f64 0, .float .f64 0], .agg #[.float .f64 0, .float .f64 0, .float .f64 0, .float .f64 0]], []⟩ 8 (by kernel_rfl) (by kernel_rfl) (by kernel_rfl) (by kernel_rfl)) ?_
  intro W base args ds gs before hval0 hW hcnd hsz _
  have hval : ∀ (j : Nat) t v, Try.f4.params[j]? = some t → args[j]? = some v → Value.okWide Try.prog W .any base t v := hval0
  have hW' := hW
  obtain ⟨p, q, hA0, hV, rfl, hfz, hnd⟩ := hW
  have hA : DataW.TrodAll enc Try.prog W 0 (fun _ => true) true Try.f4.params.toList args.toList ds p := hA0
  rw [Try.params4] at hA hval
  obtain ⟨v0, vs0, d0, ds0, p0, q0, hargs, rfl, rfl, h0, r0⟩ := trodAll_cons hA
  obtain ⟨v1, vs1, d1, ds1, p1, q1, rfl, rfl, rfl, h1, r1⟩ := trodAll_cons r0
  obtain ⟨rfl, rfl, rfl⟩ := trodAll_nil r1
  obtain rfl : args = #[v0, v1] := by cases args; simp_all
  obtain ⟨c0, rfl, _⟩ := okWide_struct Try.underlying36 (hval 0 36 v0 rfl rfl)
  obtain ⟨c1, rfl⟩ := four (hval 1 37 v1 rfl rfl)
  have w0 := LI.wt_of hsz (j := 0) rfl rfl
  have w1 := LI.wt_of hsz (j := 1) rfl rfl
  clear hA0 hval0 hA hval
  refine (walk h0 h1 w0 w1).mono fun e W' ⟨he, hb⟩ => ?_
  subst he
  exact ⟨_, rfl, LI.law_post hW' (by kernel_rfl) (by kernel_rfl) rfl Try.underlying4 rfl (law H) hb⟩

theorem over : Rows.textureNestsRow.holds Try.pinned (OpenSpec.ofChange Rows.textureNestsSpec) :=
  OpenClaim.holds_of_wide 4 Try.f4 rfl rfl rfl rfl rfl rfl rfl ⟨rfl, rfl, rfl, rfl, rfl⟩ rfl rfl rfl rfl rfl (by kernel_rfl) Try.func4 (by kernel_rfl)
    (of_decide_eq_true (by kernel_rfl)) (by unfold Func.isWrapper; first | (rw [if_pos (by decide +kernel)]; kernel_rfl) | (rw [if_neg (by decide +kernel)]; exact ⟨rfl, rfl⟩))
    (fun os started H enc _ => lifted os started H enc)

/-- TextureNests: true for every input. -/
theorem proved : Rows.TextureNestsSaid := over
end Go.Proofs.Ytbjcipikclbecaa.textureNests
