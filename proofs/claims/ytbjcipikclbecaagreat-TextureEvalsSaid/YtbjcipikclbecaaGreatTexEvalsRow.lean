/-
  TextureEvals returns true for every input, and zaI all as it was.
  Conditions: none beyond the row's own.
-/
import Derived.Test.YtbjcipikclbecaaGreatRmK1
import Derived.Test.YtbjcipikclbecaaGreatLiNo
import Derived.ChangeMaps5
import Derived.SizedLaws
namespace Go.Proofs.YtbjcipikclbecaaGreat.textureEvals
open Go.ChangeShapes Go.WideShapes Go.ChangeAt Go.RowKit Go.ChangeMaps
set_option linter.unusedVariables false
set_option maxRecDepth 100000

theorem own : ownKnob Tryz.prog.godebug = none := by kernel_rfl
theorem arg28 : LI.argN Tryz.prog 6 28 = some 7 := by kernel_rfl

theorem law (H : Type) (ds : List (DataW H)) (hd : ds.length = Tryz.f3.params.size) : (Rows.textureEvalsSpec.fn H ds).results = [.lit (.bool true)] ∧ (Rows.textureEvalsSpec.fn H ds).args = ds ∧ (Rows.textureEvalsSpec.fn H ds).vars = [] := by
  match ds, hd with
  | [d1], _ => exact ⟨rfl, rfl, rfl⟩

theorem run {F : Nat} (eF : F = 1152921504606846976) {G : LI.GH} {cs : List LI.IV} (hx : LI.Opn Tryz.prog G 6 28 cs) :
    LI.runC (R := LI.IV) Tryz.prog LI.Film.lo0 F 51 3 [.agg cs] G (fun v _ => some v) = some (.bool true) := by
  have hAw : LI.Film.SQAw (LI.runC (R := LI.IV) Tryz.prog LI.Film.lo0 F 50) := by
    intro G k
    rw [eF]
    exact LI.Film.awakeT G k
  obtain ⟨G', h⟩ := LI.Film.s3v (R := LI.IV) (F := F) (n := 50) (by omega) (by decide) hAw cs G (LI.Film.opn_where (d := 0) hx) (fun a nn rest e => by subst e; exact LI.Film.opn_where_cut (d := 0) hx)
  exact h _

theorem walk {H : Type} {enc : TypeId × Value → H} {W : World} {c0 : Array Value} {d0 : DataW H} {p0 : List MemPlace}
    (h0 : DataW.Trod enc Tryz.prog W 0 (fun _ => true) true 28 (.agg c0) d0 p0) (w0 : ∀ n ∈ d0.weights Tryz.prog 28, n ≤ reachBytes) :
    Calls Tryz.prog 3 #[.agg c0] W fun e w' => e = .returned (.bool true) ∧ Below W.heap.size W w' := by
  obtain ⟨m1, G1, x, A1, o1⟩ := (LI.Args.nil (P := Tryz.prog) W).anyAgg arg28 h0 w0
  refine LI.callsA_of_run LI.Film.hm (LI.noCount_spec LI.Film.hn) LI.noLib_good Tryz.func3 rfl A1 ?_ (lo := LI.Film.lo0) (fuel := 1152921504606846976) (n := 51) (b := true)
  rw [LI.runL_none]
  exact run rfl o1

theorem lifted (os : Os) (started : os.Started) (H : Type) (enc : TypeId × Value → H) :
    ReturnsInHanded {} Tryz.checked os 3 .any (Rows.textureEvalsSpec.pre6 enc Tryz.prog Tryz.f3 Rows.textureEvalsRow.domain false) (Rows.textureEvalsSpec.post enc Tryz.prog Tryz.f3 false true false false) := by
  refine returnsInHanded_of_change_sized (C := Tryz.checked) own started (by kernel_rfl) Tryz.func3
    (ChangeSpec.witness6 (enc := enc) (C := Tryz.checked) false ⟨#[], #[.agg #[.slice none 0 0, .slice none 0 0, .int .i64 0, .float .f64 0, .float .f64 0, .float .f64 0, .float .f64 0]], []⟩ 8 (by kernel_rfl) (by kernel_rfl) (by kernel_rfl) (by kernel_rfl)) ?_
  intro W base args ds gs before hval0 hW hcnd hsz _
  have hval : ∀ (j : Nat) t v, Tryz.f3.params[j]? = some t → args[j]? = some v → Value.okWide Tryz.prog W .any base t v := hval0
  have hW' := hW
  obtain ⟨p, q, hA0, hV, rfl, hfz, hnd⟩ := hW
  have hA : DataW.TrodAll enc Tryz.prog W 0 (fun _ => true) true Tryz.f3.params.toList args.toList ds p := hA0
  rw [Tryz.params3] at hA hval
  obtain ⟨v0, vs0, d0, ds0, p0, q0, hargs, rfl, rfl, h0, r0⟩ := trodAll_cons hA
  obtain ⟨rfl, rfl, rfl⟩ := trodAll_nil r0
  obtain rfl : args = #[v0] := by cases args; simp_all
  obtain ⟨c0, rfl, _⟩ := okWide_struct Tryz.underlying28 (hval 0 28 v0 rfl rfl)
  have w0 := LI.wt_of hsz (j := 0) rfl rfl
  clear hA0 hval0 hA hval
  refine (walk h0 w0).mono fun e W' ⟨he, hb⟩ => ?_
  subst he
  exact ⟨_, rfl, LI.law_post hW' (by kernel_rfl) (by kernel_rfl) rfl Tryz.underlying4 rfl (law H) hb⟩

theorem over : Rows.textureEvalsRow.holds Tryz.pinned (OpenSpec.ofChange Rows.textureEvalsSpec) :=
  OpenClaim.holds_of_wide 3 Tryz.f3 rfl rfl rfl rfl rfl rfl rfl ⟨rfl, rfl, rfl, rfl, rfl⟩ rfl rfl rfl rfl rfl (by kernel_rfl) Tryz.func3 (by kernel_rfl)
    (of_decide_eq_true (by kernel_rfl)) (by unfold Func.isWrapper; first | (rw [if_pos (by decide +kernel)]; kernel_rfl) | (rw [if_neg (by decide +kernel)]; exact ⟨rfl, rfl⟩))
    (fun os started H enc _ => lifted os started H enc)

/-- TextureEvals: true for every input. -/
theorem proved : Rows.TextureEvalsSaid := over
end Go.Proofs.YtbjcipikclbecaaGreat.textureEvals
