/-
  TextureScales returns true for every input, and leaves all as it was.
  Conditions: none beyond the row's own.
-/
import Derived.Test.YtbjcipikclbecaaTvM
import Derived.Test.YtbjcipikclbecaaLiNo
import Derived.ChangeMaps5
import Derived.SizedLaws
namespace Go.Proofs.Ytbjcipikclbecaa.textureScales
open Go.ChangeShapes Go.WideShapes Go.ChangeAt Go.RowKit Go.ChangeMaps
set_option linter.unusedVariables false
set_option maxRecDepth 100000

theorem own : ownKnob Try.prog.godebug = none := by kernel_rfl
theorem arg36 : LI.argN Try.prog 6 36 = some 7 := by kernel_rfl

theorem law (H : Type) (ds : List (DataW H)) (hd : ds.length = Try.f6.params.size) : (Rows.textureScalesSpec.fn H ds).results = [.lit (.bool true)] ∧ (Rows.textureScalesSpec.fn H ds).args = ds ∧ (Rows.textureScalesSpec.fn H ds).vars = [] := by
  match ds, hd with
  | [d1], _ => exact ⟨rfl, rfl, rfl⟩

theorem run {F : Nat} (eF : F = 1152921504606846976) {G : LI.GH} {cs : List LI.IV} (hx : LI.Opn Try.prog G 6 36 cs) :
    LI.runC (R := LI.IV) Try.prog LI.Film.lo0 F 51 6 [.agg cs] G (fun v _ => some v) = some (.bool true) := by
  have hAw : LI.Film.SQAw (LI.runC (R := LI.IV) Try.prog LI.Film.lo0 F 50) := by
    intro G k
    rw [eF]
    exact LI.Film.awakeT G k
  obtain ⟨G', h⟩ := LI.Film.s6c (R := LI.IV) (F := F) (n := 50) (by omega) (by decide) hAw cs G (LI.Film.opn_where (d := 0) hx) (fun a nn rest e => by subst e; exact LI.Film.opn_where_cut (d := 0) hx)
  exact h _

theorem walk {H : Type} {enc : TypeId × Value → H} {W : World} {c0 : Array Value} {d0 : DataW H} {p0 : List MemPlace}
    (h0 : DataW.Trod enc Try.prog W 0 (fun _ => true) true 36 (.agg c0) d0 p0) (w0 : ∀ n ∈ d0.weights Try.prog 36, n ≤ reachBytes) :
    Calls Try.prog 6 #[.agg c0] W fun e w' => e = .returned (.bool true) ∧ Below W.heap.size W w' := by
  obtain ⟨m1, G1, x, A1, o1⟩ := (LI.Args.nil (P := Try.prog) W).anyAgg arg36 h0 w0
  refine LI.callsA_of_run LI.Film.hm (LI.noCount_spec LI.Film.hn) LI.noLib_good Try.func6 rfl A1 ?_ (lo := LI.Film.lo0) (fuel := 1152921504606846976) (n := 51) (b := true)
  rw [LI.runL_none]
  exact run rfl o1

theorem lifted (os : Os) (started : os.Started) (H : Type) (enc : TypeId × Value → H) :
    ReturnsInHanded {} Try.checked os 6 .any (Rows.textureScalesSpec.pre6 enc Try.prog Try.f6 Rows.textureScalesRow.domain false) (Rows.textureScalesSpec.post enc Try.prog Try.f6 false true false false) := by
  refine returnsInHanded_of_change_sized (C := Try.checked) own started (by kernel_rfl) Try.func6
    (ChangeSpec.witness6 (enc := enc) (C := Try.checked) false ⟨#[], #[.agg #[.slice none 0 0, .slice none 0 0, .int .i64 0, .float .f64 0, .float .f64 0, .float .f64 0, .float .f64 0]], []⟩ 8 (by kernel_rfl) (by kernel_rfl) (by kernel_rfl) (by kernel_rfl)) ?_
  intro W base args ds gs before hval0 hW hcnd hsz _
  have hval : ∀ (j : Nat) t v, Try.f6.params[j]? = some t → args[j]? = some v → Value.okWide Try.prog W .any base t v := hval0
  have hW' := hW
  obtain ⟨p, q, hA0, hV, rfl, hfz, hnd⟩ := hW
  have hA : DataW.TrodAll enc Try.prog W 0 (fun _ => true) true Try.f6.params.toList args.toList ds p := hA0
  rw [Try.params6] at hA hval
  obtain ⟨v0, vs0, d0, ds0, p0, q0, hargs, rfl, rfl, h0, r0⟩ := trodAll_cons hA
  obtain ⟨rfl, rfl, rfl⟩ := trodAll_nil r0
  obtain rfl : args = #[v0] := by cases args; simp_all
  obtain ⟨c0, rfl, _⟩ := okWide_struct Try.underlying36 (hval 0 36 v0 rfl rfl)
  have w0 := LI.wt_of hsz (j := 0) rfl rfl
  clear hA0 hval0 hA hval
  refine (walk h0 w0).mono fun e W' ⟨he, hb⟩ => ?_
  subst he
  exact ⟨_, rfl, LI.law_post hW' (by kernel_rfl) (by kernel_rfl) rfl Try.underlying4 rfl (law H) hb⟩

theorem over : Rows.textureScalesRow.holds Try.pinned (OpenSpec.ofChange Rows.textureScalesSpec) :=
  OpenClaim.holds_of_wide 6 Try.f6 rfl rfl rfl rfl rfl rfl rfl ⟨rfl, rfl, rfl, rfl, rfl⟩ rfl rfl rfl rfl rfl (by kernel_rfl) Try.func6 (by kernel_rfl)
    (of_decide_eq_true (by kernel_rfl)) (by unfold Func.isWrapper; first | (rw [if_pos (by decide +kernel)]; kernel_rfl) | (rw [if_neg (by decide +kernel)]; exact ⟨rfl, rfl⟩))
    (fun os started H enc _ => lifted os started H enc)

/-- TextureScales: true for every input. -/
theorem proved : Rows.TextureScalesSaid := over
end Go.Proofs.Ytbjcipikclbecaa.textureScales
