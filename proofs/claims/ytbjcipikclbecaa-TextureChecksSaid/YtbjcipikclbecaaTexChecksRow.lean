/-
  TextureChecks returns true for every input, and leaves all as it was.
  Conditions: none beyond the row's own.
-/
import Derived.Test.YtbjcipikclbecaaTxH
import Derived.Test.YtbjcipikclbecaaLiNo
import Derived.ChangeMaps5
import Derived.SizedLaws
namespace Go.Proofs.Ytbjcipikclbecaa.textureChecks
open Go.ChangeShapes Go.WideShapes Go.ChangeAt Go.RowKit Go.ChangeMaps
set_option linter.unusedVariables false
set_option maxRecDepth 100000

theorem own : ownKnob Try.prog.godebug = none := by kernel_rfl
theorem arg22 : LI.argN Try.prog 6 22 = some 1 := by kernel_rfl
theorem arg23 : LI.argN Try.prog 6 23 = some 1 := by kernel_rfl

theorem law (H : Type) (ds : List (DataW H)) (hd : ds.length = Try.f3.params.size) : (Rows.textureChecksSpec.fn H ds).results = [.lit (.bool true)] ∧ (Rows.textureChecksSpec.fn H ds).args = ds ∧ (Rows.textureChecksSpec.fn H ds).vars = [] := by
  match ds, hd with
  | [d1, d2], _ => exact ⟨rfl, rfl, rfl⟩

theorem run {F : Nat} (eF : F = 1152921504606846976) {G : LI.GH} {x y : LI.IV} (hx : LI.Opn Try.prog G 6 22 [x]) (hy : LI.Opn Try.prog G 6 23 [y]) :
    LI.runC (R := LI.IV) Try.prog LI.Film.lo0 F 51 3 [x, y] G (fun v _ => some v) = some (.bool true) := by
  have hAw : LI.Film.SQAw (LI.runC (R := LI.IV) Try.prog LI.Film.lo0 F 50) := by
    intro G k
    rw [eF]
    exact LI.Film.awakeT G k
  obtain ⟨a, n, ts, rfl, hT, hw, hB⟩ := LI.Film.opn_txs (d := 2) hx
  obtain ⟨pa, m, qs, rfl, hQ, hX⟩ := LI.Film.opn_pics (d := 1) hy
  obtain ⟨G', h⟩ := LI.Film.s3 (R := LI.IV) (F := F) (n := 50) (by omega) (by decide) hAw a pa n m ts qs G hT hB hQ hw hX
  exact h _

theorem cells_slice {W : World} {r : Reach} {b : Nat} {t e : TypeId} {v : Value} (ht : Try.prog.underlying t = some (.slice e)) (h : Value.okWide Try.prog W r b t v) : v.cells = #[v] := by
  obtain ⟨ao, len, cap, rfl⟩ := okWide_slice ht h
  rfl

theorem walk {H : Type} {enc : TypeId × Value → H} {W : World} {v0 v1 : Value} {d0 d1 : DataW H} {p0 p1 : List MemPlace} (k0 : v0.cells = #[v0]) (k1 : v1.cells = #[v1])
    (h0 : DataW.Trod enc Try.prog W 0 (fun _ => true) true 22 v0 d0 p0) (h1 : DataW.Trod enc Try.prog W 0 (fun _ => true) true 23 v1 d1 p1) (w0 : ∀ n ∈ d0.weights Try.prog 22, n ≤ reachBytes) (w1 : ∀ n ∈ d1.weights Try.prog 23, n ≤ reachBytes) :
    Calls Try.prog 3 #[v0, v1] W fun e w' => e = .returned (.bool true) ∧ Below W.heap.size W w' := by
  obtain ⟨m1, G1, x, A1, o1⟩ := (LI.Args.nil (P := Try.prog) W).anyOne arg22 h0 w0 k0
  obtain ⟨m2, G2, y, A2, o2⟩ := A1.anyOne arg23 h1 w1 k1
  refine LI.callsA_of_run LI.Film.hm (LI.noCount_spec LI.Film.hn) LI.noLib_good Try.func3 rfl A2 ?_ (lo := LI.Film.lo0) (fuel := 1152921504606846976) (n := 51) (b := true)
  rw [LI.runL_none]
  exact run rfl (LI.Opn.grow G2 _ _ _ o1) o2

theorem lifted (os : Os) (started : os.Started) (H : Type) (enc : TypeId × Value → H) :
    ReturnsInHanded {} Try.checked os 3 .any (Rows.textureChecksSpec.pre6 enc Try.prog Try.f3 Rows.textureChecksRow.domain false) (Rows.textureChecksSpec.post enc Try.prog Try.f3 false true false false) := by
  refine returnsInHanded_of_change_sized (C := Try.checked) own started (by kernel_rfl) Try.func3
    (ChangeSpec.witness6 (enc := enc) (C := Try.checked) false ⟨#[], #[.slice none 0 0, .slice none 0 0], []⟩ 8 (by kernel_rfl) (by kernel_rfl) (by kernel_rfl) (by kernel_rfl)) ?_
  intro W base args ds gs before hval0 hW hcnd hsz _
  have hval : ∀ (j : Nat) t v, Try.f3.params[j]? = some t → args[j]? = some v → Value.okWide Try.prog W .any base t v := hval0
  have hW' := hW
  obtain ⟨p, q, hA0, hV, rfl, hfz, hnd⟩ := hW
  have hA : DataW.TrodAll enc Try.prog W 0 (fun _ => true) true Try.f3.params.toList args.toList ds p := hA0
  rw [Try.params3] at hA hval
  obtain ⟨v0, vs0, d0, ds0, p0, q0, hargs, rfl, rfl, h0, r0⟩ := trodAll_cons hA
  obtain ⟨v1, vs1, d1, ds1, p1, q1, rfl, rfl, rfl, h1, r1⟩ := trodAll_cons r0
  obtain ⟨rfl, rfl, rfl⟩ := trodAll_nil r1
  obtain rfl : args = #[v0, v1] := by cases args; simp_all
  have k0 := cells_slice Try.underlying22 (hval 0 22 v0 rfl rfl)
  have k1 := cells_slice Try.underlying23 (hval 1 23 v1 rfl rfl)
  have w0 := LI.wt_of hsz (j := 0) rfl rfl
  have w1 := LI.wt_of hsz (j := 1) rfl rfl
  clear hA0 hval0 hA hval
  refine (walk k0 k1 h0 h1 w0 w1).mono fun e W' ⟨he, hb⟩ => ?_
  subst he
  exact ⟨_, rfl, LI.law_post hW' (by kernel_rfl) (by kernel_rfl) rfl Try.underlying4 rfl (law H) hb⟩

theorem over : Rows.textureChecksRow.holds Try.pinned (OpenSpec.ofChange Rows.textureChecksSpec) :=
  OpenClaim.holds_of_wide 3 Try.f3 rfl rfl rfl rfl rfl rfl rfl ⟨rfl, rfl, rfl, rfl, rfl⟩ rfl rfl rfl rfl rfl (by kernel_rfl) Try.func3 (by kernel_rfl)
    (of_decide_eq_true (by kernel_rfl)) (by unfold Func.isWrapper; first | (rw [if_pos (by decide +kernel)]; kernel_rfl) | (rw [if_neg (by decide +kernel)]; exact ⟨rfl, rfl⟩))
    (fun os started H enc _ => lifted os started H enc)

/-- TextureChecks: true for every input. -/
theorem proved : Rows.TextureChecksSaid := over
end Go.Proofs.Ytbjcipikclbecaa.textureChecks
