/-
  TextureMixes returns true for every input, and leaves all as it was.
  Conditions: none beyond the row's own.
-/
import Derived.Test.YtbjcipikclbecaaTxT
import Derived.Test.YtbjcipikclbecaaLiAll2
import Derived.Test.YtbjcipikclbecaaLiNo
import Derived.ChangeMaps5
namespace Go.Proofs.Ytbjcipikclbecaa.textureMixes
open Go.ChangeShapes Go.WideShapes Go.ChangeAt Go.RowKit Go.ChangeMaps
set_option linter.unusedVariables false
set_option maxRecDepth 100000

theorem own : ownKnob Try.prog.godebug = none := by kernel_rfl
theorem agg48 : LI.aggB Try.prog 48 = true := by kernel_rfl
theorem cells48 : LI.cellsB Try.prog 48 [32, 32, 32] = true := by kernel_rfl
theorem agg34 : LI.aggB Try.prog 34 = true := by kernel_rfl
theorem cells34 : LI.cellsB Try.prog 34 [32, 32] = true := by kernel_rfl

theorem law (H : Type) (ds : List (DataW H)) (hd : ds.length = Try.f5.params.size) : (Rows.textureMixesSpec.fn H ds).results = [.lit (.bool true)] ∧ (Rows.textureMixesSpec.fn H ds).args = ds ∧ (Rows.textureMixesSpec.fn H ds).vars = [] := by
  match ds, hd with
  | [d1, d2, d3, d4], _ => exact ⟨rfl, rfl, rfl⟩

theorem three {W : World} {r : Reach} {b : Nat} {v : Value} (h : Value.okWide Try.prog W r b 48 v) : ∃ c0 c1 c2 : Nat, v = .agg #[.float .f64 c0, .float .f64 c1, .float .f64 c2] ∧ c0 < 2 ^ 64 ∧ c1 < 2 ^ 64 ∧ c2 < 2 ^ 64 := by
  obtain ⟨cs, rfl, hs, hc⟩ := LI.agg_flo agg48 cells48 (by intro u hu; simp only [List.mem_cons, List.not_mem_nil, or_false, or_self] at hu; subst hu; exact Try.underlying32) h
  obtain ⟨l⟩ := cs
  match l, hs with
  | [x0, x1, x2], _ =>
    obtain ⟨c0, rfl, w0⟩ := hc 0 x0 rfl
    obtain ⟨c1, rfl, w1⟩ := hc 1 x1 rfl
    obtain ⟨c2, rfl, w2⟩ := hc 2 x2 rfl
    exact ⟨c0, c1, c2, rfl, w0, w1, w2⟩
theorem two {W : World} {r : Reach} {b : Nat} {v : Value} (h : Value.okWide Try.prog W r b 34 v) : ∃ c0 c1 : Nat, v = .agg #[.float .f64 c0, .float .f64 c1] ∧ c0 < 2 ^ 64 ∧ c1 < 2 ^ 64 := by
  obtain ⟨cs, rfl, hs, hc⟩ := LI.agg_flo agg34 cells34 (by intro u hu; simp only [List.mem_cons, List.not_mem_nil, or_false, or_self] at hu; subst hu; exact Try.underlying32) h
  obtain ⟨l⟩ := cs
  match l, hs with
  | [x0, x1], _ =>
    obtain ⟨c0, rfl, w0⟩ := hc 0 x0 rfl
    obtain ⟨c1, rfl, w1⟩ := hc 1 x1 rfl
    exact ⟨c0, c1, rfl, w0, w1⟩

theorem run {F : Nat} (eF : F = 1152921504606846972) (c0 c1 c2 s u0 u1 v0 v1 : Nat) (w0 : c0 < 2 ^ 64) (w1 : c1 < 2 ^ 64) (w2 : c2 < 2 ^ 64) (ws : s < 2 ^ 64) (hu0 : u0 < 2 ^ 64) (hu1 : u1 < 2 ^ 64) (hv0 : v0 < 2 ^ 64) (hv1 : v1 < 2 ^ 64) :
    LI.runC (R := LI.IV) Try.prog LI.Film.lo0 (F + 4) 51 5 [.agg [.float .f64 c0, .float .f64 c1, .float .f64 c2], .float .f64 s, .agg [.float .f64 u0, .float .f64 u1], .agg [.float .f64 v0, .float .f64 v1]] [] (fun v _ => some v) = some (.bool true) := by
  have hAw : LI.Film.SQAw (LI.runC (R := LI.IV) Try.prog LI.Film.lo0 (F + 4) 50) := by
    intro G k
    rw [eF]
    exact LI.Film.awakeT G k
  obtain ⟨G', h⟩ := LI.Film.s5m (R := LI.IV) (F := F) (n := 50) (by omega) (by omega) hAw c0 c1 c2 s u0 u1 v0 v1 w0 w1 w2 ws hu0 hu1 hv0 hv1 [] (fun v _ => some v)
  exact h

theorem walk (c0 c1 c2 s u0 u1 v0 v1 : Nat) (w0 : c0 < 2 ^ 64) (w1 : c1 < 2 ^ 64) (w2 : c2 < 2 ^ 64) (ws : s < 2 ^ 64) (hu0 : u0 < 2 ^ 64) (hu1 : u1 < 2 ^ 64) (hv0 : v0 < 2 ^ 64) (hv1 : v1 < 2 ^ 64) (w : World) :
    Calls Try.prog 5 #[.agg #[.float .f64 c0, .float .f64 c1, .float .f64 c2], .float .f64 s, .agg #[.float .f64 u0, .float .f64 u1], .agg #[.float .f64 v0, .float .f64 v1]] w fun e w' => e = .returned (.bool true) ∧ Below w.heap.size w w' :=
  LI.calls_of_run LI.Film.hm (LI.noCount_spec LI.Film.hn) Try.func5 rfl (run rfl c0 c1 c2 s u0 u1 v0 v1 w0 w1 w2 ws hu0 hu1 hv0 hv1) rfl
    (fun m => LI.arel_cons (LI.vrel_agg (LI.arel_cons (by constructor) (LI.arel_cons (by constructor) (LI.arel_cons (by constructor) (LI.arel_nil m))))) (LI.arel_cons (by constructor)
      (LI.arel_cons (LI.vrel_agg (LI.arel_cons (by constructor) (LI.arel_cons (by constructor) (LI.arel_nil m)))) (LI.arel_cons (LI.vrel_agg (LI.arel_cons (by constructor) (LI.arel_cons (by constructor) (LI.arel_nil m)))) (LI.arel_nil m))))) w

theorem lifted (os : Os) (started : os.Started) (H : Type) (enc : TypeId × Value → H) :
    ReturnsInHanded {} Try.checked os 5 .any (Rows.textureMixesSpec.pre6 enc Try.prog Try.f5 Rows.textureMixesRow.domain false) (Rows.textureMixesSpec.post enc Try.prog Try.f5 false true false false) := by
  refine returnsInHanded_of_change (C := Try.checked) own started (by kernel_rfl) Try.func5
    (ChangeSpec.witness6 (enc := enc) (C := Try.checked) false ⟨#[], #[.agg #[.float .f64 0, .float .f64 0, .float .f64 0], .float .f64 0, .agg #[.float .f64 0, .float .f64 0], .agg #[.float .f64 0, .float .f64 0]], []⟩ 8 (by kernel_rfl) (by kernel_rfl) (by kernel_rfl) (by kernel_rfl)) ?_
  intro W base args ds gs before hval0 hW hcnd _
  have hval : ∀ (j : Nat) t v, Try.f5.params[j]? = some t → args[j]? = some v → Value.okWide Try.prog W .any base t v := hval0
  have hW' := hW
  obtain ⟨p, q, hA0, hV, rfl, hfz, hnd⟩ := hW
  have hA : DataW.TrodAll enc Try.prog W 0 (fun _ => true) true Try.f5.params.toList args.toList ds p := hA0
  rw [Try.params5] at hA hval
  obtain ⟨v0, vs0, d0, ds0, p0, q0, hargs, rfl, rfl, h0, r0⟩ := trodAll_cons hA
  obtain ⟨v1, vs1, d1, ds1, p1, q1, rfl, rfl, rfl, h1, r1⟩ := trodAll_cons r0
  obtain ⟨v2, vs2, d2, ds2, p2, q2, rfl, rfl, rfl, h2, r2⟩ := trodAll_cons r1
  obtain ⟨v3, vs3, d3, ds3, p3, q3, rfl, rfl, rfl, h3, r3⟩ := trodAll_cons r2
  obtain ⟨rfl, rfl, rfl⟩ := trodAll_nil r3
  obtain rfl : args = #[v0, v1, v2, v3] := by cases args; simp_all
  obtain ⟨c0, c1, c2, rfl, w0, w1, w2⟩ := three (hval 0 48 v0 rfl rfl)
  obtain ⟨s, rfl, ws⟩ := LI.okWide_f64 Try.underlying32 (hval 1 32 v1 rfl rfl)
  obtain ⟨a0, a1, rfl, x0, x1⟩ := two (hval 2 34 v2 rfl rfl)
  obtain ⟨b0, b1, rfl, y0, y1⟩ := two (hval 3 34 v3 rfl rfl)
  clear hA0 hval0 hA hval h0 h1 h2 h3
  refine (walk c0 c1 c2 s a0 a1 b0 b1 w0 w1 w2 ws x0 x1 y0 y1 W).mono fun e W' ⟨he, hb⟩ => ?_
  subst he
  exact ⟨_, rfl, LI.law_post hW' (by kernel_rfl) (by kernel_rfl) rfl Try.underlying4 rfl (law H) hb⟩

theorem over : Rows.textureMixesRow.holds Try.pinned (OpenSpec.ofChange Rows.textureMixesSpec) :=
  OpenClaim.holds_of_wide 5 Try.f5 rfl rfl rfl rfl rfl rfl rfl ⟨rfl, rfl, rfl, rfl, rfl⟩ rfl rfl rfl rfl rfl (by kernel_rfl) Try.func5 (by kernel_rfl)
    (of_decide_eq_true (by kernel_rfl)) (by unfold Func.isWrapper; first | (rw [if_pos (by decide +kernel)]; kernel_rfl) | (rw [if_neg (by decide +kernel)]; exact ⟨rfl, rfl⟩))
    (fun os started H enc _ => lifted os started H enc)

/-- TextureMixes: true for every input. -/
theorem proved : Rows.TextureMixesSaid := over
end Go.Proofs.Ytbjcipikclbecaa.textureMixes
