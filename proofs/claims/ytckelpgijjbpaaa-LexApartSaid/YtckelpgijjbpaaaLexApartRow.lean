/-
  LexApart returns true for every input, and leaves all as it was.
  Conditions: none beyond the row's own.
-/
import Derived.Test.YtckelpgijjbpaaaLexApC
import Derived.Test.YtckelpgijjbpaaaLexRep
import Derived.Test.YtckelpgijjbpaaaLiAll2
import Derived.ChangeMaps5
import Derived.SizedLaws
namespace Go.Proofs.Ytckelpgijjbpaaa.lexApart
open Go.ChangeShapes Go.WideShapes Go.ChangeAt Go.RowKit Go.ChangeMaps
set_option linter.unusedVariables false
set_option maxRecDepth 100000

theorem own : ownKnob Try.prog.godebug = none := by kernel_rfl

theorem law (H : Type) (ds : List (DataW H)) (hd : ds.length = Try.f6.params.size) : (Rows.lexApartSpec.fn H ds).results = [.lit (.bool true)] ∧ (Rows.lexApartSpec.fn H ds).args = ds ∧ (Rows.lexApartSpec.fn H ds).vars = [] := by
  match ds, hd with
  | [d0, d1], _ => exact ⟨rfl, rfl, rfl⟩

theorem flat9 : LI.flatT Try.prog 5 9 = some [LI.Lk.str] := by kernel_rfl
theorem flat3 : LI.flatT Try.prog 5 3 = some [LI.Lk.int .i64] := by kernel_rfl
theorem cells9 : Try.prog.cellsOf 9 = 1 := by kernel_rfl
theorem cells3 : Try.prog.cellsOf 3 = 1 := by kernel_rfl
theorem bytes9 : Try.prog.bytesOf 9 = 16 := by kernel_rfl
theorem bytes3 : Try.prog.bytesOf 3 = 8 := by kernel_rfl

theorem walk {W : World} {v0 v1 : Value} (h0 : v0 = .slice none 0 0 ∨ ∃ n cells a cap c t' fr, LI.SlArg W [LI.Lk.str] v0 n cells a cap c t' fr) (h1 : v1 = .slice none 0 0 ∨ ∃ n cells a cap c t' fr, LI.SlArg W [LI.Lk.int .i64] v1 n cells a cap c t' fr) :
    Calls Try.prog 6 #[v0, v1] W fun e w' => e = .returned (.bool true) ∧ Below W.heap.size W w' := by
  obtain ⟨m1, a0, n0, c0, G1, A1, S0, L0, B0, K0, _⟩ := (LI.Args.nil (P := Try.prog) W).slice 9 h0
  obtain ⟨m2, a1, n1, c1, G2, A2, S1, L1, B1, K1, _⟩ := A1.slice 3 h1
  obtain ⟨ws, rfl, hws⟩ := LI.strs_of K0
  obtain ⟨gs, rfl, _⟩ := LI.ints_of K1
  have e0 : n0 = ws.length := by simpa using L0.symm
  have e1 : n1 = gs.length := by simpa using L1.symm
  subst e0
  subst e1
  exact LI.callsA_of_run LI.Lex.hm (LI.noCount_spec LI.Lex.hn) LI.Lex.lexLib_good Try.func6 rfl A2 (LI.Lex.s6 hws (S0.grow G2) S1)

theorem lifted (os : Os) (started : os.Started) (H : Type) (enc : TypeId × Value → H) :
    ReturnsInHanded {} Try.checked os 6 .any (Rows.lexApartSpec.pre6 enc Try.prog Try.f6 Rows.lexApartRow.domain false) (Rows.lexApartSpec.post enc Try.prog Try.f6 false true false false) := by
  refine returnsInHanded_of_change_sized (C := Try.checked) own started (by kernel_rfl) Try.func6
    (ChangeSpec.witness6 (enc := enc) (C := Try.checked) false ⟨#[], #[.slice none 0 0, .slice none 0 0], []⟩ 8 (by kernel_rfl) (by kernel_rfl) (by kernel_rfl) (by kernel_rfl)) ?_
  intro W base args ds gs before hval0 hW hcnd hsz _
  have hval : ∀ (j : Nat) t v, Try.f6.params[j]? = some t → args[j]? = some v → Value.okWide Try.prog W .any base t v := hval0
  have hW' := hW
  obtain ⟨p, q, hA0, hV, rfl, hfz, hnd⟩ := hW
  have hA : DataW.TrodAll enc Try.prog W 0 (fun _ => true) true Try.f6.params.toList args.toList ds p := hA0
  rw [Try.params6] at hA hval
  obtain ⟨v0, vs0, d0, ds0, p0, q0, hargs, rfl, rfl, h0, r0⟩ := trodAll_cons hA
  obtain ⟨v1, vs1, d1, ds1, p1, q1, rfl, rfl, rfl, h1, r1⟩ := trodAll_cons r0
  obtain ⟨rfl, rfl, rfl⟩ := trodAll_nil r1
  obtain rfl : args = #[v0, v1] := by cases args; simp_all
  have o0 := LI.open_slice (P := Try.prog) Try.underlying50 flat9 cells9 (by decide) (by rw [bytes9]; decide) (hval 0 50 v0 rfl rfl) h0 (LI.wt_of hsz (j := 0) rfl rfl)
  have o1 := LI.open_slice (P := Try.prog) Try.underlying51 flat3 cells3 (by decide) (by rw [bytes3]; decide) (hval 1 51 v1 rfl rfl) h1 (LI.wt_of hsz (j := 1) rfl rfl)
  clear hA0 hval0 hA hval h0 h1
  refine (walk o0 o1).mono fun e W' ⟨he, hb⟩ => ?_
  subst he
  exact ⟨_, rfl, LI.law_post hW' (by kernel_rfl) (by kernel_rfl) rfl Try.underlying4 rfl (law H) hb⟩

theorem over : Rows.lexApartRow.holds Try.pinned (OpenSpec.ofChange Rows.lexApartSpec) :=
  OpenClaim.holds_of_wide 6 Try.f6 rfl rfl rfl rfl rfl rfl rfl ⟨rfl, rfl, rfl, rfl, rfl⟩ rfl rfl rfl rfl rfl (by kernel_rfl) Try.func6 (by kernel_rfl)
    (of_decide_eq_true (by kernel_rfl)) (by unfold Func.isWrapper; first | (rw [if_pos (by decide +kernel)]; kernel_rfl) | (rw [if_neg (by decide +kernel)]; exact ⟨rfl, rfl⟩))
    (fun os started H enc _ => lifted os started H enc)

/-- LexApart: true for every input. -/
theorem proved : Rows.LexApartSaid := over
end Go.Proofs.Ytckelpgijjbpaaa.lexApart
