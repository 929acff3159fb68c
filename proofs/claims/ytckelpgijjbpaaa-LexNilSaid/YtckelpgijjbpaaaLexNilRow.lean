/-
  LexNil returns true for every input, and leaves all as it was.
  Conditions: none beyond the row's own.
-/
import Derived.Test.YtckelpgijjbpaaaLexNilB
import Derived.Test.YtckelpgijjbpaaaLexRep
import Derived.Test.YtckelpgijjbpaaaLiV
import Derived.Test.YtckelpgijjbpaaaLiZr
import Derived.ChangeMaps5
import Derived.SizedLaws
namespace Go.Proofs.Ytckelpgijjbpaaa.lexNil
open Go.ChangeShapes Go.WideShapes Go.ChangeAt Go.RowKit Go.ChangeMaps
set_option linter.unusedVariables false
set_option maxRecDepth 100000

theorem own : ownKnob Try.prog.godebug = none := by kernel_rfl

theorem law (H : Type) (ds : List (DataW H)) (hd : ds.length = Try.f5.params.size) : (Rows.lexNilSpec.fn H ds).results = [.lit (.bool true)] ∧ (Rows.lexNilSpec.fn H ds).args = ds ∧ (Rows.lexNilSpec.fn H ds).vars = [] := by
  match ds, hd with
  | [d0], _ => exact ⟨rfl, rfl, rfl⟩

theorem walk (x0 : ByteArray) (u0 : x0.data.toList.length ≤ 140737488355328) (w : World) :
    Calls Try.prog 5 #[.string x0] w fun e w' => e = .returned (.bool true) ∧ Below w.heap.size w w' :=
  LI.callsL_of_run LI.Lex.hm (LI.noCount_spec LI.Lex.hn) (LI.Lex.lexLib_good) Try.func5 rfl (LI.Lex.s5 x0.data.toList u0) rfl
    (fun m => LI.arel_cons (LI.VRel.str x0.data.toList) (LI.arel_nil m)) w

theorem lifted (os : Os) (started : os.Started) (H : Type) (enc : TypeId × Value → H) :
    ReturnsInHanded {} Try.checked os 5 .any (Rows.lexNilSpec.pre6 enc Try.prog Try.f5 Rows.lexNilRow.domain false) (Rows.lexNilSpec.post enc Try.prog Try.f5 false true false false) := by
  refine returnsInHanded_of_change_sized (C := Try.checked) own started (by kernel_rfl) Try.func5
    (ChangeSpec.witness6 (enc := enc) (C := Try.checked) false ⟨#[], #[.string ⟨⟨[]⟩⟩], []⟩ 8 (by kernel_rfl) (by kernel_rfl) (by kernel_rfl) (by kernel_rfl)) ?_
  intro W base args ds gs before hval0 hW hcnd hsz _
  have hval : ∀ (j : Nat) t v, Try.f5.params[j]? = some t → args[j]? = some v → Value.okWide Try.prog W .any base t v := hval0
  have hW' := hW
  obtain ⟨p, q, hA0, hV, rfl, hfz, hnd⟩ := hW
  have hA : DataW.TrodAll enc Try.prog W 0 (fun _ => true) true Try.f5.params.toList args.toList ds p := hA0
  rw [Try.params5] at hA hval
  obtain ⟨v0, vs0, d0, ds0, p0, q0, hargs, rfl, rfl, h0, r0⟩ := trodAll_cons hA
  obtain ⟨rfl, rfl, rfl⟩ := trodAll_nil r0
  obtain rfl : args = #[v0] := by cases args; simp_all
  obtain ⟨x0, rfl, rfl, rfl, _⟩ := open_string Try.underlying9 (hval 0 9 v0 rfl rfl) h0
  have u0 : x0.data.toList.length ≤ 140737488355328 := Nat.le_trans (sized_string hsz (j := 0) (t := 9) rfl rfl) (by decide)
  clear hA0 hval0 hA hval
  refine (walk x0 u0 W).mono fun e W' ⟨he, hb⟩ => ?_
  subst he
  exact ⟨_, rfl, LI.law_post hW' (by kernel_rfl) (by kernel_rfl) rfl Try.underlying4 rfl (law H) hb⟩

theorem over : Rows.lexNilRow.holds Try.pinned (OpenSpec.ofChange Rows.lexNilSpec) :=
  OpenClaim.holds_of_wide 5 Try.f5 rfl rfl rfl rfl rfl rfl rfl ⟨rfl, rfl, rfl, rfl, rfl⟩ rfl rfl rfl rfl rfl (by kernel_rfl) Try.func5 (by kernel_rfl)
    (of_decide_eq_true (by kernel_rfl)) (by unfold Func.isWrapper; first | (rw [if_pos (by decide +kernel)]; kernel_rfl) | (rw [if_neg (by decide +kernel)]; exact ⟨rfl, rfl⟩))
    (fun os started H enc _ => lifted os started H enc)

/-- LexNil: true for every input. -/
theorem proved : Rows.LexNilSaid := over
end Go.Proofs.Ytckelpgijjbpaaa.lexNil
