/-
  LexReads of the program's reader returns true for every text, and leaves it as it was.
  Conditions: none beyond the row's own.
-/
import Derived.Test.YtckelpgijjbpaaaLexN
import Derived.Test.YtckelpgijjbpaaaLiV
import Derived.ChangeMaps5
namespace Go.Proofs.Ytckelpgijjbpaaa.lexReads
open Go.ChangeShapes Go.WideShapes Go.ChangeAt Go.RowKit Go.ChangeMaps
set_option linter.unusedVariables false

theorem own : ownKnob Try.prog.godebug = none := by kernel_rfl

theorem walk (s : ByteArray) (w : World) :
    Calls Try.prog 4 #[.string s] w fun e w' => e = .returned (.bool true) ∧ Below w.heap.size w w' :=
  LI.calls_of_run LI.Lex.hm (LI.noCount_spec LI.Lex.hn) Try.func4 rfl (LI.Lex.s4 s.data.toList) rfl
    (fun m => LI.arel_cons (LI.VRel.str s.data.toList) (LI.arel_nil m)) w

set_option maxRecDepth 100000 in
theorem lifted (os : Os) (started : os.Started) (H : Type) (enc : TypeId × Value → H) :
    ReturnsInHanded {} Try.checked os 4 .any (Rows.lexReadsSpec.pre6 enc Try.prog Try.f4 Rows.lexReadsRow.domain false) (Rows.lexReadsSpec.post enc Try.prog Try.f4 false true false false) := by
  refine returnsInHanded_of_change (C := Try.checked) own started (by kernel_rfl) Try.func4
    (ChangeSpec.witness6 (enc := enc) (C := Try.checked) false ⟨#[], #[.string ⟨⟨[]⟩⟩], []⟩ 8 (by kernel_rfl) (by kernel_rfl) (by kernel_rfl) (by kernel_rfl)) ?_
  intro W base args ds gs before hval0 hW hcnd _
  have hval : ∀ (j : Nat) t v, Try.f4.params[j]? = some t → args[j]? = some v → Value.okWide Try.prog W .any base t v := hval0
  have hW' := hW
  obtain ⟨p, q, hA0, hV, rfl, hfz, hnd⟩ := hW
  have hA : DataW.TrodAll enc Try.prog W 0 (fun _ => true) true Try.f4.params.toList args.toList ds p := hA0
  rw [Try.params4] at hA hval
  obtain ⟨v0, vs0, d0, ds0, p0, q0, hargs, rfl, rfl, h0, r0⟩ := trodAll_cons hA
  obtain ⟨rfl, rfl, rfl⟩ := trodAll_nil r0
  obtain rfl : args = #[v0] := by cases args; simp_all
  obtain ⟨rfl, rfl⟩ := trodVars_none hV
  obtain ⟨a0, rfl, rfl, rfl, w0⟩ := open_string Try.underlying9 (hval 0 9 v0 rfl rfl) h0
  clear hA0 hval0
  simp only [List.append_nil] at hW'
  refine (walk a0 W).mono fun e W' ⟨he, hb⟩ => ?_
  subst he
  exact ⟨_, rfl, LI.post_law (pa := []) (pv := []) hW' Try.underlying4 rfl rfl
    (fun sp _ => trodAll_cons_mk (shut_string Try.underlying9 w0) trodAll_mk0) (fun _ _ => rfl) rfl hb⟩

theorem over : Rows.lexReadsRow.holds Try.pinned (OpenSpec.ofChange Rows.lexReadsSpec) :=
  OpenClaim.holds_of_wide 4 Try.f4 rfl rfl rfl rfl rfl rfl rfl ⟨rfl, rfl, rfl, rfl, rfl⟩ rfl rfl rfl rfl rfl (by kernel_rfl) Try.func4 (by kernel_rfl)
    (of_decide_eq_true (by kernel_rfl)) (by unfold Func.isWrapper; first | (rw [if_pos (by decide +kernel)]; kernel_rfl) | (rw [if_neg (by decide +kernel)]; exact ⟨rfl, rfl⟩))
    (fun os started H enc _ => lifted os started H enc)

/-- LexReads: true for every input. -/
theorem proved : Rows.LexReadsSaid := over
end Go.Proofs.Ytckelpgijjbpaaa.lexReads
