/-
  PfmSizes returns true for every input, and leaves all as it was; its listed variables are tied to the program's text.
  Conditions: none beyond the card's own.
-/
import Derived.Test.YtmhoddmenfondaaDoorCards
import Derived.Test.YtmhoddmenfondaaDoorTie
import Derived.Test.YtmhoddmenfondaaDoorDoorF
import Derived.Test.YtmhoddmenfondaaDoorLiAll2
import Derived.Test.YtmhoddmenfondaaDoorLiNo
import Derived.ProofKit
import Derived.OpenShut
import Derived.Lay
import Derived.SevenTiedAt
namespace Go.Proofs.YtmhoddmenfondaaDoor.pfmSizes
open Go.ChangeShapes Go.WideShapes Go.ChangeAt Go.RowKit
set_option linter.unusedVariables false
set_option maxRecDepth 100000

theorem own : ownKnob Tryd.prog.godebug = none := by kernel_rfl

theorem law (H : Type) (ds : List (DataW H)) (hd : ds.length = Tryd.f4.params.size) : (Rows.pfmSizesSpec.fn H ds).results = [.lit (.bool true)] ∧ (Rows.pfmSizesSpec.fn H ds).args = ds ∧ (Rows.pfmSizesSpec.fn H ds).vars = [] := by
  match ds, hd with
  | [d1, d2], _ => exact ⟨rfl, rfl, rfl⟩

theorem run {F : Nat} (eF : F = 1152921504606846968) {G : LI.GH} (p0 p1 : Int) :
    LI.runL (R := LI.IV) Tryd.prog (fun _ _ => Option.none) LI.Door.lo0 (F + 8) 51 4 [.int .i64 p0, .int .i64 p1] G (fun v _ => some v) = some (.bool true) := by
  rw [LI.runL_none]
  have hAw : LI.Door.SAw (LI.runC (R := LI.IV) Tryd.prog LI.Door.lo0 (F + 8) 50) := by
    intro G k
    rw [eF]
    exact LI.Door.awake60 G k
  obtain ⟨G', h⟩ := LI.Door.s4 (R := LI.IV) (F := F) (n := 40) (by omega) hAw p0 p1 G (fun v _ => some v)
  exact h

theorem walk {W : World} (p0 p1 : Int) :
    Calls Tryd.prog 4 #[.int .i64 p0, .int .i64 p1] W fun e w' => e = .returned (.bool true) ∧ Below W.heap.size W w' := by
  have A1 := (LI.Args.nil (P := Tryd.prog) W).snoc (iv := .int .i64 p0) (v := .int .i64 p0) (by constructor) rfl
  have A2 := A1.snoc (iv := .int .i64 p1) (v := .int .i64 p1) (by constructor) rfl
  exact LI.callsA_of_run LI.Door.hm (LI.noCount_spec LI.Door.hn) LI.noLib_good Tryd.func4 rfl A2 (run rfl p0 p1)

theorem lifted (os : Os) (started : os.Started) (H : Type) (enc : TypeId × Value → H) :
    ReturnsInHanded {} Tryd.checked os 4 .any (fun w args => (Rows.pfmSizesSpec.pre enc Tryd.prog Tryd.f4 [] false w args ∧ laidMetH Tryd.prog Rows.pfmSizesRow.laid w) ∧ sizedMet enc Tryd.prog Tryd.f4 (OpenSpec.ofChange Rows.pfmSizesSpec) false w args)
      (Rows.pfmSizesSpec.post enc Tryd.prog Tryd.f4 false true false false) := by
  refine returnsInHanded_of_change_and (C := Tryd.checked) (X := fun w _ => laidMetH Tryd.prog Rows.pfmSizesRow.laid w) (fun _ _ _ hh h => h.of_heap hh) own started (by kernel_rfl) Tryd.func4
    (ChangeSpec.witness_shaped (enc := enc) (C := Tryd.checked) (os := os) (X := fun w _ => laidMetH Tryd.prog Rows.pfmSizesRow.laid w) false (World.laidAll Tryd.prog os Rows.pfmSizesRow.laid) #[.int .i64 0, .int .i64 0] 8 (World.laidAll_os _ _ _)
      (World.shaped_of_ZipB (by kernel_rfl) (by kernel_rfl)) (by kernel_rfl) (by kernel_rfl) (by kernel_rfl)
      (by rw [MakeChecks.laidMetH_plain _ _ _ (by kernel_rfl)]; exact laidMet_laidAll _ (by kernel_rfl) (by kernel_rfl))) ?_
  intro W base args ds gs before hval0 hW _ _ hL _
  have hval : ∀ (j : Nat) t v, Tryd.f4.params[j]? = some t → args[j]? = some v → Value.okWide Tryd.prog W .any base t v := hval0
  have hW' := hW
  obtain ⟨p, q, hA0, hV, rfl, hfz, hnd⟩ := hW
  have hA : DataW.TrodAll enc Tryd.prog W 0 (fun _ => true) true Tryd.f4.params.toList args.toList ds p := hA0
  rw [Tryd.params4] at hA hval
  obtain ⟨v0, vs0, d0, ds0, p0, q0, hargs, rfl, rfl, h0, r0⟩ := trodAll_cons hA
  obtain ⟨v1, vs1, d1, ds1, p1, q1, rfl, rfl, rfl, h1, r1⟩ := trodAll_cons r0
  obtain ⟨rfl, rfl, rfl⟩ := trodAll_nil r1
  obtain rfl : args = #[v0, v1] := by cases args; simp_all
  obtain ⟨x, rfl⟩ := okWide_int Tryd.underlying3 (hval 0 3 v0 rfl rfl)
  obtain ⟨y, rfl⟩ := okWide_int Tryd.underlying3 (hval 1 3 v1 rfl rfl)
  clear hA0 hval0 hA hval h0 h1
  refine (walk x y).mono fun e W' ⟨he, hb⟩ => ?_
  subst he
  exact ⟨_, rfl, LI.law_post hW' (by kernel_rfl) (by kernel_rfl) rfl Tryd.underlying4 rfl (law H) hb⟩

theorem holds : Rows.PfmSizesSaid :=
  OpenClaim.holds_of_wide 4 Tryd.f4 rfl rfl rfl rfl rfl rfl rfl ⟨rfl, rfl, rfl, rfl, rfl⟩ rfl rfl rfl rfl rfl (by kernel_rfl) Tryd.func4 (by kernel_rfl)
    (of_decide_eq_true (by kernel_rfl)) (by unfold Func.isWrapper; first | (rw [if_pos (by decide +kernel)]; kernel_rfl) | (rw [if_neg (by decide +kernel)]; exact ⟨rfl, rfl⟩))
    (fun os started H enc _ => lifted os started H enc)

/-- PfmSizes: true for every input; the card tied to the text. -/
theorem proved : Rows.PfmSizesCardSaid :=
  Claim7.holds_tied_plain_at .later [] [.data, .data, .data] true (true, "10bc5a0ebc618454d5ac8b0362d199b3bd96b986d9b50c18cf25c547fd9cf7f2") false holds (fun _ h => by cases h) (by kernel_rfl) (fun _ h => by cases h) pfmSizes_row_tie rfl ⟨rfl, rfl⟩ (by kernel_rfl) rfl
    (fun f fn hf hfn => by
      obtain rfl : f = 4 := Option.some.inj ((show Tryd.prog.funcNamed "lantern/lanternlaw08.PfmSizes" = some 4 by kernel_rfl).symm.trans hf) |>.symm
      obtain rfl : fn = Tryd.f4 := (Option.some.inj (Tryd.func4.symm.trans hfn)).symm
      exact ⟨by kernel_rfl, fun j t ht => by
        rw [Tryd.params4] at ht
        have hm : t ∈ [3, 3] := by simpa using Array.mem_of_getElem? ht
        have hall : ([3, 3].all fun u => !Tryd.prog.wantsStandIn u) = true := by kernel_rfl
        exact (show Tryd.prog.wantsStandIn t = false by simpa using List.all_eq_true.1 hall t hm)⟩)
    (by kernel_rfl)
end Go.Proofs.YtmhoddmenfondaaDoor.pfmSizes
