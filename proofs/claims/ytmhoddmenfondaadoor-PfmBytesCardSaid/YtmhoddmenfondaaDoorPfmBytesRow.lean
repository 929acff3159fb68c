/-
  PfmBytes returns true for every input, and leaves all as it was; its listed variables are tied to the program's text.
  Conditions: none beyond the card's own.
-/
import Derived.Test.YtmhoddmenfondaaDoorCards
import Derived.Test.YtmhoddmenfondaaDoorTie
import Derived.Test.YtmhoddmenfondaaDoorDoorL
import Derived.Test.YtmhoddmenfondaaDoorLiAll2
import Derived.Test.YtmhoddmenfondaaDoorLiNo
import Derived.ProofKit
import Derived.OpenShut
import Derived.Lay
import Derived.SevenTiedAt
namespace Go.Proofs.YtmhoddmenfondaaDoor.pfmBytes
open Go.ChangeShapes Go.WideShapes Go.ChangeAt Go.RowKit
set_option linter.unusedVariables false
set_option maxRecDepth 100000

theorem own : ownKnob Tryd.prog.godebug = none := by kernel_rfl
theorem flat5 : LI.flatT Tryd.prog 5 5 = some [.int .u8] := by kernel_rfl
theorem cells5 : Tryd.prog.cellsOf 5 = 1 := by kernel_rfl
theorem bytes5 : Tryd.prog.bytesOf 5 = 1 := by kernel_rfl

theorem law (H : Type) (ds : List (DataW H)) (hd : ds.length = Tryd.f5.params.size) : (Rows.pfmBytesSpec.fn H ds).results = [.lit (.bool true)] ∧ (Rows.pfmBytesSpec.fn H ds).args = ds ∧ (Rows.pfmBytesSpec.fn H ds).vars = [] := by
  match ds, hd with
  | [d1, d2, d3, d4, d5], _ => exact ⟨rfl, rfl, rfl⟩

/-- The bytes of an argument. -/
theorem by_of {G : LI.GH} {a : Option LI.GA} {n : Nat} {cells : List LI.IV} (S : LI.RSl G 5 a n cells) (hl : cells.length = n * 1) (K : ∀ (i : Nat) (iv : LI.IV), cells[i]? = some iv → ∃ l, [LI.Lk.int .u8][i % 1]? = some l ∧ l.ok iv) :
    n = 0 ∨ ∃ b ds, a = some ⟨b, 0⟩ ∧ LI.Door.By G b 0 ds ∧ n = ds.length := by
  rcases S with ⟨h1, h2, _⟩ | ⟨ga, h1, h2, h3⟩
  · exact .inl h2
  · obtain ⟨ws, h4, h5⟩ := LI.ints_of (k := .u8) K
    by_cases h0 : n = 0
    · exact .inl h0
    · have e0 := h3 (by omega)
      have m0 : IntKind.u8.min = 0 := rfl
      have m1 : IntKind.u8.max = 255 := rfl
      have e1 : cells = LI.bytesI (ws.map fun w => UInt8.ofNat w.toNat) := by
        rw [h4]
        simp only [LI.bytesI, List.map_map]
        refine List.map_congr_left fun w hw => ?_
        obtain ⟨q1, q2⟩ := h5 w hw
        rw [m0] at q1
        rw [m1] at q2
        simp only [Function.comp]
        congr 1
        rw [UInt8.toNat_ofNat_of_lt' (by show w.toNat < 256; omega)]
        omega
      have e2 : (ws.map fun w => UInt8.ofNat w.toNat).length = n := by
        have := congrArg List.length e1
        rw [LI.Door.bytesI_length] at this
        omega
      refine .inr ⟨ga.b, ws.map fun w => UInt8.ofNat w.toNat, ?_, ⟨cells, 0, h2, by decide, by rw [e2]; omega, ?_⟩, e2.symm⟩
      · rw [h1, ← e0]
      · rw [List.drop_zero, List.take_of_length_le (by rw [e2]; omega)]; exact e1

theorem run {F : Nat} (eF : F = 1152921504606846968) {G : LI.GH} (p0 p1 : Int) {pa : Option LI.GA} {pn : Nat} {x y : Nat} (hx : x < 2 ^ 64) (hy : y < 2 ^ 64)
    (hD : pn = 0 ∨ ∃ b ds, pa = some ⟨b, 0⟩ ∧ LI.Door.By G b 0 ds ∧ pn = ds.length) (hpn : pn ≤ 140737488355328) :
    LI.runL (R := LI.IV) Tryd.prog (fun _ _ => Option.none) LI.Door.lo0 (F + 8) 51 5 [.int .i64 p0, .int .i64 p1, .slice pa pn, .float .f64 x, .float .f64 y] G (fun v _ => some v) = some (.bool true) := by
  rw [LI.runL_none]
  have hAw : LI.Door.SAw (LI.runC (R := LI.IV) Tryd.prog LI.Door.lo0 (F + 8) 50) := by
    intro G k
    rw [eF]
    exact LI.Door.awake60 G k
  obtain ⟨G', h⟩ := LI.Door.s5 (R := LI.IV) (F := F) (n := 40) (by omega) hAw p0 p1 hx hy hD hpn (fun v _ => some v)
  exact h

theorem walk {W : World} {v2 : Value} (p0 p1 : Int) (h2 : v2 = .slice Option.none 0 0 ∨ ∃ n cells a cap c t' fr, LI.SlArg W [.int .u8] v2 n cells a cap c t' fr) {x y : Nat} (hx : x < 2 ^ 64) (hy : y < 2 ^ 64) :
    Calls Tryd.prog 5 #[.int .i64 p0, .int .i64 p1, v2, .float .f64 x, .float .f64 y] W fun e w' => e = .returned (.bool true) ∧ Below W.heap.size W w' := by
  have A1 := (LI.Args.nil (P := Tryd.prog) W).snoc (iv := .int .i64 p0) (v := .int .i64 p0) (by constructor) rfl
  have A2 := A1.snoc (iv := .int .i64 p1) (v := .int .i64 p1) (by constructor) rfl
  obtain ⟨m1, a0, n0, c0, G1, A3, S0, L0, B0, K0, _⟩ := A2.slice 5 h2
  have A4 := A3.snoc (iv := .float .f64 x) (v := .float .f64 x) (by constructor) rfl
  have A5 := A4.snoc (iv := .float .f64 y) (v := .float .f64 y) (by constructor) rfl
  exact LI.callsA_of_run LI.Door.hm (LI.noCount_spec LI.Door.hn) LI.noLib_good Tryd.func5 rfl A5 (run rfl p0 p1 hx hy (by_of S0 L0 K0) B0)

theorem lifted (os : Os) (started : os.Started) (H : Type) (enc : TypeId × Value → H) :
    ReturnsInHanded {} Tryd.checked os 5 .any (fun w args => (Rows.pfmBytesSpec.pre enc Tryd.prog Tryd.f5 [] false w args ∧ laidMetH Tryd.prog Rows.pfmBytesRow.laid w) ∧ sizedMet enc Tryd.prog Tryd.f5 (OpenSpec.ofChange Rows.pfmBytesSpec) false w args)
      (Rows.pfmBytesSpec.post enc Tryd.prog Tryd.f5 false true false false) := by
  refine returnsInHanded_of_change_and (C := Tryd.checked) (X := fun w _ => laidMetH Tryd.prog Rows.pfmBytesRow.laid w) (fun _ _ _ hh h => h.of_heap hh) own started (by kernel_rfl) Tryd.func5
    (ChangeSpec.witness_shaped (enc := enc) (C := Tryd.checked) (os := os) (X := fun w _ => laidMetH Tryd.prog Rows.pfmBytesRow.laid w) false (World.laidAll Tryd.prog os Rows.pfmBytesRow.laid) #[.int .i64 0, .int .i64 0, .slice Option.none 0 0, .float .f64 0, .float .f64 0] 8 (World.laidAll_os _ _ _)
      (World.shaped_of_ZipB (by kernel_rfl) (by kernel_rfl)) (by kernel_rfl) (by kernel_rfl) (by kernel_rfl)
      (by rw [MakeChecks.laidMetH_plain _ _ _ (by kernel_rfl)]; exact laidMet_laidAll _ (by kernel_rfl) (by kernel_rfl))) ?_
  intro W base args ds gs before hval0 hW _ hsz hL _
  have hval : ∀ (j : Nat) t v, Tryd.f5.params[j]? = some t → args[j]? = some v → Value.okWide Tryd.prog W .any base t v := hval0
  have hW' := hW
  obtain ⟨p, q, hA0, hV, rfl, hfz, hnd⟩ := hW
  have hA : DataW.TrodAll enc Tryd.prog W 0 (fun _ => true) true Tryd.f5.params.toList args.toList ds p := hA0
  rw [Tryd.params5] at hA hval
  obtain ⟨v0, vs0, d0, ds0, p0, q0, hargs, rfl, rfl, h0, r0⟩ := trodAll_cons hA
  obtain ⟨v1, vs1, d1, ds1, p1, q1, rfl, rfl, rfl, h1, r1⟩ := trodAll_cons r0
  obtain ⟨v2, vs2, d2, ds2, p2, q2, rfl, rfl, rfl, h2, r2⟩ := trodAll_cons r1
  obtain ⟨v3, vs3, d3, ds3, p3, q3, rfl, rfl, rfl, h3, r3⟩ := trodAll_cons r2
  obtain ⟨v4, vs4, d4, ds4, p4, q4, rfl, rfl, rfl, h4, r4⟩ := trodAll_cons r3
  obtain ⟨rfl, rfl, rfl⟩ := trodAll_nil r4
  obtain rfl : args = #[v0, v1, v2, v3, v4] := by cases args; simp_all
  obtain ⟨x, rfl⟩ := okWide_int Tryd.underlying3 (hval 0 3 v0 rfl rfl)
  obtain ⟨y, rfl⟩ := okWide_int Tryd.underlying3 (hval 1 3 v1 rfl rfl)
  obtain ⟨f, rfl, hf⟩ := LI.okWide_f64 Tryd.underlying36 (hval 3 36 v3 rfl rfl)
  obtain ⟨g, rfl, hg⟩ := LI.okWide_f64 Tryd.underlying36 (hval 4 36 v4 rfl rfl)
  have o2 := LI.open_slice (P := Tryd.prog) Tryd.underlying26 flat5 cells5 (by decide) (by rw [bytes5]; decide) (hval 2 26 v2 rfl rfl) h2 (LI.wt_of hsz (j := 2) rfl rfl)
  clear hA0 hval0 hA hval h0 h1 h2 h3 h4
  refine (walk x y o2 hf hg).mono fun e W' ⟨he, hb⟩ => ?_
  subst he
  exact ⟨_, rfl, LI.law_post hW' (by kernel_rfl) (by kernel_rfl) rfl Tryd.underlying4 rfl (law H) hb⟩

theorem holds : Rows.PfmBytesSaid :=
  OpenClaim.holds_of_wide 5 Tryd.f5 rfl rfl rfl rfl rfl rfl rfl ⟨rfl, rfl, rfl, rfl, rfl⟩ rfl rfl rfl rfl rfl (by kernel_rfl) Tryd.func5 (by kernel_rfl)
    (of_decide_eq_true (by kernel_rfl)) (by unfold Func.isWrapper; first | (rw [if_pos (by decide +kernel)]; kernel_rfl) | (rw [if_neg (by decide +kernel)]; exact ⟨rfl, rfl⟩))
    (fun os started H enc _ => lifted os started H enc)

/-- PfmBytes: true for every input; the card tied to the text. -/
theorem proved : Rows.PfmBytesCardSaid :=
  Claim7.holds_tied_plain_at .later [] [.data, .data, .data] true (true, "10bc5a0ebc618454d5ac8b0362d199b3bd96b986d9b50c18cf25c547fd9cf7f2") false holds (fun _ h => by cases h) (by kernel_rfl) (fun _ h => by cases h) pfmBytes_row_tie rfl ⟨rfl, rfl⟩ (by kernel_rfl) rfl
    (fun f fn hf hfn => by
      obtain rfl : f = 5 := Option.some.inj ((show Tryd.prog.funcNamed "lantern/lanternlaw08.PfmBytes" = some 5 by kernel_rfl).symm.trans hf) |>.symm
      obtain rfl : fn = Tryd.f5 := (Option.some.inj (Tryd.func5.symm.trans hfn)).symm
      exact ⟨by kernel_rfl, fun j t ht => by
        rw [Tryd.params5] at ht
        have hm : t ∈ [3, 3, 26, 36, 36] := by simpa using Array.mem_of_getElem? ht
        have hall : ([3, 3, 26, 36, 36].all fun u => !Tryd.prog.wantsStandIn u) = true := by kernel_rfl
        exact (show Tryd.prog.wantsStandIn t = false by simpa using List.all_eq_true.1 hall t hm)⟩)
    (by kernel_rfl)
end Go.Proofs.YtmhoddmenfondaaDoor.pfmBytes
