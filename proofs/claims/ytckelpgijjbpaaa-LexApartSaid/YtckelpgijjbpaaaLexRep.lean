/- strings.Repeat of this program is the library's own; the library functions that the reader's laws call are as lexLib says. -/
import Derived.Test.YtckelpgijjbpaaaLexLib
import Derived.Test.YtckelpgijjbpaaaLexA
import Derived.Shelf.Strings.Repeat
namespace Go.LI.Lex
open Go.Proofs.Ytckelpgijjbpaaa Go Go.Proofs Go.LI Go.Shelf Go.RowKit
set_option linter.unusedVariables false
set_option maxRecDepth 100000

def lays105_ren : Ren :=
  { f := fun x => match x with | 105 => 20 | 212 => 38 | 99 => 39 | 165 => 40 | 166 => 41 | 170 => 42 | 169 => 43 | 263 => 46 | 264 => 47 | 206 => 48 | 240 => 49 | 241 => 50 | 276 => 55 | 277 => 56 | n => n,
    t := fun x => match x with | 9 => 9 | 3 => 3 | 4 => 4 | 20 => 20 | 0 => 0 | 46 => 23 | 109 => 66 | 5 => 5 | 72 => 70 | 76 => 74 | 51 => 79 | 146 => 80 | 53 => 82 | 148 => 83 | 70 => 68 | 37 => 56 | 75 => 73 | 127 => 85 | 164 => 87 | 80 => 76 | n => n,
    g := fun x => x }

theorem lays105 : Lays.n105 Try.prog lays105_ren :=
  { mixed := by kernel_rfl, f99 := Try.func39.trans (congrArg some (by kernel_rfl)),
    f105 := Try.func20.trans (congrArg some (by kernel_rfl)),
    f165 := Try.func40.trans (congrArg some (by kernel_rfl)),
    f166 := Try.func41.trans (congrArg some (by kernel_rfl)),
    f169 := Try.func43.trans (congrArg some (by kernel_rfl)),
    f170 := Try.func42.trans (congrArg some (by kernel_rfl)),
    f206 := Try.func48.trans (congrArg some (by kernel_rfl)),
    f212 := Try.func38.trans (congrArg some (by kernel_rfl)),
    f240 := Try.func49.trans (congrArg some (by kernel_rfl)),
    f241 := Try.func50.trans (congrArg some (by kernel_rfl)),
    f263 := Try.func46.trans (congrArg some (by kernel_rfl)),
    f264 := Try.func47.trans (congrArg some (by kernel_rfl)),
    f276 := Try.func55.trans (congrArg some (by kernel_rfl)),
    f277 := Try.func56.trans (congrArg some (by kernel_rfl)), t0 := Try.underlying0,
    a0 := Try.isAgg0, z0 := Try.sizeOf0, v0 := Try.zeroValue0, t3 := Try.underlying3, a3 := Try.isAgg3, z3 := Try.sizeOf3,
    v3 := Try.zeroValue3, t4 := Try.underlying4, a4 := Try.isAgg4, z4 := Try.sizeOf4, v4 := Try.zeroValue4,
    t5 := Try.underlying5, a5 := Try.isAgg5, z5 := Try.sizeOf5, v5 := Try.zeroValue5, t9 := Try.underlying9,
    a9 := Try.isAgg9, z9 := Try.sizeOf9, v9 := Try.zeroValue9, t20 := Try.underlying20, a20 := Try.isAgg20,
    z20 := Try.sizeOf20, v20 := Try.zeroValue20, t37 := Try.underlying56, a37 := Try.isAgg56, z37 := Try.sizeOf56,
    v37 := Try.zeroValue56, t46 := Try.underlying23, a46 := Try.isAgg23, z46 := Try.sizeOf23, v46 := Try.zeroValue23,
    t51 := Try.underlying79, a51 := Try.isAgg79, z51 := Try.sizeOf79, v51 := Try.zeroValue79, t53 := Try.underlying82,
    a53 := Try.isAgg82, z53 := Try.sizeOf82, v53 := Try.zeroValue82, t70 := Try.underlying68, a70 := Try.isAgg68,
    z70 := Try.sizeOf68, v70 := Try.zeroValue68, t72 := Try.underlying70, a72 := Try.isAgg70, z72 := Try.sizeOf70,
    v72 := Try.zeroValue70, t75 := Try.underlying73, a75 := Try.isAgg73, z75 := Try.sizeOf73, v75 := Try.zeroValue73,
    t76 := Try.underlying74, a76 := Try.isAgg74, z76 := Try.sizeOf74, v76 := Try.zeroValue74, t109 := Try.underlying66,
    a109 := Try.isAgg66, z109 := Try.sizeOf66, v109 := Try.zeroValue66, t127 := Try.underlying85, a127 := Try.isAgg85,
    z127 := Try.sizeOf85, v127 := Try.zeroValue85, t146 := Try.underlying80, a146 := Try.isAgg80, z146 := Try.sizeOf80,
    v146 := Try.zeroValue80, t148 := Try.underlying83, a148 := Try.isAgg83, z148 := Try.sizeOf83, v148 := Try.zeroValue83,
    t164 := Try.underlying87, a164 := Try.isAgg87, z164 := Try.sizeOf87, v164 := Try.zeroValue87 }

theorem extra105 : Builder.Extra Try.prog lays105_ren :=
  { sizeBuilder := by kernel_rfl,
    liesBuilder := by kernel_rfl,
    t5 := Try.underlying5,
    a5 := Try.isAgg5,
    z5 := Try.sizeOf5,
    v5 := Try.zeroValue5,
    infoByte := by kernel_rfl,
    cellsByte := by kernel_rfl,
    sizeByte := by kernel_rfl,
    neB5 := by decide }

theorem repeat20 (s : ByteArray) (c : Nat) (w : World) (hc : c ≤ 9223372036854775807) (hlen : s.size * c ≤ 140737488355328) :
    Calls Try.prog 20 #[.string s, .int .i64 c] w fun e w' => e = .returned (.string ⟨(Go.Lib.repeatL s.data.toList c).toArray⟩) ∧ Below w.heap.size w w' :=
  Any.strings_Repeat lays105 extra105 s c w hc hlen

theorem arel_two {args' : Array Value} {a b : IV} (h : ARel nil0 [a, b] args') : ∃ x y, args' = #[x, y] ∧ VRel nil0 a x ∧ VRel nil0 b y := by
  obtain ⟨l⟩ := args'
  match l, h.1 with
  | [x, y], _ => exact ⟨x, y, rfl, h.2 0 _ _ rfl rfl, h.2 1 _ _ rfl rfl⟩

theorem lexLib_good : GoodLib Try.prog lexLib := by
  intro f args v h
  unfold lexLib at h
  split at h
  · rename_i hf; subst hf
    unfold lib57 at h
    split at h
    · rename_i s c
      injection h with h; subst h
      refine ⟨rfl, rfl, rfl, fun w args' hA => ?_⟩
      obtain ⟨x, y, rfl, h1, h2⟩ := arel_two hA
      cases h1; cases h2
      refine .inr ⟨_, ?_, Below.refl _ _, .int _ _⟩
      rw [run_callFunc_extern Try.func57 (by kernel_rfl) (by kernel_rfl) (by kernel_rfl) (e := Extern.BytealgIndexByte.indexByte) (by kernel_rfl), Go.Lib.run_indexByteString]
      rfl
    · cases h
  · split at h
    · rename_i hf; subst hf
      unfold lib37 at h
      split at h
      · rename_i s c
        injection h with h; subst h
        refine ⟨rfl, rfl, rfl, fun w args' hA => ?_⟩
        obtain ⟨x, y, rfl, h1, h2⟩ := arel_two hA
        cases h1; cases h2
        refine .inr ⟨_, ?_, Below.refl _ _, .int _ _⟩
        rw [run_callFunc_extern Try.func37 (by kernel_rfl) (by kernel_rfl) (by kernel_rfl) (e := Extern.BytealgCount.count) (by kernel_rfl), Go.Lib.run_countString]
        rfl
      · cases h
    · split at h
      · rename_i hf; subst hf
        unfold lib20 at h
        split at h
        · rename_i s n
          by_cases hc : (decide (0 ≤ n) && (decide (n ≤ 1000) && decide (s.length ≤ 1000))) = true
          · rw [hc, cond_true] at h
            simp only [Bool.and_eq_true, decide_eq_true_eq] at hc
            injection h with h; subst h
            refine ⟨rfl, rfl, rfl, fun w args' hA => ?_⟩
            obtain ⟨x, y, rfl, h1, h2⟩ := arel_two hA
            cases h1; cases h2
            refine .inl ⟨enters_of Try.func20 (by kernel_rfl) rfl _ _, ?_⟩
            obtain ⟨m, rfl⟩ : ∃ m : Nat, n = m := ⟨n.toNat, by omega⟩
            have hm : s.length * m ≤ 1000 * 1000 := Nat.mul_le_mul (by omega) (by omega)
            refine (repeat20 ⟨⟨s⟩⟩ m w (by omega) (by show s.length * m ≤ _; omega)).mono ?_
            rintro e w' ⟨rfl, hb⟩
            exact ⟨_, rfl, hb, .str _⟩
          · rw [Bool.eq_false_iff.2 hc, cond_false] at h; cases h
        · cases h
      · cases h
end Go.LI.Lex
