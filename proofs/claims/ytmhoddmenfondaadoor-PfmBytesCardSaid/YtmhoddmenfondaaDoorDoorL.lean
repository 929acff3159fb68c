/- PfmBytes over the interpreter. -/
import Derived.Test.YtmhoddmenfondaaDoorDoorK
import Derived.Test.YtmhoddmenfondaaDoorDoorJ
import Derived.Test.YtmhoddmenfondaaDoorDoorF
namespace Go.LI.Door
open Go.Proofs.YtmhoddmenfondaaDoor Go Go.Proofs Go.LI Go.LI.Fl
set_option linter.unusedVariables false
set_option maxRecDepth 100000
section
variable {R : Type}
theorem x73 (O : Ora R) (F : Nat) (a : Option GA) (m : Nat) (c : Int) (G : GH) (k : IV → GH → Option R) : bodyC Tryd.prog O [] F Tryd.f73 [.slice a m, .int .u8 c] G k = (match bytesS G a m with | some l => k (.int .i64 (Go.Lib.indexByte l c.toNat.toUInt8)) G | none => none) := by kernel_rfl
theorem r73 (F n : Nat) (args : List IV) (G : GH) (k : IV → GH → Option R) : runC Tryd.prog lo0 F (n + 1) 73 args G k = bodyC Tryd.prog (runC Tryd.prog lo0 F n) [] F Tryd.f73 args G k := run_body Tryd.func73 rfl rfl
theorem j73 {F n : Nat} : S73 (runC (R := R) Tryd.prog lo0 F (n + 1)) := fun b o bs c G k h => by
  have e : fn_internal_bytealg_IndexByte = 73 := rfl
  rw [e, r73, x73, h.bytesS]
theorem j33 {F n : Nat} : S33 (runC (R := R) Tryd.prog lo0 F (n + 1)) := fun x G k => bits64 F n x G k
theorem j60 {F n : Nat} : S60 (runC (R := R) Tryd.prog lo0 F (n + 2)) := fun b o bs c G k h => by
  have e : fn_bytes_IndexByte = 60 := rfl
  rw [e, r_bytes_IndexByte]
  exact i60 j73 b o bs c G k h
theorem j54 {F n : Nat} : S54 (runC (R := R) Tryd.prog lo0 F (n + 3)) := fun b o b' o' bs c G k h h' => by
  have e : fn_bytes_Index = 54 := rfl
  rw [e, r_bytes_Index]
  exact i54 j60 b o b' o' bs c G k h h'
theorem j50 {F n : Nat} : S50 (runC (R := R) Tryd.prog lo0 F (n + 4)) := fun b o b' o' l r c G k h h1 h2 h3 => by
  have e : fn_bytes_Cut = 50 := rfl
  rw [e, r_bytes_Cut]
  exact i50 j54 b o b' o' l r c G k h h1 h2 h3
theorem jLn {F n : Nat} : SLn (runC (R := R) Tryd.prog lo0 F (n + 5)) := fun b o l r G k h h1 h2 => by
  have e : fn_pfm_line = 43 := rfl
  rw [e, r_pfm_line]
  exact iLn j50 b o l r G k h h1 h2
theorem jBy {F n : Nat} : SBy (runC (R := R) Tryd.prog lo0 F (n + 1)) := fun x v G k h => by
  have e : fn_pfm_Byte = 15 := rfl
  rw [e, r_pfm_Byte]
  exact iBy G k h
theorem jNm {F n : Nat} : SNm (runC (R := R) Tryd.prog lo0 (F + 8) (n + 8)) := by
  intro w G k h1 h2
  match w, h1, h2 with
  | 1, _, _ => exact num1 F n G k
  | 2, _, _ => exact num2 F n G k
  | 3, _, _ => exact num3 F n G k
  | 4, _, _ => exact num4 F n G k
  | 5, _, _ => exact num5 F n G k
  | 6, _, _ => exact num6 F n G k
theorem jI6 {F n : Nat} : SI6 (runC (R := R) Tryd.prog lo0 (F + 8) (n + 8)) := by
  intro w G k h1 h2
  match w, h1, h2 with
  | 1, _, _ => exact itoa1 F n G k
  | 2, _, _ => exact itoa2 F n G k
  | 3, _, _ => exact itoa3 F n G k
  | 4, _, _ => exact itoa4 F n G k
  | 5, _, _ => exact itoa5 F n G k
  | 6, _, _ => exact itoa6 F n G k
theorem jCut {F n : Nat} : SCut (runC (R := R) Tryd.prog lo0 (F + 8) (n + 8)) := by
  intro w h G k h1 h2 h3 h4
  match w, h, h1, h2, h3, h4 with
  | 1, 1, _, _, _, _ => exact cut11 F n G k
  | 1, 2, _, _, _, _ => exact cut12 F n G k
  | 1, 3, _, _, _, _ => exact cut13 F n G k
  | 1, 4, _, _, _, _ => exact cut14 F n G k
  | 1, 5, _, _, _, _ => exact cut15 F n G k
  | 1, 6, _, _, _, _ => exact cut16 F n G k
  | 2, 1, _, _, _, _ => exact cut21 F n G k
  | 2, 2, _, _, _, _ => exact cut22 F n G k
  | 2, 3, _, _, _, _ => exact cut23 F n G k
  | 2, 4, _, _, _, _ => exact cut24 F n G k
  | 2, 5, _, _, _, _ => exact cut25 F n G k
  | 2, 6, _, _, _, _ => exact cut26 F n G k
  | 3, 1, _, _, _, _ => exact cut31 F n G k
  | 3, 2, _, _, _, _ => exact cut32 F n G k
  | 3, 3, _, _, _, _ => exact cut33 F n G k
  | 3, 4, _, _, _, _ => exact cut34 F n G k
  | 3, 5, _, _, _, _ => exact cut35 F n G k
  | 3, 6, _, _, _, _ => exact cut36 F n G k
  | 4, 1, _, _, _, _ => exact cut41 F n G k
  | 4, 2, _, _, _, _ => exact cut42 F n G k
  | 4, 3, _, _, _, _ => exact cut43 F n G k
  | 4, 4, _, _, _, _ => exact cut44 F n G k
  | 4, 5, _, _, _, _ => exact cut45 F n G k
  | 4, 6, _, _, _, _ => exact cut46 F n G k
  | 5, 1, _, _, _, _ => exact cut51 F n G k
  | 5, 2, _, _, _, _ => exact cut52 F n G k
  | 5, 3, _, _, _, _ => exact cut53 F n G k
  | 5, 4, _, _, _, _ => exact cut54 F n G k
  | 5, 5, _, _, _, _ => exact cut55 F n G k
  | 5, 6, _, _, _, _ => exact cut56 F n G k
  | 6, 1, _, _, _, _ => exact cut61 F n G k
  | 6, 2, _, _, _, _ => exact cut62 F n G k
  | 6, 3, _, _, _, _ => exact cut63 F n G k
  | 6, 4, _, _, _, _ => exact cut64 F n G k
  | 6, 5, _, _, _, _ => exact cut65 F n G k
  | 6, 6, _, _, _, _ => exact cut66 F n G k
theorem jBg {F n : Nat} : SBg (runC (R := R) Tryd.prog lo0 (F + 8) (n + 9)) := fun b o w h ds G k h1 h2 h3 h4 h5 h6 => by
  have e : fn_pfm_begin = 32 := rfl
  rw [e, r_pfm_begin]
  exact iBg (O := runC (R := R) Tryd.prog lo0 (F + 8) (n + 8)) (jLn (n := n + 3)) (jCut (F := F) (n := n)) (jNm (F := F) (n := n)) (iFi (n := n + 7)) (F := F + 7) b o w h ds G k h1 h2 h3 h4 h5 h6
theorem jH6 {F n : Nat} : SH6 (runC (R := R) Tryd.prog lo0 (F + 8) (n + 9)) := fun w h a m G k h1 h2 h3 h4 => by
  have e : fn_pfm_head = 25 := rfl
  rw [e, r_pfm_head]
  exact iH6 (jI6 (F := F) (n := n)) a m G k h1 h2 h3 h4
theorem jWB {F n : Nat} (hF : 3000 ≤ F) : SWB (runC (R := R) Tryd.prog lo0 (F + 8) (n + 10)) := fun w h b base bs G k h1 h2 h3 h4 h5 h6 h7 h8 => by
  have e : fn_pfm_WritePPM = 13 := rfl
  rw [e, r_pfm_WritePPM]
  exact iWB (O := runC (R := R) Tryd.prog lo0 (F + 8) (n + 9)) (jBy (n := n + 8)) (iCh (F := F + 8) (n := n + 7)) (jH6 (F := F) (n := n)) (F := F + 8) (by omega) G k h1 h2 h3 h4 h5 h6 h7 h8
theorem jRp {F n : Nat} (hF : 3000 ≤ F) : SRp (runC (R := R) Tryd.prog lo0 (F + 8) (n + 10)) := fun w h b o bs G k h1 h2 h3 h4 h5 h6 => by
  have e : fn_pfm_ReadPPM = 16 := rfl
  rw [e, r_pfm_ReadPPM]
  exact iRp (O := runC (R := R) Tryd.prog lo0 (F + 8) (n + 9)) (jBg (F := F) (n := n)) (F := F + 8) (by omega) G k h1 h2 h3 h4 h5 h6
theorem jSm {F n : Nat} (hF : 3000 ≤ F) : SSm (runC (R := R) Tryd.prog lo0 (F + 8) (n + 2)) := fun w h N b1 b2 bs G k h1 h2 h3 h4 => by
  have e : fn_ref08_Same = 17 := rfl
  rw [e, r_ref08_Same]
  exact iSm (j33 (n := n)) (F := F + 8) (by omega) w h N b1 b2 bs G k h1 h2 h3 h4
theorem s5 {F n : Nat} (hF : 3000 ≤ F) (hA : SAw (runC (R := R) Tryd.prog lo0 (F + 8) (n + 10))) (p0 p1 : Int) {pa : Option GA} {pn : Nat} {x y : Nat} (hx : x < 2 ^ 64) (hy : y < 2 ^ 64) {G : GH}
    (hD : pn = 0 ∨ ∃ b ds, pa = some ⟨b, 0⟩ ∧ By G b 0 ds ∧ pn = ds.length) (hpn : pn ≤ 140737488355328) (k : IV → GH → Option R) :
    ∃ G', runC Tryd.prog lo0 (F + 8) (n + 11) 5 [.int .i64 p0, .int .i64 p1, .slice pa pn, .float .f64 x, .float .f64 y] G k = k (.bool true) G' := by
  rw [r_law08_PfmBytes]
  exact bytes_b hA (jBy (n := n + 9)) (jWB hF) (jRp hF) (jSm (n := n + 8) hF) (F := F + 7) (by omega) p0 p1 hx hy hD hpn k
end
end Go.LI.Door
