/- PfmSizes over the interpreter. -/
import Derived.Test.YtmhoddmenfondaaDoorDoorE
namespace Go.LI.Door
open Go.Proofs.YtmhoddmenfondaaDoor Go Go.Proofs Go.LI
set_option linter.unusedVariables false
set_option maxRecDepth 100000
section
variable {R : Type}
theorem iZ {F n : Nat} : Z0 (runC (R := R) Tryd.prog lo0 (F + 8) (n + 8)) := ⟨fun G k => isnan0 F n G k, fun G k => isinf0 F n G k, fun G k => bits0 F n G k, fun G k => byte0 F n G k⟩
theorem iI {F n : Nat} : SI (runC (R := R) Tryd.prog lo0 (F + 8) (n + 8)) := by
  intro x h1 h2
  match x, h1, h2 with
  | 1, _, _ => exact ⟨_, rfl, fun G k => itoa1 F n G k⟩
  | 2, _, _ => exact ⟨_, rfl, fun G k => itoa2 F n G k⟩
  | 3, _, _ => exact ⟨_, rfl, fun G k => itoa3 F n G k⟩
  | 4, _, _ => exact ⟨_, rfl, fun G k => itoa4 F n G k⟩
  | 5, _, _ => exact ⟨_, rfl, fun G k => itoa5 F n G k⟩
  | 6, _, _ => exact ⟨_, rfl, fun G k => itoa6 F n G k⟩
  | 7, _, _ => exact ⟨_, rfl, fun G k => itoa7 F n G k⟩
  | 8, _, _ => exact ⟨_, rfl, fun G k => itoa8 F n G k⟩
  | 9, _, _ => exact ⟨_, rfl, fun G k => itoa9 F n G k⟩
  | 10, _, _ => exact ⟨_, rfl, fun G k => itoa10 F n G k⟩
  | 11, _, _ => exact ⟨_, rfl, fun G k => itoa11 F n G k⟩
  | 12, _, _ => exact ⟨_, rfl, fun G k => itoa12 F n G k⟩
  | 13, _, _ => exact ⟨_, rfl, fun G k => itoa13 F n G k⟩
  | 14, _, _ => exact ⟨_, rfl, fun G k => itoa14 F n G k⟩
  | 15, _, _ => exact ⟨_, rfl, fun G k => itoa15 F n G k⟩
  | 16, _, _ => exact ⟨_, rfl, fun G k => itoa16 F n G k⟩
  | 17, _, _ => exact ⟨_, rfl, fun G k => itoa17 F n G k⟩
  | 18, _, _ => exact ⟨_, rfl, fun G k => itoa18 F n G k⟩
  | 19, _, _ => exact ⟨_, rfl, fun G k => itoa19 F n G k⟩
  | 20, _, _ => exact ⟨_, rfl, fun G k => itoa20 F n G k⟩
  | 21, _, _ => exact ⟨_, rfl, fun G k => itoa21 F n G k⟩
  | 22, _, _ => exact ⟨_, rfl, fun G k => itoa22 F n G k⟩
  | 23, _, _ => exact ⟨_, rfl, fun G k => itoa23 F n G k⟩
  | 24, _, _ => exact ⟨_, rfl, fun G k => itoa24 F n G k⟩
  | 25, _, _ => exact ⟨_, rfl, fun G k => itoa25 F n G k⟩
  | 26, _, _ => exact ⟨_, rfl, fun G k => itoa26 F n G k⟩
  | 27, _, _ => exact ⟨_, rfl, fun G k => itoa27 F n G k⟩
  | 28, _, _ => exact ⟨_, rfl, fun G k => itoa28 F n G k⟩
  | 29, _, _ => exact ⟨_, rfl, fun G k => itoa29 F n G k⟩
  | 30, _, _ => exact ⟨_, rfl, fun G k => itoa30 F n G k⟩
  | 0, h, _ => omega
  | x + 31, _, h => omega
theorem iFi {F n : Nat} : SFi (runC (R := R) Tryd.prog lo0 F (n + 1)) := fun w h G k h1 h2 h3 h4 => by
  have e : fn_pfm_fits = 38 := rfl
  rw [e, r_pfm_fits]
  exact fits_b G k h1 h2 h3 h4
theorem iCh {F n : Nat} : SCh (runC (R := R) Tryd.prog lo0 F (n + 2)) := fun w h a G k h1 h2 h3 h4 => by
  have e : fn_pfm_check = 24 := rfl
  rw [e, r_pfm_check]
  exact check_b iFi a G k h1 h2 h3 h4
theorem iHd {F n : Nat} : SHd (runC (R := R) Tryd.prog lo0 (F + 8) (n + 9)) := fun p q w h a n' h1 h2 h3 h4 h5 h6 => by
  obtain ⟨cs, hl, hk⟩ := head_b (R := R) (iI (F := F) (n := n)) (F := F + 8) p q w h a n' h1 h2 h3 h4 h5 h6
  refine ⟨cs, hl, fun G k => ?_⟩
  have e : fn_pfm_head = 25 := rfl
  rw [e, r_pfm_head]
  exact hk G k
theorem iWr {F n : Nat} (hF : 2000 ≤ F) : SWr (runC (R := R) Tryd.prog lo0 (F + 8) (n + 10)) := fun w h b base G k h1 h2 h3 h4 hB hb hG => by
  have e : fn_pfm_Write = 10 := rfl
  rw [e, r_pfm_Write]
  exact write_b (O := runC (R := R) Tryd.prog lo0 (F + 8) (n + 9)) (iZ (F := F) (n := n + 1)) (iCh (F := F + 8) (n := n + 7)) (iHd (F := F) (n := n)) (F := F + 4) (by omega) G k h1 h2 h3 h4 hB hb hG
theorem iWp {F n : Nat} (hF : 2000 ≤ F) : SWp (runC (R := R) Tryd.prog lo0 (F + 8) (n + 10)) := fun w h b base G k h1 h2 h3 h4 hB hb hG => by
  have e : fn_pfm_WritePPM = 13 := rfl
  rw [e, r_pfm_WritePPM]
  exact writePPM_b (O := runC (R := R) Tryd.prog lo0 (F + 8) (n + 9)) (iZ (F := F) (n := n + 1)) (iCh (F := F + 8) (n := n + 7)) (iHd (F := F) (n := n)) (F := F + 8) (by omega) G k h1 h2 h3 h4 hB hb hG
theorem s4 {F n : Nat} (hF : 2000 ≤ F) (hA : SAw (runC (R := R) Tryd.prog lo0 (F + 8) (n + 10))) (p0 p1 : Int) (G : GH) (k : IV → GH → Option R) :
    ∃ G', runC Tryd.prog lo0 (F + 8) (n + 11) 4 [.int .i64 p0, .int .i64 p1] G k = k (.bool true) G' := by
  rw [r_law08_PfmSizes]
  exact sizes_b hA (iWr hF) (iWp hF) (F := F + 7) p0 p1 G k
end
end Go.LI.Door
