/- Pictures: the whole, the reference, comparing. -/
import Derived.Test.YtmhoddmenfondaaRdZe
namespace Go.LI.Film
open Go.Proofs.Ytmhoddmenfondaa Go Go.Proofs Go.LI Go.LI.Fl
set_option linter.unusedVariables false
set_option linter.unusedSimpArgs false
set_option maxRecDepth 100000
section
variable {R : Type}
/-- A picture with its report. -/
abbrev PICV (w h : Int) (a : Option GA) (n : Nat) (S D : Int) (B : Nat) : IV := .tuple [.agg [.int .i64 w, .int .i64 h, .slice a n], .agg [.int .i64 S, .int .i64 D, .float .f64 B]]
abbrev SPicture (O : Ora R) : Prop := ∀ (G : GH) (f b c w h : Nat) (ps : List Px), Flm G f b c w h ps → (∀ p ∈ ps, PxN p) → w * h ≤ 65536 → ∀ (k : IV → GH → Option R), ∃ a G', Keeps G.length G G' ∧ Sl G.length G' 76 3 a (w * h) (picC ps) ∧
  O fn_zz [.ptr (some ⟨f, 0⟩)] G k = k (PICV w h a (w * h) (picS ps 0) (picD ps 0) (picB ps 0)) G'
theorem picture_body {O : Ora R} {F : Nat} (hF : 70000 ≤ F) (hSz : SSize O) (hPx : SPix O) (hM : SMean O) (hMi : SMid O) (hN : SNarrow O) (hO : SOff O) {G : GH} {f b c w h : Nat} {ps : List Px} (hI : Flm G f b c w h ps) (hps : ∀ p ∈ ps, PxN p) (hl : w * h ≤ 65536) (k : IV → GH → Option R) :
    ∃ a G', Keeps G.length G G' ∧ Sl G.length G' 76 3 a (w * h) (picC ps) ∧ u_zz O k (L_zz_0 O F k) ⟨f, 0⟩ G = k (PICV w h a (w * h) (picS ps 0) (picD ps 0) (picB ps 0)) G' := by
  obtain ⟨G1, g1, g2, g3, g4⟩ := hPx G b c w h ps hI.img hl
  have hlen := hI.img.len
  obtain ⟨a, G2, e1, e2, e3⟩ := pic_loop (O := O) hM hMi hN hO (a_zz_00 O k) (base := G.length + 2) (q := G.length + 1) (ps := ps) (by omega) hps (by rw [hlen]; exact hl) 0 0 none 0 0 0 0 (w : Int) (h : Int) ps.length 0 F G1 none [] 0 0 0 (by omega) (by rw [hlen]; omega) (by omega) g3 (sl_nil _ _ _ _) clean_zero
  rw [List.drop_zero] at e1 e2
  refine ⟨a, G2, ⟨by have := e3.1; omega, fun i hi => by rw [e3.2 i (by omega), g1 i hi]⟩, ?_, ?_⟩
  · rw [List.nil_append, hlen] at e2
    exact ⟨e2.1, e2.2.imp id fun ⟨b, h1, h2⟩ => ⟨b, by omega, h2⟩⟩
  · simp only [u_zz]
    rw [hI.ld, Option.bind_some, hSz G b c w h ps hI.img, pairII, hI.ld, Option.bind_some, g4, ivSl]
    simp only [L_zz_0]
    rw [hlen] at e1
    refine e1.trans ?_
    rfl
theorem wPicture {F n : Nat} (hF : 70004 ≤ F) (hn : 13 ≤ n) : SPicture (runC (R := R) Try.prog lo0 F n) := by
  obtain ⟨n, rfl⟩ : ∃ j, n = j + 13 := ⟨n - 13, by omega⟩
  obtain ⟨F, rfl⟩ : ∃ F', F = F' + 4 := ⟨F - 4, by omega⟩
  intro G f b c w h ps hI hps hl k
  obtain ⟨a, G', q1, q2, q3⟩ := picture_body (O := runC (R := R) Try.prog lo0 (F + 4) (n + 12)) (F := F + 4) (by omega) (wSize (by omega)) (wPix (by omega)) (wMean (by omega) (by omega)) (wMid (by omega) (by omega)) (wNarrow (by omega)) (wOff (by omega) (by omega)) hI hps hl k
  refine ⟨a, G', q1, q2, ?_⟩
  rw [r_zz, e_zz]
  exact q3

theorem sl_ld {G : GH} {b1 n : Nat} {a : Option GA} {cs : List IV} (hS : Sl b1 G 76 3 a n cs) {i k v : Nat} (hi : i < n) (hk : k < 3) (hv : cs[i * 3 + k]? = some (.float .f64 v)) : ∃ ga, idx? a n (i : Int) 3 = some ga ∧ ldFloat G .f64 (GA.add ga (Int.toNat (k : Int) * 1)) = some v := by
  obtain ⟨_, h | ⟨b, h1, h2, h3⟩⟩ := hS
  · omega
  · refine ⟨⟨b, i * 3⟩, ?_, ?_⟩
    · rw [h2]
      simp only [idx?]
      rw [if_pos (by omega), Int.toNat_natCast]
      simp [GA.add]
    · rw [Int.toNat_natCast, Nat.mul_one]
      exact ldF h3 (by decide) hv
end
end Go.LI.Film
