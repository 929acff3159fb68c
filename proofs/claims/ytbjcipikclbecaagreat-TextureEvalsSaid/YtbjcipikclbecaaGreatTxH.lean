/- Textures' checks over the interpreter; lists of textures and pictures as arguments. -/
import Derived.Test.YtbjcipikclbecaaGreatTxG
import Derived.Test.YtbjcipikclbecaaGreatLiArgN
set_option linter.unusedVariables false
set_option maxRecDepth 100000
namespace Go.LI.Film
open Go.Proofs.YtbjcipikclbecaaGreat Go Go.Proofs Go.LI Go.LI.Fl
theorem zCG {α : Type} {f : α → List IV} {Q : α → Prop} {c n : Nat} {cells : List IV} (hl : cells.length = n * c) (h : ∀ i, i < n → ∃ x, (cells.drop (i * c)).take c = f x ∧ Q x) : ∃ xs : List α, xs.length = n ∧ cells = (xs.map f).flatten ∧ ∀ x ∈ xs, Q x := by
  obtain ⟨xs, h1, h2⟩ := zjN (fun i x => (cells.drop (i * c)).take c = f x ∧ Q x) n h
  refine ⟨xs, h1, ?_, fun x hx => ?_⟩
  · have e : xs.map f = (List.range n).map fun i => (cells.drop (i * c)).take c := by
      refine List.ext_getElem? fun i => ?_
      rw [List.getElem?_map, List.getElem?_map]
      by_cases hi : i < n
      · have hx := List.getElem?_eq_getElem (l := xs) (i := i) (by omega)
        rw [hx, List.getElem?_range hi]
        simp only [Option.map_some]
        rw [(h2 i _ hx).1]
      · rw [List.getElem?_eq_none (by omega), List.getElem?_eq_none (by simp; omega)]; rfl
    rw [e, ztS n cells hl]
  · obtain ⟨i, hi⟩ := List.getElem?_of_mem hx
    exact (h2 i x hi).2
theorem c3 : Tryz.prog.cellsOf 3 = 1 := by kernel_rfl
theorem c32 : Tryz.prog.cellsOf 24 = 1 := by kernel_rfl
theorem c48 : Tryz.prog.cellsOf 45 = 3 := by kernel_rfl
theorem c50 : Tryz.prog.cellsOf 43 = 1 := by kernel_rfl
theorem c52 : Tryz.prog.cellsOf 47 = 8 := by kernel_rfl
theorem c57 : Tryz.prog.cellsOf 50 = 1 := by kernel_rfl
theorem c59 : Tryz.prog.cellsOf 52 = 3 := by kernel_rfl
theorem u50 : Tryz.prog.underlying 43 = some (.int .i64) := by kernel_rfl
theorem zjd {P : Program} {G : GH} {d : Nat} {t : TypeId} {fs : Array Field} {cs : List IV} (ht : P.underlying t = some (.struct fs)) (h : Opn P G (d + 1) t cs) : cs.length = P.cellsOf t ∧ ∀ (i : Nat) (f : Field), fs.toList[i]? = some f → Opn P G d f.type ((cs.drop f.offset).take (P.cellsOf f.type)) := by
  unfold Opn at h
  rw [ht] at h
  exact ⟨h.1, fun i f hf => h.2 f (List.mem_of_getElem? hf)⟩
theorem zwE {P : Program} {G : GH} {d n : Nat} {t e : TypeId} {cs : List IV} (ht : P.underlying t = some (.array n e)) (h : Opn P G (d + 1) t cs) : cs.length = P.cellsOf t ∧ ∀ i, i < n → Opn P G d e ((cs.drop (i * P.cellsOf e)).take (P.cellsOf e)) := by
  unfold Opn at h
  rw [ht] at h
  exact h
theorem zpN {P : Program} {G : GH} {d : Nat} {t e : TypeId} {x : IV} (ht : P.underlying t = some (.slice e)) (h : Opn P G (d + 1) t [x]) : x = .slice none 0 ∨ ∃ (b n : Nat) (cells : List IV), x = .slice (some ⟨b, 0⟩) n ∧ G[b]? = some ⟨cells, e, 0⟩ ∧ cells.length = n * P.cellsOf e ∧ n ≤ 140737488355328 ∧
    ∀ i, i < n → Opn P G d e ((cells.drop (i * P.cellsOf e)).take (P.cellsOf e)) := by
  unfold Opn at h
  rw [ht] at h
  rcases h with h | ⟨b, n, cells, h, h2⟩
  · exact .inl (List.cons.inj h).1
  · exact .inr ⟨b, n, cells, (List.cons.inj h).1, h2⟩
theorem znX {P : Program} {G : GH} {d : Nat} {t : TypeId} {x : IV} (ht : P.underlying t = some (.int .i64)) (h : Opn P G (d + 1) t [x]) : ∃ n, x = iL n := by
  unfold Opn at h
  rw [ht] at h
  obtain ⟨n, h, _⟩ := h
  exact ⟨n, (List.cons.inj h).1⟩
theorem zqW {P : Program} {G : GH} {d : Nat} {t : TypeId} {x : IV} (ht : P.underlying t = some (.float .f64)) (h : Opn P G (d + 1) t [x]) : ∃ n, x = fL n ∧ n < 2 ^ 64 := by
  unfold Opn at h
  rw [ht] at h
  obtain ⟨n, h, h2⟩ := h
  exact ⟨n, (List.cons.inj h).1, h2⟩
theorem zBJ {G : GH} {d : Nat} {x y z : IV} (h : Opn Tryz.prog G (d + 2) 45 [x, y, z]) : ∃ a b c : Nat, x = fL a ∧ y = fL b ∧ z = fL c ∧ a < 2 ^ 64 ∧ b < 2 ^ 64 ∧ c < 2 ^ 64 := by
  obtain ⟨-, h⟩ := zwE Tryz.underlying45 h
  have h0 := h 0 (by omega)
  have h1 := h 1 (by omega)
  have h2 := h 2 (by omega)
  rw [c32] at h0 h1 h2
  obtain ⟨a, rfl, w0⟩ := zqW (d := d) Tryz.underlying24 h0
  obtain ⟨b, rfl, w1⟩ := zqW (d := d) Tryz.underlying24 h1
  obtain ⟨c, rfl, w2⟩ := zqW (d := d) Tryz.underlying24 h2
  exact ⟨a, b, c, rfl, rfl, rfl, w0, w1, w2⟩
theorem zHD {G : GH} {d : Nat} {cs : List IV} (h : Opn Tryz.prog G (d + 3) 47 cs) : ∃ t : Tx, cs = tcs t ∧ t.w := by
  obtain ⟨hl, h⟩ := zjd Tryz.underlying47 h
  rw [c52] at hl
  match cs, hl with
  | [x0, x1, x2, x3, x4, x5, x6, x7], _ =>
    have h0 : Opn Tryz.prog G (d + 2) 43 (([x0, x1, x2, x3, x4, x5, x6, x7].drop 0).take (Tryz.prog.cellsOf 43)) := h 0 _ rfl
    have h1 : Opn Tryz.prog G (d + 2) 45 (([x0, x1, x2, x3, x4, x5, x6, x7].drop 1).take (Tryz.prog.cellsOf 45)) := h 1 _ rfl
    have h4 : Opn Tryz.prog G (d + 2) 3 (([x0, x1, x2, x3, x4, x5, x6, x7].drop 4).take (Tryz.prog.cellsOf 3)) := h 2 _ rfl
    have h5 : Opn Tryz.prog G (d + 2) 3 (([x0, x1, x2, x3, x4, x5, x6, x7].drop 5).take (Tryz.prog.cellsOf 3)) := h 3 _ rfl
    have h6 : Opn Tryz.prog G (d + 2) 24 (([x0, x1, x2, x3, x4, x5, x6, x7].drop 6).take (Tryz.prog.cellsOf 24)) := h 4 _ rfl
    have h7 : Opn Tryz.prog G (d + 2) 3 (([x0, x1, x2, x3, x4, x5, x6, x7].drop 7).take (Tryz.prog.cellsOf 3)) := h 5 _ rfl
    clear h
    rw [c50] at h0
    rw [c48] at h1
    rw [c3] at h4 h5 h7
    rw [c32] at h6
    obtain ⟨k, rfl⟩ := znX u50 h0
    obtain ⟨c0, c1, c2, rfl, rfl, rfl, w0, w1, w2⟩ := zBJ h1
    obtain ⟨a, rfl⟩ := znX Tryz.underlying3 h4
    obtain ⟨b, rfl⟩ := znX Tryz.underlying3 h5
    obtain ⟨s, rfl, hs⟩ := zqW Tryz.underlying24 h6
    obtain ⟨m, rfl⟩ := znX Tryz.underlying3 h7
    exact ⟨⟨k, c0, c1, c2, a, b, s, m⟩, rfl, w0, w1, w2, hs⟩
theorem zF4 {G : GH} {d : Nat} {x : IV} (h : Opn Tryz.prog G (d + 4) 22 [x]) : ∃ a n ts, x = .slice a n ∧ RL tcs G a n ts ∧ (∀ t ∈ ts, t.w) ∧ (n = 0 → a = none ∨ ∃ b e, a = some ⟨b, 0⟩ ∧ BL G b [] e) := by
  rcases zpN Tryz.underlying22 h with h | ⟨b, n, cells, h, h2, h3, h4, h5⟩
  · exact ⟨none, 0, [], h, ⟨rfl, fun hn => by omega⟩, by simp, fun _ => .inl rfl⟩
  · rw [c52] at h3 h5
    obtain ⟨ts, l1, rfl, l3⟩ := zCG (f := tcs) (Q := Tx.w) h3 fun i hi => zHD (d := d) (h5 i hi)
    refine ⟨some ⟨b, 0⟩, n, ts, h, ⟨l1, fun hn => ⟨b, 47, rfl, 0, by decide, h2⟩⟩, l3, fun hn => .inr ⟨b, 47, rfl, 0, by decide, ?_⟩⟩
    subst hn
    have : ts = [] := List.length_eq_zero_iff.1 l1
    subst this
    exact h2
section
variable {R : Type}
theorem yAh {F n : Nat} (hn : 1 ≤ n) : SAh (runC (R := R) Tryz.prog lo0 F n) := by
  obtain ⟨n, rfl⟩ : ∃ j, n = j + 1 := ⟨n - 1, by omega⟩
  intro x i p G h k
  have e : z7 = 54 := rfl
  rw [e, zrb]
  exact zGr x i p G h k
theorem yTn {F n : Nat} (hF : 1 ≤ F) (hn : 5 ≤ n) : STn (runC (R := R) Tryz.prog lo0 F n) := by
  obtain ⟨n, rfl⟩ : ∃ j, n = j + 1 := ⟨n - 1, by omega⟩
  intro a b c ha hb hc G k
  have e : zb4 = 55 := rfl
  rw [e, zqX]
  exact zFN (zt5 hF (by omega)) ha hb hc G k
theorem yRn {F n : Nat} (hn : 2 ≤ n) : SRn (runC (R := R) Tryz.prog lo0 F n) := by
  obtain ⟨n, rfl⟩ : ∃ j, n = j + 1 := ⟨n - 1, by omega⟩
  intro a b c ha hb hc G k
  have e : zeG = 67 := rfl
  rw [e, zuY]
  exact zGw (zpE (by omega)) ha hb hc G k
theorem zJU {F n : Nat} (hF : 1 ≤ F) (hn : 6 ≤ n) : zH0 (runC (R := R) Tryz.prog lo0 F n) := by
  obtain ⟨n, rfl⟩ : ∃ j, n = j + 1 := ⟨n - 1, by omega⟩
  intro t i p hw G k
  have e : zgf = 33 := rfl
  have := zEo (O := runC (R := R) Tryz.prog lo0 F n) (yAh (by omega)) (yTn hF (by omega)) (zt5 hF (by omega)) hF t i p hw G k
  unfold tcs at this ⊢
  rw [e, zus]
  exact this
theorem zJ4 {F n : Nat} (hF : 1 ≤ F) (hn : 3 ≤ n) : zI7 (runC (R := R) Tryz.prog lo0 F n) := by
  obtain ⟨n, rfl⟩ : ∃ j, n = j + 1 := ⟨n - 1, by omega⟩
  intro t i p hw G k
  have e : zlZ = 44 := rfl
  have := zEE (O := runC (R := R) Tryz.prog lo0 F n) (yRn (by omega)) (zpE (by omega)) hF t i p hw G k
  unfold tcs at this ⊢
  rw [e, zyr]
  exact this
theorem yLg {F n : Nat} (hF : 1000 ≤ F) (hn : 1 ≤ n) : SLg (runC (R := R) Tryz.prog lo0 F n) := by
  obtain ⟨n, rfl⟩ : ∃ j, n = j + 1 := ⟨n - 1, by omega⟩
  intro a pa c m qs G hQ k
  have e : zjy = 5 := rfl
  rw [e, zwH]
  exact zFA hF a pa c m qs G hQ k
end
end Go.LI.Film
