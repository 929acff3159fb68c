/- Textures' checks over the interpreter; lists of textures and pictures as arguments. -/
import Derived.Test.YtbjcipikclbecaaTxG
import Derived.Test.YtbjcipikclbecaaLiArgN
namespace Go.LI.Film
open Go.Proofs.Ytbjcipikclbecaa Go Go.Proofs Go.LI Go.LI.Fl
set_option linter.unusedVariables false
set_option maxRecDepth 100000

theorem chunks {α : Type} {f : α → List IV} {Q : α → Prop} {c n : Nat} {cells : List IV} (hl : cells.length = n * c) (h : ∀ i, i < n → ∃ x, (cells.drop (i * c)).take c = f x ∧ Q x) : ∃ xs : List α, xs.length = n ∧ cells = (xs.map f).flatten ∧ ∀ x ∈ xs, Q x := by
  obtain ⟨xs, h1, h2⟩ := choose_list (fun i x => (cells.drop (i * c)).take c = f x ∧ Q x) n h
  refine ⟨xs, h1, ?_, fun x hx => ?_⟩
  · have e : xs.map f = (List.range n).map fun i => (cells.drop (i * c)).take c := by
      refine List.ext_getElem? fun i => ?_
      rw [List.getElem?_map, List.getElem?_map]
      by_cases hi : i < n
      · have hx := List.getElem?_eq_getElem (l := xs) (i := i) (by omega)
        rw [hx, List.getElem?_range hi]
        simp only [Option.map_some]
        rw [(h2 i _ hx).1]
      · rw [List.getElem?_eq_none (by omega), List.getElem?_eq_none (by simp; omega)]; rfl
    rw [e, even_flat n cells hl]
  · obtain ⟨i, hi⟩ := List.getElem?_of_mem hx
    exact (h2 i x hi).2

theorem c3 : Try.prog.cellsOf 3 = 1 := by kernel_rfl
theorem c32 : Try.prog.cellsOf 32 = 1 := by kernel_rfl
theorem c48 : Try.prog.cellsOf 48 = 3 := by kernel_rfl
theorem c50 : Try.prog.cellsOf 50 = 1 := by kernel_rfl
theorem c52 : Try.prog.cellsOf 52 = 8 := by kernel_rfl
theorem c57 : Try.prog.cellsOf 57 = 1 := by kernel_rfl
theorem c59 : Try.prog.cellsOf 59 = 3 := by kernel_rfl
theorem u50 : Try.prog.underlying 50 = some (.int .i64) := by kernel_rfl

theorem opn_struct {P : Program} {G : GH} {d : Nat} {t : TypeId} {fs : Array Field} {cs : List IV} (ht : P.underlying t = some (.struct fs)) (h : Opn P G (d + 1) t cs) : cs.length = P.cellsOf t ∧ ∀ (i : Nat) (f : Field), fs.toList[i]? = some f → Opn P G d f.type ((cs.drop f.offset).take (P.cellsOf f.type)) := by
  unfold Opn at h
  rw [ht] at h
  exact ⟨h.1, fun i f hf => h.2 f (List.mem_of_getElem? hf)⟩
theorem opn_array {P : Program} {G : GH} {d n : Nat} {t e : TypeId} {cs : List IV} (ht : P.underlying t = some (.array n e)) (h : Opn P G (d + 1) t cs) : cs.length = P.cellsOf t ∧ ∀ i, i < n → Opn P G d e ((cs.drop (i * P.cellsOf e)).take (P.cellsOf e)) := by
  unfold Opn at h
  rw [ht] at h
  exact h
theorem opn_slice {P : Program} {G : GH} {d : Nat} {t e : TypeId} {x : IV} (ht : P.underlying t = some (.slice e)) (h : Opn P G (d + 1) t [x]) : x = .slice none 0 ∨ ∃ (b n : Nat) (cells : List IV), x = .slice (some ⟨b, 0⟩) n ∧ G[b]? = some ⟨cells, e, 0⟩ ∧ cells.length = n * P.cellsOf e ∧ n ≤ 140737488355328 ∧
    ∀ i, i < n → Opn P G d e ((cells.drop (i * P.cellsOf e)).take (P.cellsOf e)) := by
  unfold Opn at h
  rw [ht] at h
  rcases h with h | ⟨b, n, cells, h, h2⟩
  · exact .inl (List.cons.inj h).1
  · exact .inr ⟨b, n, cells, (List.cons.inj h).1, h2⟩
theorem opn_int {P : Program} {G : GH} {d : Nat} {t : TypeId} {x : IV} (ht : P.underlying t = some (.int .i64)) (h : Opn P G (d + 1) t [x]) : ∃ n, x = .int .i64 n := by
  unfold Opn at h
  rw [ht] at h
  obtain ⟨n, h, _⟩ := h
  exact ⟨n, (List.cons.inj h).1⟩
theorem opn_flo {P : Program} {G : GH} {d : Nat} {t : TypeId} {x : IV} (ht : P.underlying t = some (.float .f64)) (h : Opn P G (d + 1) t [x]) : ∃ n, x = .float .f64 n ∧ n < 2 ^ 64 := by
  unfold Opn at h
  rw [ht] at h
  obtain ⟨n, h, h2⟩ := h
  exact ⟨n, (List.cons.inj h).1, h2⟩
theorem opn_tri {G : GH} {d : Nat} {x y z : IV} (h : Opn Try.prog G (d + 2) 48 [x, y, z]) : ∃ a b c : Nat, x = .float .f64 a ∧ y = .float .f64 b ∧ z = .float .f64 c ∧ a < 2 ^ 64 ∧ b < 2 ^ 64 ∧ c < 2 ^ 64 := by
  obtain ⟨-, h⟩ := opn_array Try.underlying48 h
  have h0 := h 0 (by omega)
  have h1 := h 1 (by omega)
  have h2 := h 2 (by omega)
  rw [c32] at h0 h1 h2
  obtain ⟨a, rfl, w0⟩ := opn_flo (d := d) Try.underlying32 h0
  obtain ⟨b, rfl, w1⟩ := opn_flo (d := d) Try.underlying32 h1
  obtain ⟨c, rfl, w2⟩ := opn_flo (d := d) Try.underlying32 h2
  exact ⟨a, b, c, rfl, rfl, rfl, w0, w1, w2⟩
theorem opn_tx {G : GH} {d : Nat} {cs : List IV} (h : Opn Try.prog G (d + 3) 52 cs) : ∃ t : Tx, cs = tcs t ∧ t.w := by
  obtain ⟨hl, h⟩ := opn_struct Try.underlying52 h
  rw [c52] at hl
  match cs, hl with
  | [x0, x1, x2, x3, x4, x5, x6, x7], _ =>
    have h0 : Opn Try.prog G (d + 2) 50 (([x0, x1, x2, x3, x4, x5, x6, x7].drop 0).take (Try.prog.cellsOf 50)) := h 0 _ rfl
    have h1 : Opn Try.prog G (d + 2) 48 (([x0, x1, x2, x3, x4, x5, x6, x7].drop 1).take (Try.prog.cellsOf 48)) := h 1 _ rfl
    have h4 : Opn Try.prog G (d + 2) 3 (([x0, x1, x2, x3, x4, x5, x6, x7].drop 4).take (Try.prog.cellsOf 3)) := h 2 _ rfl
    have h5 : Opn Try.prog G (d + 2) 3 (([x0, x1, x2, x3, x4, x5, x6, x7].drop 5).take (Try.prog.cellsOf 3)) := h 3 _ rfl
    have h6 : Opn Try.prog G (d + 2) 32 (([x0, x1, x2, x3, x4, x5, x6, x7].drop 6).take (Try.prog.cellsOf 32)) := h 4 _ rfl
    have h7 : Opn Try.prog G (d + 2) 3 (([x0, x1, x2, x3, x4, x5, x6, x7].drop 7).take (Try.prog.cellsOf 3)) := h 5 _ rfl
    clear h
    rw [c50] at h0
    rw [c48] at h1
    rw [c3] at h4 h5 h7
    rw [c32] at h6
    obtain ⟨k, rfl⟩ := opn_int u50 h0
    obtain ⟨c0, c1, c2, rfl, rfl, rfl, w0, w1, w2⟩ := opn_tri h1
    obtain ⟨a, rfl⟩ := opn_int Try.underlying3 h4
    obtain ⟨b, rfl⟩ := opn_int Try.underlying3 h5
    obtain ⟨s, rfl, hs⟩ := opn_flo Try.underlying32 h6
    obtain ⟨m, rfl⟩ := opn_int Try.underlying3 h7
    exact ⟨⟨k, c0, c1, c2, a, b, s, m⟩, rfl, w0, w1, w2, hs⟩
theorem opn_txs {G : GH} {d : Nat} {x : IV} (h : Opn Try.prog G (d + 4) 22 [x]) : ∃ a n ts, x = .slice a n ∧ RL tcs G a n ts ∧ (∀ t ∈ ts, t.w) ∧ (n = 0 → a = none ∨ ∃ b e, a = some ⟨b, 0⟩ ∧ BL G b [] e) := by
  rcases opn_slice Try.underlying22 h with h | ⟨b, n, cells, h, h2, h3, h4, h5⟩
  · exact ⟨none, 0, [], h, ⟨rfl, fun hn => by omega⟩, by simp, fun _ => .inl rfl⟩
  · rw [c52] at h3 h5
    obtain ⟨ts, l1, rfl, l3⟩ := chunks (f := tcs) (Q := Tx.w) h3 fun i hi => opn_tx (d := d) (h5 i hi)
    refine ⟨some ⟨b, 0⟩, n, ts, h, ⟨l1, fun hn => ⟨b, 52, rfl, 0, by decide, h2⟩⟩, l3, fun hn => .inr ⟨b, 52, rfl, 0, by decide, ?_⟩⟩
    subst hn
    have : ts = [] := List.length_eq_zero_iff.1 l1
    subst this
    exact h2
theorem RL.grow {α : Type} {f : α → List IV} {G : GH} {a : Option GA} {n : Nat} {ps : List α} (h : RL f G a n ps) (G2 : GH) : RL f (G ++ G2) a n ps :=
  ⟨h.1, fun hn => by
    obtain ⟨b, e, h1, md, h2, h3⟩ := h.2 hn
    exact ⟨b, e, h1, md, h2, by rw [List.getElem?_append_left (List.getElem?_eq_some_iff.1 h3).1]; exact h3⟩⟩

section
variable {R : Type}
theorem yAh {F n : Nat} (hn : 1 ≤ n) : SAh (runC (R := R) Try.prog lo0 F n) := by
  obtain ⟨n, rfl⟩ : ∃ j, n = j + 1 := ⟨n - 1, by omega⟩
  intro x i p G h k
  have e : fn_texture_check_1 = 38 := rfl
  rw [e, r_texture_check_1]
  exact ah_body x i p G h k
theorem yTn {F n : Nat} (hF : 1 ≤ F) (hn : 5 ≤ n) : STn (runC (R := R) Try.prog lo0 F n) := by
  obtain ⟨n, rfl⟩ : ∃ j, n = j + 1 := ⟨n - 1, by omega⟩
  intro a b c ha hb hc G k
  have e : fn_texture_numbers = 39 := rfl
  rw [e, r_texture_numbers]
  exact tn_body (wNumber hF (by omega)) ha hb hc G k
theorem yRn {F n : Nat} (hn : 2 ≤ n) : SRn (runC (R := R) Try.prog lo0 F n) := by
  obtain ⟨n, rfl⟩ : ∃ j, n = j + 1 := ⟨n - 1, by omega⟩
  intro a b c ha hb hc G k
  have e : fn_ref09_number = 41 := rfl
  rw [e, r_ref09_number]
  exact rn_body (wQNumber (by omega)) ha hb hc G k
theorem yChp {F n : Nat} (hF : 1 ≤ F) (hn : 6 ≤ n) : SChp (runC (R := R) Try.prog lo0 F n) := by
  obtain ⟨n, rfl⟩ : ∃ j, n = j + 1 := ⟨n - 1, by omega⟩
  intro t i p hw G k
  have e : fn_texture_check = 22 := rfl
  have := chp_body (O := runC (R := R) Try.prog lo0 F n) (yAh (by omega)) (yTn hF (by omega)) (wNumber hF (by omega)) hF t i p hw G k
  unfold tcs at this ⊢
  rw [e, r_texture_check]
  exact this
theorem yChr {F n : Nat} (hF : 1 ≤ F) (hn : 3 ≤ n) : SChr (runC (R := R) Try.prog lo0 F n) := by
  obtain ⟨n, rfl⟩ : ∃ j, n = j + 1 := ⟨n - 1, by omega⟩
  intro t i p hw G k
  have e : fn_ref09_one = 24 := rfl
  have := chr_body (O := runC (R := R) Try.prog lo0 F n) (yRn (by omega)) (wQNumber (by omega)) hF t i p hw G k
  unfold tcs at this ⊢
  rw [e, r_ref09_one]
  exact this
theorem yCkp {F n : Nat} (hF : 1000 ≤ F) (hn : 7 ≤ n) : SCkp (runC (R := R) Try.prog lo0 F n) := by
  obtain ⟨n, rfl⟩ : ∃ j, n = j + 1 := ⟨n - 1, by omega⟩
  intro a pa c m ts G hT hw hc
  have e : fn_texture_Check = 10 := rfl
  obtain ⟨G', k1, h1⟩ := ckp_body (O := runC (R := R) Try.prog lo0 F n) (yChp (by omega) (by omega)) hF a pa c m ts G hT hw hc
  exact ⟨G', k1, fun k => by rw [e, r_texture_Check]; exact h1 k⟩
theorem yCkr {F n : Nat} (hF : 1000 ≤ F) (hn : 4 ≤ n) : SCkr (runC (R := R) Try.prog lo0 F n) := by
  obtain ⟨n, rfl⟩ : ∃ j, n = j + 1 := ⟨n - 1, by omega⟩
  intro a c m ts G hT hw hc k
  have e : fn_ref09_Check = 12 := rfl
  rw [e, r_ref09_Check]
  exact ckr_body (yChr (by omega) (by omega)) hF a c m ts G hT hw hc k
theorem yLg {F n : Nat} (hF : 1000 ≤ F) (hn : 1 ≤ n) : SLg (runC (R := R) Try.prog lo0 F n) := by
  obtain ⟨n, rfl⟩ : ∃ j, n = j + 1 := ⟨n - 1, by omega⟩
  intro a pa c m qs G hQ k
  have e : fn_law09_long = 9 := rfl
  rw [e, r_law09_long]
  exact lg_body hF a pa c m qs G hQ k
theorem yC8 {F n : Nat} (hn : 1 ≤ n) : SC8 (runC (R := R) Try.prog lo0 F n) := by
  obtain ⟨n, rfl⟩ : ∃ j, n = j + 1 := ⟨n - 1, by omega⟩
  intro q G h hq
  have e : fn_law08_Copied = 23 := rfl
  obtain ⟨G', a', k1, h1⟩ := c8_body (O := runC (R := R) Try.prog lo0 F n) (F := F) q G h hq
  exact ⟨G', a', k1, fun k => by rw [e, r_law08_Copied]; exact h1 k⟩
theorem yCp {F n : Nat} (hF : 1000 ≤ F) (hn : 2 ≤ n) : SCp (runC (R := R) Try.prog lo0 F n) := by
  obtain ⟨n, rfl⟩ : ∃ j, n = j + 1 := ⟨n - 1, by omega⟩
  intro a c qs G hQ hP hc hq
  have e : fn_law09_Copied = 11 := rfl
  obtain ⟨G', a', k1, h1⟩ := cp_body (O := runC (R := R) Try.prog lo0 F n) (yC8 (by omega)) hF a c qs G hQ hP hc hq
  exact ⟨G', a', k1, fun k => by rw [e, r_law09_Copied]; exact h1 k⟩
/-- TextureChecks gives true. -/
theorem s3 {F n : Nat} (hF : 1000 ≤ F) (hn : 7 ≤ n) (hA : SQAw (runC (R := R) Try.prog lo0 F n)) (a pa : Option GA) (c m : Nat) (ts : List Tx) (qs : List Pc) (G : GH) (hT : RL tcs G a c ts) (hB : c = 0 → a = none ∨ ∃ b e, a = some ⟨b, 0⟩ ∧ BL G b [] e) (hQ : RL pics G pa m qs) (hw : ∀ t ∈ ts, t.w) (hX : ∀ q ∈ qs, PxOk G q) :
    ∃ G', ∀ (k : IV → GH → Option R), runC Try.prog lo0 F (n + 1) 3 [.slice a c, .slice pa m] G k = k (.bool true) G' := by
  obtain ⟨G', h⟩ := checks_body (O := runC (R := R) Try.prog lo0 F n) hA (yLg hF (by omega)) (yCp hF (by omega)) (yCkp hF (by omega)) (yCkr hF (by omega)) (F := F) a pa c m ts qs G hT hB hQ hw hX
  exact ⟨G', fun k => by rw [r_law09_TextureChecks]; exact h k⟩
end
end Go.LI.Film
