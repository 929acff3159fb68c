/- A list, pictures with their samples, and a place, as an argument. -/
import Derived.Test.YtbjcipikclbecaaTvG
import Derived.Test.YtbjcipikclbecaaLiArgN
namespace Go.LI.Film
open Go.Proofs.Ytbjcipikclbecaa Go Go.Proofs Go.LI Go.LI.Fl
set_option linter.unusedVariables false
set_option linter.unusedSimpArgs false
set_option maxRecDepth 100000

theorem c22 : Try.prog.cellsOf 22 = 1 := by kernel_rfl
theorem c23 : Try.prog.cellsOf 23 = 1 := by kernel_rfl
theorem c34 : Try.prog.cellsOf 34 = 2 := by kernel_rfl
theorem c36 : Try.prog.cellsOf 36 = 7 := by kernel_rfl
theorem c37 : Try.prog.cellsOf 37 = 4 := by kernel_rfl

theorem opn_triC {G : GH} {d : Nat} {cs : List IV} (h : Opn Try.prog G (d + 2) 48 cs) : ∃ c : Tri, cs = tri c ∧ Tri.w c := by
  have hl := (opn_array Try.underlying48 h).1
  rw [c48] at hl
  match cs, hl with
  | [x, y, z], _ =>
    obtain ⟨a, b, c, rfl, rfl, rfl, w⟩ := opn_tri h
    exact ⟨(a, b, c), rfl, w⟩
theorem opn_span {G : GH} {d : Nat} {cs : List IV} (h : Opn Try.prog G (d + 2) 34 cs) : ∃ a b : Nat, cs = [.float .f64 a, .float .f64 b] ∧ a < 2 ^ 64 ∧ b < 2 ^ 64 := by
  obtain ⟨hl, h⟩ := opn_struct Try.underlying34 h
  rw [c34] at hl
  match cs, hl with
  | [x0, x1], _ =>
    have h0 : Opn Try.prog G (d + 1) 32 (([x0, x1].drop 0).take (Try.prog.cellsOf 32)) := h 0 _ rfl
    have h1 : Opn Try.prog G (d + 1) 32 (([x0, x1].drop 1).take (Try.prog.cellsOf 32)) := h 1 _ rfl
    clear h
    rw [c32] at h0 h1
    obtain ⟨a, rfl, wa⟩ := opn_flo Try.underlying32 h0
    obtain ⟨b, rfl, wb⟩ := opn_flo Try.underlying32 h1
    exact ⟨a, b, rfl, wa, wb⟩
theorem opn_picV {G : GH} {d : Nat} {cs : List IV} (h : Opn Try.prog G (d + 4) 59 cs) : ∃ q : Pc, cs = pics q ∧ ∃ p : Pi, PxV G q p ∧ p.w' := by
  obtain ⟨hl, h⟩ := opn_struct Try.underlying59 h
  rw [c59] at hl
  match cs, hl with
  | [x0, x1, x2], _ =>
    have h0 : Opn Try.prog G (d + 3) 3 (([x0, x1, x2].drop 0).take (Try.prog.cellsOf 3)) := h 0 _ rfl
    have h1 : Opn Try.prog G (d + 3) 3 (([x0, x1, x2].drop 1).take (Try.prog.cellsOf 3)) := h 1 _ rfl
    have h2 : Opn Try.prog G (d + 3) 57 (([x0, x1, x2].drop 2).take (Try.prog.cellsOf 57)) := h 2 _ rfl
    clear h
    rw [c3] at h0 h1
    rw [c57] at h2
    obtain ⟨w, rfl⟩ := opn_int Try.underlying3 h0
    obtain ⟨v, rfl⟩ := opn_int Try.underlying3 h1
    rcases opn_slice Try.underlying57 h2 with rfl | ⟨b, n, cells, rfl, h3, h4, h5, h6⟩
    · exact ⟨⟨w, v, none, 0⟩, rfl, ⟨w, v, []⟩, ⟨rfl, rfl, rfl, .inl ⟨rfl, rfl⟩⟩, fun c hc => by cases hc⟩
    · rw [c48] at h4 h6
      obtain ⟨xs, l1, rfl, l3⟩ := chunks (f := tri) (Q := Tri.w) h4 fun i hi => opn_triC (d := d) (h6 i hi)
      exact ⟨⟨w, v, some ⟨b, 0⟩, n⟩, rfl, ⟨w, v, xs⟩, ⟨rfl, rfl, l1, .inr ⟨b, rfl, 0, by decide, h3⟩⟩, l3⟩
theorem opn_picsV {G : GH} {d : Nat} {x : IV} (h : Opn Try.prog G (d + 5) 23 [x]) : ∃ a n ps, x = .slice a n ∧ PV G a n ps ∧ ∀ p ∈ ps, Pi.w' p := by
  rcases opn_slice Try.underlying23 h with h | ⟨b, n, cells, h, h2, h3, h4, h5⟩
  · exact ⟨none, 0, [], h, ⟨[], ⟨rfl, fun hn => by omega⟩, rfl, fun i q p hq => by simp at hq⟩, by simp⟩
  · rw [c59] at h3 h5
    obtain ⟨qs, l1, rfl, l3⟩ := chunks (f := pics) (Q := fun q => ∃ p : Pi, PxV G q p ∧ p.w') h3 fun i hi => opn_picV (d := d) (h5 i hi)
    obtain ⟨ps, m1, m2⟩ := choose_list (fun i (p : Pi) => ∀ q, qs[i]? = some q → PxV G q p ∧ p.w') n fun i hi => by
      obtain ⟨p, hp⟩ := l3 _ (List.getElem_mem (by omega : i < qs.length))
      exact ⟨p, fun q hq => by rw [List.getElem?_eq_getElem (by omega)] at hq; injection hq with hq; subst hq; exact hp⟩
    refine ⟨some ⟨b, 0⟩, n, ps, h, ⟨qs, ⟨l1, fun hn => ⟨b, 59, rfl, 0, by decide, h2⟩⟩, by omega, fun i q p hq hp => (m2 i p hp q hq).1⟩, fun p hp => ?_⟩
    obtain ⟨i, hi⟩ := List.getElem?_of_mem hp
    have hil : i < qs.length := by have := (List.getElem?_eq_some_iff.1 hi).1; omega
    exact (m2 i p hi _ (List.getElem?_eq_getElem hil)).2
/-- A list, pictures, a place. -/
structure WhO (G : GH) (cs : List IV) : Prop where
  at' : ∃ a n ts pa m ps x u0 u1 v0 v1, cs = [.slice a n, .slice pa m, .int .i64 x, .float .f64 u0, .float .f64 u1, .float .f64 v0, .float .f64 v1] ∧ RL tcs G a n ts ∧ TsW ts ∧ (n = 0 → a = none ∨ ∃ b e, a = some ⟨b, 0⟩ ∧ BL G b [] e) ∧ PV G pa m ps ∧ (∀ p ∈ ps, Pi.w' p) ∧ u0 < 2 ^ 64 ∧ u1 < 2 ^ 64 ∧ v0 < 2 ^ 64 ∧ v1 < 2 ^ 64
theorem opn_where {G : GH} {d : Nat} {cs : List IV} (h : Opn Try.prog G (d + 6) 36 cs) : WhO G cs := by
  obtain ⟨hl, h⟩ := opn_struct Try.underlying36 h
  rw [c36] at hl
  match cs, hl with
  | [x0, x1, x2, x3, x4, x5, x6], _ =>
    have h0 : Opn Try.prog G (d + 5) 22 (([x0, x1, x2, x3, x4, x5, x6].drop 0).take (Try.prog.cellsOf 22)) := h 0 _ rfl
    have h1 : Opn Try.prog G (d + 5) 23 (([x0, x1, x2, x3, x4, x5, x6].drop 1).take (Try.prog.cellsOf 23)) := h 1 _ rfl
    have h2 : Opn Try.prog G (d + 5) 3 (([x0, x1, x2, x3, x4, x5, x6].drop 2).take (Try.prog.cellsOf 3)) := h 2 _ rfl
    have h3 : Opn Try.prog G (d + 5) 34 (([x0, x1, x2, x3, x4, x5, x6].drop 3).take (Try.prog.cellsOf 34)) := h 3 _ rfl
    have h4 : Opn Try.prog G (d + 5) 34 (([x0, x1, x2, x3, x4, x5, x6].drop 5).take (Try.prog.cellsOf 34)) := h 4 _ rfl
    clear h
    rw [c22] at h0
    rw [c23] at h1
    rw [c3] at h2
    rw [c34] at h3 h4
    obtain ⟨a, n, ts, e0, hT, hw, hB⟩ := opn_txs h0
    obtain ⟨pa, m, ps, e1, hP, hp⟩ := opn_picsV h1
    obtain ⟨x, e2⟩ := opn_int Try.underlying3 h2
    obtain ⟨u0, u1, e3, w0, w1⟩ := opn_span h3
    obtain ⟨v0, v1, e5, w2, w3⟩ := opn_span h4
    have e3' : [x3, x4] = [IV.float .f64 u0, .float .f64 u1] := e3
    have e5' : [x5, x6] = [IV.float .f64 v0, .float .f64 v1] := e5
    injection e3' with q3 q4
    injection q4 with q4 _
    injection e5' with q5 q6
    injection q6 with q6 _
    subst e0 e1 e2 q3 q4 q5 q6
    exact ⟨a, n, ts, pa, m, ps, x, u0, u1, v0, v1, rfl, hT, hw, hB, hP, hp, w0, w1, w2, w3⟩
end Go.LI.Film
