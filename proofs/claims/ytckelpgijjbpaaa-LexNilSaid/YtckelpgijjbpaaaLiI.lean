/- Operations that make or write memory. -/
import Derived.Test.YtckelpgijjbpaaaLiH
import Derived.Lib.ConvBytes
namespace Go.LI
open Go Go.RowKit

section
variable {R : Type} {P : Program} {B K : Nat → Prop} {w0 : World} {m : Map} {F : List (List IV)} {G : GH} {w : World} {O : Ora R} {lo : List Nat} {sand : Bool} {o : Oper} {env : List IV} {a : Act} {k : IV → List (List IV) → GH → Option R} {r : R}

def pushRow (w : World) (c : Array Value) (t : TypeId) : World := { w with heap := w.heap.push (.cells c t) }
theorem grown_push (w : World) (c : Array Value) (t : TypeId) : Grown w (pushRow w c t) c t (0, 0) :=
  { below := ⟨rfl, rfl, rfl, by simp [pushRow], fun i hi => by simp only [pushRow]; rw [Array.getElem?_push, if_neg (by omega)]⟩, row := by show (w.heap.push _)[w.heap.size]? = _; simp }
theorem run_newRow (e : TypeId) (c : Array Value) : (newRow e c).run P w = .ok ⟨w.heap.size, 0, none⟩ (pushRow w c e) := by
  simp only [newRow, Sem.run_bind, run_newObj, Result.andThen_ok, Sem.run_pure, pushRow]

/-- An operation that is no call of a Go function: what it does. -/
def StepOk (P : Program) (B K : Nat → Prop) (w0 : World) (m : Map) (o : Oper) (a : Act) (w : World) (k : IV → List (List IV) → GH → Option R) (r : R) : Prop :=
  ∃ v v' m' w' F' G', (∀ (next : Act → World → Prop) (Q : Exit → Act → World → Prop), next (a.put o.dst v') w' → o.wp P a w next Q) ∧ m.le m' ∧ HRel P B K w0 m' F' G' w' ∧ VRel m' v v' ∧ k v F' G' = some r

theorem wp_of_value {v' : Value} {w' : World} (h : (execOp a.eval o).run P w = .ok (.value v') w') (next : Act → World → Prop) (Q : Exit → Act → World → Prop) (hn : next (a.put o.dst v') w') : o.wp P a w next Q := by
  unfold Oper.wp
  rw [h, Oper.upon_value]
  exact hn
theorem wp_of_skip {w' : World} (h : (execOp a.eval o).run P w = .ok .skip w') (next : Act → World → Prop) (Q : Exit → Act → World → Prop) (hn : next (a.put o.dst Go.undef) w') : o.wp P a w next Q := by
  unfold Oper.wp
  rw [h, Oper.upon_skip]
  exact hn

theorem step_of_quiet (h : QuietOk P m o a w F G k r) (hR : HRel P B K w0 m F G w) : StepOk P B K w0 m o a w k r := by
  obtain ⟨v, v', h1, h2, h3⟩ := h
  exact ⟨v, v', m, w, F, G, wp_of_value (h1 w (Below.refl _ _)), m.le_refl, hR, h2, h3⟩

theorem cellsAt_noF {cs : List IV} {c : Array Value} (h : ARel m cs c) (hn : noLocs cs = true) (hc : cellsI cs = true) : ∀ (i : Nat) (iv : IV), cs[i]? = some iv → ∃ v, c[i]? = some v ∧ VRel m.noF iv v ∧ v.oneCell' = true := by
  intro i iv hi
  obtain ⟨v, h1, h2⟩ := h.get hi
  exact ⟨v, h1, h2.noF (noLocs_get' hn hi), cellI_one h2 (cellsI_get hc hi)⟩

theorem alloc_rel {R : Type} {k : IV → List (List IV) → GH → Option R} {r : R} {dst : Option Tmp} {t : TypeId} {cs : List IV} {c : Array Value} (h : allocC lo dst t cs F G k = some r) (hA : ARel m cs c) (hR : HRel P B K w0 m F G w) :
    ∃ v m' F' G', m.le m' ∧ HRel P B K w0 m' F' G' (pushRow w c t) ∧ VRel m' v (.pointer (some ⟨w.heap.size, 0, none⟩)) ∧ k v F' G' = some r := by
  unfold allocC at h
  split at h
  · refine ⟨_, m.addF F.length w.heap.size, _, _, Map.le_addF (hR.f_none (Nat.le_refl _)), hR.newF (grown_push w c t) hA, ?_, h⟩
    exact .loc _ _ _ (by simp [Map.addF])
  · split at h
    · rename_i hc
      simp only [Bool.and_eq_true] at hc
      refine ⟨_, m.addG G.length _, _, _, Map.le_addG (hR.g_none (Nat.le_refl _)), hR.newG (grown_push w c t) (cellsAt_noF hA hc.1 hc.2) (by rw [hA.1]; exact Nat.le_refl _) (fun o _ => by simp), ?_, h⟩
      exact .ptr (gaddr G) _ (Map.addG_self _ _ _)
    · cases h

theorem s_alloc {t : TypeId} (ho : o.op = .alloc t) (h : opC P O lo sand o env F G k = some r) (hR : HRel P B K w0 m F G w) : StepOk P B K w0 m o a w k r := by
  simp only [opC, ho] at h
  split at h
  · rename_i z hz
    obtain ⟨i, zv, h1, h2, h3⟩ := zeroT_some hz
    obtain ⟨v, m', F', G', a1, a2, a3, a4⟩ := alloc_rel h (cells_rel (ofValue_rel h3)) hR
    refine ⟨v, _, m', _, F', G', wp_of_value ?_, a1, a2, a3, a4⟩
    simp only [execOp, ho]
    refine run_v ?_
    simp only [Instr.alloc, zeroValue, typeInfo, Sem.run_bind, run_program, Result.andThen_ok, h1, h2, Sem.run_pure, newVar, run_newRow]
  · cases h

theorem s_box {t : TypeId} {x : Operand} (ho : o.op = .box t x) (h : opC P O lo sand o env F G k = some r) (hE : ERel m env a.tmps) (hR : HRel P B K w0 m F G w) : StepOk P B K w0 m o a w k r := by
  simp only [opC, ho] at h
  split at h
  · rename_i z hz
    obtain ⟨v, m', F', G', a1, a2, a3, a4⟩ := alloc_rel h (cells_rel (ev_rel hE hz)) hR
    refine ⟨v, _, m', _, F', G', wp_of_value ?_, a1, a2, a3, a4⟩
    simp only [execOp, ho]
    refine run_v ?_
    simp only [Instr.box, newVar, Sem.run_bind, run_newRow, Result.andThen_ok, Sem.run_pure]
  · cases h

theorem s_store {t : TypeId} {x y : Operand} (ho : o.op = .store t x y) (h : opC P O lo sand o env F G k = some r) (hE : ERel m env a.tmps) (hR : HRel P B K w0 m F G w) : StepOk P B K w0 m o a w k r := by
  simp only [opC, ho] at h
  split at h
  · rename_i vx vy hx hy
    obtain ⟨w', F', G', h1, h2, h3⟩ := store_rel hR h (ev_rel hE hx) (ev_rel hE hy)
    refine ⟨undefI, Go.undef, m, w', F', G', wp_of_skip ?_, m.le_refl, h2, VRel.undef m, h3⟩
    simp [execOp, ho, h1]
  · cases h

/-! ### Slices that are made -/
theorem getElem!_of {zero : Array Value} {i : Nat} (h : i < zero.size) : zero[i]! = zero[i] := by simp [h]

/-- n times the same cells. -/
theorem rep_get {z : List IV} : ∀ {n i : Nat} {iv : IV}, ((List.replicate n z).flatten)[i]? = some iv → z[i % z.length]? = some iv ∧ i < n * z.length
  | 0, i, iv, h => by simp at h
  | n + 1, i, iv, h => by
    simp only [List.replicate_succ, List.flatten_cons] at h
    by_cases hi : i < z.length
    · rw [List.getElem?_append_left hi] at h
      exact ⟨by rw [Nat.mod_eq_of_lt hi]; exact h, by rw [Nat.add_mul]; omega⟩
    · rw [List.getElem?_append_right (by omega)] at h
      obtain ⟨h1, h2⟩ := rep_get h
      refine ⟨?_, by rw [Nat.add_mul]; omega⟩
      rw [← h1]
      congr 1
      rw [Nat.mod_eq_sub_mod (by omega)]

theorem noLocs_rep {z : List IV} (h : noLocs z = true) : ∀ n, noLocs (List.replicate n z).flatten = true
  | 0 => rfl
  | n + 1 => by
    simp only [List.replicate_succ, List.flatten_cons]
    exact noLocs_append h (noLocs_rep h n)
where
  noLocs_append : ∀ {a b : List IV}, noLocs a = true → noLocs b = true → noLocs (a ++ b) = true
    | [], b, _, h => h
    | x :: a, b, h, k => by simp [noLocs] at h ⊢; exact ⟨h.1, noLocs_append h.2 k⟩

theorem run_zero {e : TypeId} {i : TypeInfo} {zv : Value} (h1 : P.info? e = some i) (h2 : i.zero = some zv) : (zeroValue e).run P w = .ok zv w := by
  simp only [zeroValue, typeInfo, Sem.run_bind, run_program, Result.andThen_ok, h1, h2, Sem.run_pure]

/-- Zeros that stand in a row. -/
theorem zeros_rel {z : IV} {zv : Value} (hz : ofValue zv = some z) {n s : Nat} (hs : z.cells.length = s) (hp : 0 < s) (hnl : noLocs z.cells = true) (hc : cellsI z.cells = true) {c : Array Value}
    (hc0 : ∀ i, i < n * s → c[i]? = some (zv.cells[i % zv.cells.size]!)) :
    ∀ (i : Nat) (iv : IV), ((List.replicate n z.cells).flatten)[i]? = some iv → ∃ v, c[i]? = some v ∧ VRel m.noF iv v ∧ v.oneCell' = true := by
  intro i iv hi
  obtain ⟨h1, h2⟩ := rep_get hi
  have hA := cells_rel (ofValue_rel (m := m) hz)
  have hsz : zv.cells.size = s := by rw [← hA.1]; exact hs
  have hlt : i % zv.cells.size < zv.cells.size := Nat.mod_lt _ (by omega)
  rw [hs] at h1 h2
  have hr := hA.2 (i % s) iv zv.cells[i % zv.cells.size] h1 (by rw [← hsz]; exact Array.getElem?_eq_getElem hlt)
  refine ⟨_, hc0 i h2, ?_, ?_⟩ <;> rw [getElem!_of hlt]
  · exact hr.noF (noLocs_get' hnl h1)
  · exact cellI_one hr (cellsI_get hc h1)

theorem rep_len (z : List IV) (n : Nat) : (List.replicate n z).flatten.length = n * z.length := by simp

theorem s_makeSlice {t : TypeId} {l c : Operand} (ho : o.op = .makeSlice t l c) (h : opC P O lo sand o env F G k = some r) (hE : ERel m env a.tmps) (hR : HRel P B K w0 m F G w) : StepOk P B K w0 m o a w k r := by
  simp only [opC, ho] at h
  split at h
  · rename_i e k1 ln k2 cn hu hl hc
    have hb1 := ev_rel hE hl
    have hb2 := ev_rel hE hc
    generalize hv1 : a.eval l = v1 at hb1
    generalize hv2 : a.eval c = v2 at hb2
    cases hb1; cases hb2
    split at h
    · rename_i i z hi hz
      by_cases hcond : (0 ≤ ln ∧ ln ≤ cn ∧ cn * i.bytes ≤ roomI ∧ cn ≤ roomI) ∧ (z.cells.length = i.size ∧ 0 < i.size) ∧ (noLocs z.cells = true ∧ cellsI z.cells = true)
      · obtain ⟨⟨q1, q2, q3, q4⟩, ⟨q5, q6⟩, q7, q8⟩ := hcond
        rw [show (decide (0 ≤ ln ∧ ln ≤ cn ∧ cn * i.bytes ≤ roomI ∧ cn ≤ roomI) && decide (z.cells.length = i.size ∧ 0 < i.size) && (noLocs z.cells && cellsI z.cells)) = true by simp [q1, q2, q3, q4, q5, q6, q7, q8]] at h
        obtain ⟨i', zv, z1, z2, z3⟩ := zeroT_some hz
        have : i' = i := by rw [hi] at z1; injection z1 with z1; exact z1.symm
        subst this
        have hsz : P.cellsOf e = i'.size := by simp [Program.cellsOf, hi]
        obtain ⟨N, hN⟩ : ∃ N, cn.toNat * i'.size = N := ⟨_, rfl⟩
        let row : Array Value := (Array.range N).map fun x => zv.cells[x % zv.cells.size]!
        have hrow : row.size = cn.toNat * i'.size := by simp [row, hN]
        have hgr := grown_push w row e
        have hrun : (Instr.makeSlice t (.int k1 ln) (.int k2 cn)).run P w = .ok (.slice (some ⟨w.heap.size, 0, none⟩) ln.toNat cn.toNat) (pushRow w row e) := by
          have w1 : IntKind.i64.wrap ln = ln := IntWalk.i64_in _ (by unfold roomI at q4; omega)
          have w2 : IntKind.i64.wrap cn = cn := IntWalk.i64_in _ (by unfold roomI at q4; omega)
          have n1 : ¬ (cn < 0) := by omega
          have n2 : ¬ (281474976710656 < (i'.bytes : Int) * cn) := by rw [Int.mul_comm]; unfold roomI at q3; omega
          have n5 : Array.range 0 = #[] := rfl
          have n3 : ¬ (ln < 0) := by omega
          have n4 : ¬ (ln > cn) := by omega
          cases N with
          | zero => simp [Instr.makeSlice, run_und hu, typeInfo, hi, asInt, asIntOf, w1, w2, n1, n2, n3, n4, n5, run_sizeI hi, hN, run_newRow, row]
          | succ N => simp [Instr.makeSlice, run_und hu, typeInfo, hi, asInt, asIntOf, w1, w2, n1, n2, n3, n4, run_sizeI hi, hN, run_newRow, run_zero hi z2, row]
        refine ⟨_, _, _, _, _, _, wp_of_value (v' := .slice (some ⟨w.heap.size, 0, none⟩) ln.toNat cn.toNat) (w' := pushRow w row e) ?_, Map.le_addG (hR.g_none (Nat.le_refl _)), hR.newG hgr (cells := (List.replicate ln.toNat z.cells).flatten) (zeros_rel z3 q5 q6 q7 q8 ?_) ?_ (fun o _ => by simp), ?_, h⟩
        · simp only [execOp, ho, hv1, hv2]
          exact run_v hrun
        · intro x hx
          have hx' : x < N := by rw [← hN]; exact Nat.lt_of_lt_of_le hx (Nat.mul_le_mul_right _ (by omega))
          simp [row, hx']
        · rw [rep_len, hrow, q5]; exact Nat.mul_le_mul_right _ (by omega)
        · refine .slice (gaddr G) _ _ _ (Map.addG_self _ _ _) (by omega) fun _ => ?_
          simp [gaddr, hrow, hsz]
      · rw [show (decide (0 ≤ ln ∧ ln ≤ cn ∧ cn * i.bytes ≤ roomI ∧ cn ≤ roomI) && decide (z.cells.length = i.size ∧ 0 < i.size) && (noLocs z.cells && cellsI z.cells)) = false by
          rw [Bool.eq_false_iff]; intro hb; apply hcond; simpa [and_assoc] using hb] at h
        cases h
    · cases h
  · cases h

theorem arep_rel {z : IV} {zv : Value} (hz : ofValue zv = some z) {n s : Nat} (hs : z.cells.length = s) (hp : 0 < s) :
    ARel m (List.replicate n z.cells).flatten ((Array.range (n * s)).map fun x => zv.cells[x % zv.cells.size]!) := by
  have hA := cells_rel (ofValue_rel (m := m) hz)
  have hsz : zv.cells.size = s := by rw [← hA.1]; exact hs
  refine ⟨by rw [rep_len, hs]; simp, fun i iv v hi hv => ?_⟩
  obtain ⟨h1, h2⟩ := rep_get hi
  rw [hs] at h1 h2
  have hlt : i % zv.cells.size < zv.cells.size := Nat.mod_lt _ (by omega)
  simp [h2] at hv
  rw [← hv, getElem!_of hlt]
  exact hA.2 (i % s) iv zv.cells[i % zv.cells.size] h1 (by rw [← hsz]; exact Array.getElem?_eq_getElem hlt)

theorem s_buildSlice {t : TypeId} {len : Nat} {ps : Array (Nat × Operand)} (ho : o.op = .buildSlice t len ps) (h : opC P O lo sand o env F G k = some r) (hE : ERel m env a.tmps) (hR : HRel P B K w0 m F G w) : StepOk P B K w0 m o a w k r := by
  simp only [opC, ho] at h
  split at h
  · rename_i e vs hu hv
    split at h
    · rename_i z hz
      split at h
      · rename_i hc
        obtain ⟨q1, q2, q3⟩ := hc
        split at h
        · rename_i cs hcs
          split at h
          · rename_i hn
            simp only [Bool.and_eq_true] at hn
            obtain ⟨i, zv, z1, z2, z3⟩ := zeroT_some hz
            have hsz : P.cellsOf e = i.size := by simp [Program.cellsOf, z1]
            obtain ⟨out', h4, h5⟩ := fill_rel (evParts_rel hE hv) (arep_rel (m := m) (n := len) z3 q2 q3) hcs
            have hrun : (Instr.buildSlice t len (ps.map fun (i, x) => (i, a.eval x))).run P w = .ok (.slice (some ⟨w.heap.size, 0, none⟩) len len) (pushRow w out' e) := by
              have h4' : Instr.fill (fun x => some (x * i.size, i.size)) ((Array.range (len * i.size)).map fun x => zv.cells[x % zv.cells.size]!) (ps.map fun (i, x) => (i, a.eval x)).toList = some out' := by
                rw [← hsz, ← h4]; simp
              have n1 : ¬ (len * i.size > 2 ^ 24) := by rw [← hsz]; omega
              simp only [Instr.buildSlice, Sem.run_bind, run_und hu, Result.andThen_ok, run_sizeI z1, if_neg n1]
              by_cases hz0 : len * i.size = 0
              · have e1 : (Array.range (len * i.size)) = #[] := by rw [hz0]; rfl
                rw [e1] at h4'
                simp only [Array.map_empty] at h4'
                simp only [hz0, if_true]
                simp only [show Array.range 0 = #[] from rfl, Array.map_empty, h4', Sem.run_bind, run_newRow, Result.andThen_ok, Sem.run_pure]
              · simp only [if_neg hz0, Sem.run_bind, run_zero z1 z2, Result.andThen_ok, Sem.run_pure, h4', run_newRow]
            refine ⟨_, _, _, _, _, _, wp_of_value (v' := .slice (some ⟨w.heap.size, 0, none⟩) len len) (w' := pushRow w out' e) ?_, Map.le_addG (hR.g_none (Nat.le_refl _)), hR.newG (grown_push w out' e) (cellsAt_noF h5 hn.1 hn.2) (by rw [h5.1]; exact Nat.le_refl _) (fun o _ => by simp), ?_, h⟩
            · simp only [execOp, ho]
              exact run_v hrun
            · refine .slice (gaddr G) _ _ _ (Map.addG_self _ _ _) (Nat.le_refl _) fun _ => ?_
              have hl : out'.size = len * P.cellsOf e := by
                rw [← h5.1, fillI_len hcs, rep_len, q2]
              simp [gaddr, hl]
          · cases h
        · cases h
      · cases h
    · cases h
  · cases h
where
  fillI_len : ∀ {place : Nat → Option (Nat × Nat)} {vs : List (Nat × IV)} {cs out : List IV}, fillI place cs vs = some out → out.length = cs.length
    | _, [], cs, out, h => by simp [fillI] at h; subst h; rfl
    | _, (i, v) :: vs, cs, out, h => by
      simp only [fillI] at h
      split at h
      · cases h
      · split at h
        · cases h
        · rename_i hn
          rw [fillI_len h, splice_len (by omega)]

/-! ### append -/
/-- A row that is not anyone's yet is taken into the shared heap. -/
theorem HRel.addEnt (h : HRel P B K w0 m F G w) {e' : Ent} {c : Array Value} {t : TypeId} {fr : Nat × Nat} (hrow : w.heap[e'.blk]? = some (.cells c t fr)) {cells : List IV}
    (hc : ∀ (i : Nat) (iv : IV), cells[i]? = some iv → ∃ v, c[e'.off + i]? = some v ∧ VRel m.noF iv v ∧ v.oneCell' = true) (hl : e'.off + cells.length ≤ c.size) (hfr : ∀ o, o < c.size → ¬ (fr.1 ≤ o ∧ o < fr.2))
    (hK : ¬ K e'.blk) (hrw : e'.rw = true) (hez : e'.esz = P.cellsOf t) (hsz : c.size = e'.off + e'.size)
    (fg : ∀ (b : Nat) (k : Blk) (e : Ent), G[b]? = some k → k.mode = 1 → m.g b = some e → e.blk ≠ e'.blk) (ff : ∀ i r, m.f i = some r → e'.blk ≠ r) :
    HRel P B K w0 (m.addG G.length e') F (gnew G cells t) w := by
  have hle : m.le (m.addG G.length e') := Map.le_addG (h.g_none (Nat.le_refl _))
  have hgm : ∀ b e, (m.addG G.length e').g b = some e → (b = G.length ∧ e = e') ∨ (b < G.length ∧ m.g b = some e) := by
    intro b e he
    simp only [Map.addG] at he
    split at he
    · rename_i hb; injection he with he; exact .inl ⟨hb, he.symm⟩
    · exact .inr ⟨h.gdom _ _ he, he⟩
  have hget : ∀ b, b < G.length → (gnew G cells t)[b]? = G[b]? := fun b hb => List.getElem?_append_left hb
  have hget' : (gnew G cells t)[G.length]? = some ⟨cells, t, 1⟩ := by simp [gnew]
  refine { bk := h.bk, frame := h.frame, os := h.os, tape := h.tape, output := h.output, size := h.size, gdom := ?_, fdom := h.fdom, gblk := ?_, fblk := ?_, ginj := ?_, gf := ?_, finj := h.finj }
  · intro b e he
    rcases hgm b e he with ⟨rfl, _⟩ | ⟨hb, _⟩ <;> simp [gnew] <;> omega
  · intro b k e hk hm he
    rcases hgm b e he with ⟨rfl, rfl⟩ | ⟨hb, he'⟩
    · rw [hget'] at hk
      injection hk with hk
      subst hk
      refine ⟨c, t, fr, { row := hrow, fits := hl, cells := fun i iv hi => ?_, ro := fun h => by simp at h, esz := fun _ => hez, rw := fun _ => ⟨hK, rfl, hrw, hsz, hfr⟩ }⟩
      obtain ⟨v, h1, h2, h3⟩ := hc i iv hi
      exact ⟨v, h1, h2.mono (Map.noF_mono hle), h3⟩
    · rw [hget b hb] at hk
      obtain ⟨c', t', fr', hgb⟩ := h.gblk b k e hk hm he'
      exact ⟨c', t', fr', { hgb with cells := fun i iv hi => by obtain ⟨v, h1, h2, h3⟩ := hgb.cells i iv hi; exact ⟨v, h1, h2.mono (Map.noF_mono hle), h3⟩ }⟩
  · intro i cs b hi hb
    obtain ⟨c', t', hf⟩ := h.fblk i cs b hi hb
    exact ⟨c', t', { hf with cells := fun j iv hj => by obtain ⟨v, h1, h2⟩ := hf.cells j iv hj; exact ⟨v, h1, h2.mono hle⟩ }⟩
  · intro b1 b2 k1 k2 e1 e2 h1 h2 m1 m2 g1 g2 hne
    rcases hgm b1 e1 g1 with ⟨rfl, rfl⟩ | ⟨hb1, g1'⟩
    · rcases hgm b2 e2 g2 with ⟨rfl, rfl⟩ | ⟨hb2, g2'⟩
      · exact absurd rfl hne
      · rw [hget b2 hb2] at h2
        exact (fg b2 k2 e2 h2 m2 g2').symm
    · rw [hget b1 hb1] at h1
      rcases hgm b2 e2 g2 with ⟨rfl, rfl⟩ | ⟨hb2, g2'⟩
      · exact fg b1 k1 e1 h1 m1 g1'
      · rw [hget b2 hb2] at h2
        exact h.ginj b1 b2 k1 k2 e1 e2 h1 h2 m1 m2 g1' g2' hne
  · intro b i k e r h1 h2 g1 hr
    rcases hgm b e g1 with ⟨rfl, rfl⟩ | ⟨hb1, g1'⟩
    · exact ff i r hr
    · rw [hget b hb1] at h1
      exact h.gf b i k e r h1 h2 g1' hr

/-- A row is written that no live block stands at. -/
theorem HRel.over (h : HRel P B K w0 m F G w) {b : Nat} {c' : Array Value} {t : TypeId} {fr : Nat × Nat} {w' : World} (hw : Wrote w w' b c' t fr) (hK : ¬ K b)
    (fg : ∀ (i : Nat) (k : Blk) (e : Ent), G[i]? = some k → k.mode = 1 → m.g i = some e → e.blk ≠ b) (ff : ∀ i r, m.f i = some r → b ≠ r) : HRel P B K w0 m F G w' where
  bk := h.bk
  frame := fun i hi => by
    obtain ⟨h1, h2⟩ := h.frame i hi
    exact ⟨h1, (hw.other i (fun hc => hK (hc ▸ hi))).trans h2⟩
  os := hw.os.trans h.os
  tape := hw.tape.trans h.tape
  output := hw.output.trans h.output
  size := by rw [hw.size]; exact h.size
  gdom := h.gdom
  fdom := h.fdom
  gblk := fun i k e hi hm he => by
    obtain ⟨c1, t1, fr1, hg1⟩ := h.gblk i k e hi hm he
    have hne : e.blk ≠ b := by
      by_cases hm1 : k.mode = 1
      · exact fg i k e hi hm1 he
      · intro heq
        exact hK (h.bk _ (heq ▸ hg1.ro (by omega)))
    exact ⟨c1, t1, fr1, { hg1 with row := (hw.other _ hne).trans hg1.row }⟩
  fblk := fun i cs r hi hr => by
    obtain ⟨c1, t1, hf⟩ := h.fblk i cs r hi hr
    exact ⟨c1, t1, { hf with row := (hw.other _ (fun hc => ff i r hr hc.symm)).trans hf.row }⟩
  ginj := h.ginj
  gf := h.gf
  finj := h.finj

theorem gkill_get {G : GH} {b i : Nat} {k : Blk} (h : (gkill G b)[i]? = some k) (hm : k.mode = 1) : i ≠ b ∧ G[i]? = some k := by
  unfold gkill at h
  split at h
  · rename_i q hq
    have hb : b < G.length := (List.getElem?_eq_some_iff.1 hq).1
    rw [List.getElem?_set] at h
    simp only [hb, if_true] at h
    split at h
    · injection h with h; subst h; simp at hm
    · rename_i hbi; exact ⟨fun hc => hbi hc.symm, h⟩
  · rename_i hn
    refine ⟨fun hc => ?_, h⟩
    subst hc
    rw [h] at hn
    cases hn
theorem gkill_len (G : GH) (b : Nat) : (gkill G b).length = G.length := by
  unfold gkill
  split <;> simp

theorem growBy_le (n : Nat) : ∀ (rounds c : Nat), c ≤ 2 * n + 1000 → Builtin.growBy n rounds c ≤ 2 * n + 1000 + 768
  | 0, c, h => by simp only [Builtin.growBy]; omega
  | r + 1, c, h => by
    simp only [Builtin.growBy]
    split
    · omega
    · exact growBy_le n r _ (by omega)

theorem nextcap_le (n c : Nat) (h : c < n) : Builtin.nextslicecap n c ≤ 2 * n + 1768 := by
  unfold Builtin.nextslicecap
  split
  · omega
  · split
    · omega
    · have := growBy_le n 4 c (by omega)
      omega

theorem zeroCells_size (z : Array Value) (n : Nat) : (Builtin.zeroCells z n).size = n * z.size := by simp [Builtin.zeroCells]

def capOf (w : World) (need old : Nat) (e : TypeId) : Nat := (Question.appendCap need old e).cut (w.tape w.drawn (.appendCap need old e))
theorem capOf_ge (w : World) (need old : Nat) (e : TypeId) : need ≤ capOf w need old e := by simp [capOf, Question.cut]
def drewOne (w : World) : World := { w with drawn := w.drawn + 1 }
theorem drewOne_below (w : World) : Below w.heap.size w (drewOne w) := below_drawn w _

theorem run_app_room {t u ty e : TypeId} {i : TypeInfo} {n c mm : Nat} {X : List Value} {vx : Value} {ad : Addr} {w' : World}
    (hu : P.underlying t = some (.slice e)) (hi : P.info? e = some i) (huq : (∃ e2, P.underlying u = some (.slice e2)) ∨ P.underlying u = some .string) (hlen : (Builtin.lenOf vx).run P w = .ok mm w)
    (hx : (Builtin.firstCells i.size mm vx).run P w = .ok X.toArray w) (hroom : n + mm ≤ c) (hst : (storeCells (ad.add (n * i.size)) X).run P w = .ok () w') :
    (Builtin.append_ #[t, u] ty #[.slice (some ad) n c, vx]).run P w = .ok (.slice (some ad) (n + mm) c) w' := by
  rcases huq with ⟨e2, huq⟩ | huq <;>
  · unfold Builtin.append_
    simp only [List.getElem?_toArray, List.getElem?_cons_zero, List.getElem?_cons_succ, Sem.run_bind, run_und hu, run_und huq, Result.andThen_ok, run_sizeI hi, Sem.run_pure, Bool.false_eq_true, if_false, hlen, hroom, if_true, Bool.not_false, hx, hst]

theorem run_app_none {t u ty e : TypeId} {i : TypeInfo} {vx : Value}
    (hu : P.underlying t = some (.slice e)) (hi : P.info? e = some i) (huq : (∃ e2, P.underlying u = some (.slice e2)) ∨ P.underlying u = some .string) (hlen : (Builtin.lenOf vx).run P w = .ok 0 w)
    (hx : (Builtin.firstCells i.size 0 vx).run P w = .ok #[] w) :
    (Builtin.append_ #[t, u] ty #[.slice none 0 0, vx]).run P w = .ok (.slice none 0 0) w := by
  rcases huq with ⟨e2, huq⟩ | huq <;>
  · unfold Builtin.append_
    simp only [List.getElem?_toArray, List.getElem?_cons_zero, List.getElem?_cons_succ, Sem.run_bind, run_und hu, run_und huq, Result.andThen_ok, run_sizeI hi, Sem.run_pure, Bool.false_eq_true, if_false, hlen, Nat.le_refl, if_true, Bool.not_false, hx, Nat.add_zero]

theorem run_app_grow {t u ty e : TypeId} {i : TypeInfo} {n c mm : Nat} {X Y : List Value} {vx : Value} {bs : Option Addr} {z : Value}
    (hu : P.underlying t = some (.slice e)) (hi : P.info? e = some i) (huq : (∃ e2, P.underlying u = some (.slice e2)) ∨ P.underlying u = some .string) (hz : i.zero = some z) (hlen : (Builtin.lenOf vx).run P w = .ok mm w)
    (hx : (Builtin.firstCells i.size mm vx).run P (drewOne w) = .ok X.toArray (drewOne w)) (hy : (Builtin.firstCells i.size n (.slice bs n c)).run P (drewOne w) = .ok Y.toArray (drewOne w))
    (hroom : c < n + mm) (hb0 : i.bytes ≠ 0) (hbig : ¬ (Builtin.nextslicecap (n + mm) c * i.bytes > 2 ^ 48)) :
    (Builtin.append_ #[t, u] ty #[.slice bs n c, vx]).run P w = .ok (.slice (some ⟨w.heap.size, 0, none⟩) (n + mm) (capOf w (n + mm) c e))
      (pushRow (drewOne w) (Y.toArray ++ X.toArray ++ Builtin.zeroCells z.cells (capOf w (n + mm) c e - (n + mm))) e) := by
  have h1 : ¬ (n + mm ≤ c) := by omega
  have hch : (choose (.appendCap (n + mm) c e)).run P w = .ok (capOf w (n + mm) c e) (drewOne w) := by
    simp only [run_choose, Question.forced, Bool.false_eq_true, if_false, capOf, drewOne]
  have hti : ∀ w', (typeInfo e).run P w' = .ok i w' := fun w' => by simp only [typeInfo, Sem.run_bind, run_program, Result.andThen_ok, hi, Sem.run_pure]
  have h3 : (drewOne w).heap.size = w.heap.size := rfl
  rcases huq with ⟨e2, huq⟩ | huq <;>
  · unfold Builtin.append_
    simp only [List.getElem?_toArray, List.getElem?_cons_zero, List.getElem?_cons_succ, Sem.run_bind, run_und hu, run_und huq, Result.andThen_ok, run_sizeI hi, Sem.run_pure, Bool.false_eq_true, if_false, hlen, if_neg h1, Bool.not_false, if_true, hti,
      hb0, or_self, and_false, if_neg hbig, hch, run_askRoom, hy, hx, run_zero hi hz, run_newRow, h3]
theorem HRel.push_none (h : HRel P B K w0 m F G w) (cells : List IV) (t : TypeId) : HRel P B K w0 m F (gnew G cells t) w := by
  have hget : ∀ (b : Nat) (e : Ent), m.g b = some e → (gnew G cells t)[b]? = G[b]? := fun b e he => List.getElem?_append_left (h.gdom b e he)
  exact { bk := h.bk, frame := h.frame, os := h.os, tape := h.tape, output := h.output, size := h.size, fdom := h.fdom, fblk := h.fblk, finj := h.finj
          gdom := fun b e he => by have := h.gdom b e he; simp [gnew]; omega
          gblk := fun b k e hk hm he => h.gblk b k e (by rw [← hget b e he]; exact hk) hm he
          ginj := fun b1 b2 k1 k2 e1 e2 h1 h2 m1 m2 g1 g2 hne => h.ginj b1 b2 k1 k2 e1 e2 (by rw [← hget b1 e1 g1]; exact h1) (by rw [← hget b2 e2 g2]; exact h2) m1 m2 g1 g2 hne
          gf := fun b i k e r h1 h2 g1 hr => h.gf b i k e r (by rw [← hget b e g1]; exact h1) h2 g1 hr }

/-- What append does, of related lists. 'hx': the cells that come on are read so, in every world that has only grown. -/
theorem append_rel (hR : HRel P B K w0 m F G w) {t u ty e : TypeId} {i : TypeInfo} {p : Option GA} {n mm : Nat} {x : List IV} {X : List Value} {vs vx : Value} {a' : Option GA} {G' : GH} {z : Value}
    (hu : P.underlying t = some (.slice e)) (hi : P.info? e = some i) (huq : (∃ e2, P.underlying u = some (.slice e2)) ∨ P.underlying u = some .string) (hz1 : i.zero = some z) (hz2 : z.cells.size = i.size) (hb0 : 0 < i.bytes) (hbz : i.bytes ≤ 2 ^ 20)
    (h : gappend G e i.size i.bytes p n x mm = some (a', G')) (hs : VRel m (.slice p n) vs) (hlen : ∀ w', (Builtin.lenOf vx).run P w' = .ok mm w')
    (hx : ∀ w', Below w.heap.size w w' → (Builtin.firstCells i.size mm vx).run P w' = .ok X.toArray w') (hxl : x.length = mm * i.size) (hXl : X.length = mm * i.size)
    (hxr : ∀ (j : Nat) (iv : IV) (v : Value), x[j]? = some iv → X[j]? = some v → VRel m.noF iv v ∧ v.oneCell' = true) :
    ∃ w' m' v', (Builtin.append_ #[t, u] ty #[vs, vx]).run P w = .ok v' w' ∧ m.le m' ∧ HRel P B K w0 m' F G' w' ∧ VRel m' (.slice a' (n + mm)) v' := by
  have hes : P.cellsOf e = i.size := by simp [Program.cellsOf, hi]
  have hXone : ∀ v ∈ X, v.oneCell' = true := by
    intro v hv
    obtain ⟨j, hj, rfl⟩ := List.mem_iff_getElem.1 hv
    have h1 : j < x.length := by omega
    exact (hxr j x[j] X[j] (List.getElem?_eq_getElem h1) (List.getElem?_eq_getElem hj)).2
  unfold gappend at h
  split at h
  · rename_i hroom
    have hbig : ∀ c, c < n + mm → ¬ (Builtin.nextslicecap (n + mm) c * i.bytes > 2 ^ 48) := by
      intro c hc
      have h1 := nextcap_le (n + mm) c hc
      have h2 : Builtin.nextslicecap (n + mm) c * i.bytes ≤ (2 * (n + mm) + 1768) * i.bytes := Nat.mul_le_mul_right _ h1
      have h3 : (2 * (n + mm) + 1768) * i.bytes = 2 * ((n + mm) * i.bytes) + 1768 * i.bytes := by rw [Nat.add_mul, Nat.mul_assoc]
      unfold roomI at hroom
      omega
    -- the new row, when there is no room
    have grow : ∀ (bs : Option Addr) (c : Nat) (Y : List Value) (G1 : GH) (old : List IV), c < n + mm → (Builtin.firstCells i.size n (.slice bs n c)).run P (drewOne w) = .ok Y.toArray (drewOne w) →
        HRel P B K w0 m F G1 w → old.length = n * i.size → Y.length = n * i.size → (∀ (j : Nat) (iv : IV) (v : Value), old[j]? = some iv → Y[j]? = some v → VRel m.noF iv v ∧ v.oneCell' = true) →
        ∃ w' m' v', (Builtin.append_ #[t, u] ty #[.slice bs n c, vx]).run P w = .ok v' w' ∧ m.le m' ∧ HRel P B K w0 m' F (gnew G1 (old ++ x) e) w' ∧ VRel m' (.slice (some (gaddr G1)) (n + mm)) v' := by
      intro bs c Y G1 old hc hy hR1 ho hY hor
      have hcap := capOf_ge w (n + mm) c e
      have hrowsz : (Y.toArray ++ X.toArray ++ Builtin.zeroCells z.cells (capOf w (n + mm) c e - (n + mm))).size = capOf w (n + mm) c e * i.size := by
        simp only [Array.size_append, List.size_toArray, zeroCells_size, hz2, hXl, hY]
        rw [← Nat.add_mul, ← Nat.add_mul]
        congr 1; omega
      have hgr : Grown w (pushRow (drewOne w) (Y.toArray ++ X.toArray ++ Builtin.zeroCells z.cells (capOf w (n + mm) c e - (n + mm))) e) (Y.toArray ++ X.toArray ++ Builtin.zeroCells z.cells (capOf w (n + mm) c e - (n + mm))) e (0, 0) := by
        have g1 := grown_push (drewOne w) (Y.toArray ++ X.toArray ++ Builtin.zeroCells z.cells (capOf w (n + mm) c e - (n + mm))) e
        exact { below := (drewOne_below w).trans g1.below, row := g1.row }
      refine ⟨_, _, _, run_app_grow hu hi huq hz1 (hlen w) (hx _ (drewOne_below w)) hy hc (by omega) (hbig c hc), Map.le_addG (hR1.g_none (Nat.le_refl _)), hR1.newG hgr ?_ ?_ (fun o _ => by simp), ?_⟩
      · intro j iv hj
        by_cases hjo : j < old.length
        · rw [List.getElem?_append_left hjo] at hj
          have hjY : j < Y.length := by omega
          refine ⟨Y[j], ?_, hor j iv _ hj (List.getElem?_eq_getElem hjY)⟩
          rw [Array.getElem?_append, if_pos (by simp; omega), Array.getElem?_append, if_pos (by simpa using hjY)]
          simp [hjY]
        · rw [List.getElem?_append_right (by omega)] at hj
          have hjx : j - old.length < x.length := (List.getElem?_eq_some_iff.1 hj).1
          have hjX : j - old.length < X.length := by omega
          refine ⟨X[j - old.length], ?_, hxr _ iv _ hj (List.getElem?_eq_getElem hjX)⟩
          rw [Array.getElem?_append, if_pos (by simp; omega), Array.getElem?_append, if_neg (by simp; omega)]
          simp only [List.size_toArray, List.getElem?_toArray]
          rw [show j - Y.length = j - old.length by omega]
          exact List.getElem?_eq_getElem hjX
      · rw [hrowsz, List.length_append, ho, hxl, ← Nat.add_mul]
        exact Nat.mul_le_mul_right _ hcap
      · refine .slice (gaddr G1) _ _ _ (Map.addG_self _ _ _) hcap fun _ => ?_
        simp only [gaddr, Nat.zero_add, hes]
        exact Nat.le_of_eq hrowsz.symm
    split at h
    · split at h
      · rename_i hn
        subst hn
        cases hs
        split at h
        · rename_i hm
          subst hm
          injection h with h
          injection h with h1 h2
          subst h1; subst h2
          have hX : X = [] := List.length_eq_zero_iff.1 (by simpa using hXl)
          subst hX
          exact ⟨w, m, _, run_app_none hu hi huq (hlen w) (hx w (Below.refl _ _)), m.le_refl, hR, .sliceNil⟩
        · rename_i hm
          injection h with h
          injection h with h1 h2
          subst h1; subst h2
          have := grow none 0 [] G [] (by omega) (by simp [Builtin.firstCells]) hR (by simp) (by simp) (fun j iv v hj _ => by simp at hj)
          simpa using this
      · cases h
    · rename_i p
      split at h
      · rename_i old hown hold
        injection h with h
        injection h with h1 h2
        subst h1; subst h2
        obtain ⟨hol, hoc, blk, hblk, _⟩ := grd_some hold
        simp only [gown, hblk, Bool.and_eq_true, decide_eq_true_eq, beq_iff_eq] at hown
        obtain ⟨hmo, hel⟩ := hown
        have hRk := hR.kill p.b
        have hga : gaddr G = gaddr (gkill G p.b) := by simp [gaddr, gkill_len]
        rw [hga]
        cases hs with
        | sliceE _ ad =>
          -- an empty one without room
          have h0 : old = [] := List.length_eq_zero_iff.1 (by simpa using hol)
          subst h0
          by_cases hm : mm = 0
          · subst hm
            have hX : X = [] := List.length_eq_zero_iff.1 (by simpa using hXl)
            have hxe : x = [] := List.length_eq_zero_iff.1 (by simpa using hxl)
            subst hX; subst hxe
            -- it stays as it is: the new block is empty and stands nowhere
            refine ⟨w, m, .slice (some ad) 0 0, ?_, m.le_refl, ?_, .sliceE _ _⟩
            · exact run_app_room hu hi huq (hlen w) (hx w (Below.refl _ _)) (Nat.le_refl _) rfl
            · exact hRk.push_none _ _
          · have := grow (some ad) 0 [] (gkill G p.b) [] (by omega) (by simp [Builtin.firstCells, loadCells, loadCellsFrom]) hRk (by simp) (by simp) (fun j iv v hj _ => by simp at hj)
            simpa using this
        | slice _ en _ c he hnc hrw =>
          obtain ⟨cc, tt, fr, hgb⟩ := hR.gblk _ _ _ hblk (by omega) he
          obtain ⟨hK, htt, hrwt, hccs, hfr⟩ := hgb.rw hmo
          have hesz := hgb.esz hrwt
          rw [hel, hes] at hesz
          have hrw' := hrw hrwt
          rw [hesz] at hrw'
          obtain ⟨Y, hYl, hYr, hYv, hYc⟩ := grd_cells hR.mem hold he
          have hYo : ∀ (j : Nat) (iv : IV) (v : Value), old[j]? = some iv → Y[j]? = some v → cc[en.off + p.o + j]? = some v ∧ VRel m.noF iv v ∧ v.oneCell' = true := by
            intro j iv v h1 h2
            have h3 := hYc j v h2
            rw [cell?_eq hgb.row] at h3
            have h4 := hoc j iv h1
            simp only [gld, GA.add, hblk, hmo, Nat.le_refl, if_true] at h4
            obtain ⟨v', h5, h6, h7⟩ := hgb.cells _ _ h4
            rw [← Nat.add_assoc, h3] at h5
            injection h5 with h5
            subst h5
            exact ⟨h3, h6, h7⟩
          by_cases hr : n + mm ≤ c
          · have hmul : (n + mm) * i.size ≤ c * i.size := Nat.mul_le_mul_right _ hr
            rw [Nat.add_mul] at hmul
            have hfit : en.off + p.o + n * i.size + X.length ≤ cc.size := by omega
            obtain ⟨w', hw1, hw2⟩ := run_setCells (P := P) en.blk (en.off + p.o + n * i.size) tt fr X 0 cc w hgb.row (by omega) hfr hXone
            rw [Nat.add_zero] at hw2
            have fg : ∀ (b : Nat) (k : Blk) (e : Ent), (gkill G p.b)[b]? = some k → k.mode = 1 → m.g b = some e → e.blk ≠ en.blk := by
              intro b k e2 h1 h2 h3
              obtain ⟨h4, h5⟩ := gkill_get h1 h2
              exact hR.ginj b p.b k blk e2 en h5 hblk h2 hmo h3 he h4
            have ff : ∀ i r, m.f i = some r → en.blk ≠ r := fun i r hr => hR.gf p.b i blk en r hblk hmo he hr
            have hR2 := hRk.over hw2 hK fg ff
            let e' : Ent := ⟨en.blk, en.off + p.o, en.size - p.o, i.size, true⟩
            have hR3 := hR2.addEnt (e' := e') (cells := old ++ x) (t := tt) hw2.row (by
                intro j iv hj
                rw [setAll_get X _ cc _ hfit]
                by_cases hjo : j < old.length
                · rw [List.getElem?_append_left hjo] at hj
                  have hjY : j < Y.length := by omega
                  rw [if_neg (by show ¬ (en.off + p.o + n * i.size ≤ en.off + p.o + j ∧ _); omega)]
                  exact ⟨Y[j], hYo j iv _ hj (List.getElem?_eq_getElem hjY)⟩
                · rw [List.getElem?_append_right (by omega)] at hj
                  have hjx : j - old.length < x.length := (List.getElem?_eq_some_iff.1 hj).1
                  have hjX : j - old.length < X.length := by omega
                  rw [if_pos (by show en.off + p.o + n * i.size ≤ en.off + p.o + j ∧ en.off + p.o + j < _; omega)]
                  refine ⟨X[j - old.length], ?_, hxr _ iv _ hj (List.getElem?_eq_getElem hjX)⟩
                  rw [show e'.off + j - (en.off + p.o + n * i.size) = j - old.length by show en.off + p.o + j - _ = _; omega]
                  exact List.getElem?_eq_getElem hjX)
              (by rw [setAll_size, List.length_append]; show en.off + p.o + _ ≤ _; omega) (by rw [setAll_size]; exact hfr) hK rfl (by show i.size = P.cellsOf tt; rw [htt, hel, hes]) (by rw [setAll_size]; show cc.size = en.off + p.o + (en.size - p.o); omega) fg ff
            rw [htt, hel] at hR3
            refine ⟨w', _, _, run_app_room hu hi huq (hlen w) (hx w (Below.refl _ _)) hr ?_, Map.le_addG (hRk.g_none (Nat.le_refl _)), hR3, ?_⟩
            · rw [addr_add]; exact hw1
            · refine .slice (gaddr (gkill G p.b)) e' _ _ (Map.addG_self _ _ _) hr fun _ => ?_
              show 0 + c * i.size ≤ en.size - p.o
              omega
          · have := grow (some ⟨en.blk, en.off + p.o, none⟩) c Y (gkill G p.b) old (by omega) (by simp only [Builtin.firstCells]; exact hYr _ (drewOne_below w)) hRk (by omega) (by omega) (fun j iv v h1 h2 => (hYo j iv v h1 h2).2)
            exact this
      · cases h
  · cases h

end
end Go.LI
