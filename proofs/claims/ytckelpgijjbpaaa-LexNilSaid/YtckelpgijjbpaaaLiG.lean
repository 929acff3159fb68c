/- The quiet operations, fourth part: loads, composites, conversions, len, min, max. -/
import Derived.Test.YtckelpgijjbpaaaLiF
set_option linter.unusedVariables false
namespace Go.LI
open Go Go.RowKit

section
variable {R : Type} {P : Program} {m : Map} {F : List (List IV)} {G : GH} {w : World} {O : Ora R} {lo : List Nat} {sand : Bool} {o : Oper} {env : List IV} {a : Act} {k : IV → List (List IV) → GH → Option R} {r : R}

/-! ### Loads -/
theorem ldLeaf_some {R : Type} {G : GH} {a : GA} {l : Leaf} {k : IV → Option R} {r : R} (h : ldLeaf G a l k = some r) : ∃ iv, gld G a = some iv ∧ k iv = some r := by
  cases l with
  | int kd =>
    simp only [ldLeaf, ldInt] at h
    split at h
    · rename_i n hn
      split at hn
      · rename_i k' n' hg
        split at hn
        · rename_i hk; injection hn with hn; subst hk; subst hn; exact ⟨_, hg, h⟩
        · cases hn
      · cases hn
    · cases h
  | float kd =>
    simp only [ldLeaf, ldFloat] at h
    split at h
    · rename_i n hn
      split at hn
      · rename_i k' n' hg
        split at hn
        · rename_i hk; injection hn with hn; subst hk; subst hn; exact ⟨_, hg, h⟩
        · cases hn
      · cases hn
    · cases h
  | bool =>
    simp only [ldLeaf, ldBool] at h
    split at h
    · rename_i n hn
      split at hn
      · rename_i b hg; injection hn with hn; subst hn; exact ⟨_, hg, h⟩
      · cases hn
    · cases h
  | str =>
    simp only [ldLeaf, ldStr] at h
    split at h
    · rename_i n hn
      split at hn
      · rename_i b hg; injection hn with hn; subst hn; exact ⟨_, hg, h⟩
      · cases hn
    · cases h
  | ptr =>
    simp only [ldLeaf, ldPtr] at h
    split at h
    · rename_i n hn
      split at hn
      · rename_i b hg; injection hn with hn; subst hn; exact ⟨_, hg, h⟩
      · cases hn
    · cases h
  | slice =>
    simp only [ldLeaf, ldSlice] at h
    split at h
    · rename_i n hn
      split at hn
      · rename_i b q hg; injection hn with hn; subst hn; exact ⟨_, hg, h⟩
      · cases hn
    · cases h
  | raw =>
    simp only [ldLeaf] at h
    split at h
    · rename_i v hv; exact ⟨_, hv, h⟩
    · cases h

theorem ldCells_some {R : Type} {G : GH} {a : GA} : ∀ {ls : List Leaf} {i : Nat} {k : List IV → Option R} {r : R}, ldCells G a ls i k = some r →
    ∃ vs, vs.length = ls.length ∧ (∀ (j : Nat) (iv : IV), vs[j]? = some iv → gld G (a.add (i + j)) = some iv) ∧ k vs = some r
  | [], i, k, r, h => ⟨[], rfl, fun j iv h => by simp at h, h⟩
  | l :: ls, i, k, r, h => by
    simp only [ldCells] at h
    obtain ⟨iv, h1, h2⟩ := ldLeaf_some h
    obtain ⟨vs, h3, h4, h5⟩ := ldCells_some h2
    refine ⟨iv :: vs, by simp [h3], fun j iv' hj => ?_, h5⟩
    cases j with
    | zero => simp at hj; subst hj; exact h1
    | succ j =>
      have := h4 j iv' (by simpa using hj)
      rw [show i + (j + 1) = i + 1 + j by omega]; exact this

theorem listAt {b : Nat} : ∀ {vs : List IV} {o : Nat}, (∀ (i : Nat) (iv : IV), vs[i]? = some iv → ∃ v, w.cell? ⟨b, o + i, none⟩ = some v ∧ VRel m iv v) →
    ∃ l : List Value, l.length = vs.length ∧ (∀ (j : Nat) (v : Value), l[j]? = some v → w.cell? ⟨b, o + j, none⟩ = some v) ∧ ∀ (i : Nat) (iv : IV) (v : Value), vs[i]? = some iv → l[i]? = some v → VRel m iv v
  | [], o, _ => ⟨[], rfl, fun j v h => by simp at h, fun i iv v h => by simp at h⟩
  | x :: vs, o, h => by
    obtain ⟨v, hv, hr⟩ := h 0 x rfl
    obtain ⟨l, h1, h2, h3⟩ := listAt (vs := vs) (o := o + 1) fun i iv hi => by
      obtain ⟨v, hv, hr⟩ := h (i + 1) iv (by simpa using hi)
      exact ⟨v, by rw [show o + 1 + i = o + (i + 1) by omega]; exact hv, hr⟩
    refine ⟨v :: l, by simp [h1], fun j v' hj => ?_, fun i iv v' hi hj => ?_⟩
    · cases j with
      | zero => simp at hj; subst hj; exact hv
      | succ j => rw [show o + (j + 1) = o + 1 + j by omega]; exact h2 j v' (by simpa using hj)
    · cases i with
      | zero => simp at hi hj; subst hi; subst hj; exact hr
      | succ i => exact h3 i iv v' (by simpa using hi) (by simpa using hj)

/-- Cells of a row that has not turned are read. -/
theorem run_cells {b o : Nat} {l : List Value} (hb : b < w.heap.size) (hl : ∀ (j : Nat) (v : Value), l[j]? = some v → w.cell? ⟨b, o + j, none⟩ = some v) {w' : World} (hw : w'.heap[b]? = w.heap[b]?) :
    (loadCells ⟨b, o, none⟩ l.length).run P w' = .ok l.toArray w' := by
  refine run_loadCells_list (P := P) (w := w') ⟨b, o, none⟩ l fun j v hj => ?_
  rw [addr_add]
  have : w'.cell? ⟨b, o + j, none⟩ = w.cell? ⟨b, o + j, none⟩ := by simp only [World.cell?, hw]
  rw [this]
  exact hl j v hj

theorem run_cell {b o : Nat} {v : Value} (hb : b < w.heap.size) (hl : w.cell? ⟨b, o, none⟩ = some v) {w' : World} (hw : w'.heap[b]? = w.heap[b]?) :
    (load ⟨b, o, none⟩).run P w' = .ok v w' := by
  have h0 : w'.cell? ⟨b, o, none⟩ = w.cell? ⟨b, o, none⟩ := by simp only [World.cell?, hw]
  have := h0.trans hl
  simp [this]

/-- What is to be read stands there as it did. -/
structure Vis (m : Map) (F : List (List IV)) (G : GH) (w w' : World) : Prop where
  g : ∀ (a : GA) (iv : IV) (e : Ent), gld G a = some iv → m.g a.b = some e → w'.heap[e.blk]? = w.heap[e.blk]?
  f : ∀ (i : Nat) (cs : List IV) (b o : Nat) (iv : IV), F[i]? = some cs → m.f i = some b → cs[o]? = some iv → w'.heap[b]? = w.heap[b]?

theorem MemOk.vis (h : MemOk P m F G w) {w' : World} (hb : Below w.heap.size w w') : Vis m F G w w' where
  g := fun a iv e hg he => hb.block _ (h.g a iv e hg he).1
  f := fun i cs b o iv hi hb' ho => hb.block _ (h.f i cs b hi hb').1

/-- A variable is loaded. -/
theorem load_rel {R : Type} (hM : MemOk P m F G w) {t : TypeId} {x : IV} {vx : Value} {k : IV → Option R} {r : R} (h : loadC P t x F G k = some r) (hx : VRel m x vx) :
    ∃ ad v v', vx = .pointer (some ad) ∧ (∀ w', Vis m F G w w' → (loadVar t ad).run P w' = .ok v' w') ∧ VRel m v v' ∧ k v = some r := by
  unfold loadC at h
  split at h
  · rename_i p
    cases hx with
    | ptr _ e he =>
      refine ⟨⟨e.blk, e.off + p.o, none⟩, ?_⟩
      split at h
      · rename_i ha
        split at h
        · rename_i hlen
          obtain ⟨vs, h1, h2, h3⟩ := ldCells_some h
          have hq : ∃ q, P.underlying t = some q := by
            unfold aggT at ha
            split at ha <;> first | (rename_i hq; exact ⟨_, hq⟩) | cases ha
          obtain ⟨q, hq⟩ := hq
          have hcell : ∀ (i : Nat) (iv : IV), vs[i]? = some iv → ∃ v, w.cell? ⟨e.blk, e.off + p.o + i, none⟩ = some v ∧ VRel m iv v := by
            intro i iv hi
            obtain ⟨_, v, hv, hr⟩ := hM.g (p.add (0 + i)) iv e (h2 i iv hi) he
            exact ⟨v, by rw [← hv]; simp [GA.add, Nat.add_assoc], hr⟩
          obtain ⟨l, l1, l2, l3⟩ := listAt hcell
          have hsz : l.length = P.cellsOf t := by rw [l1, h1, hlen]
          refine ⟨.agg vs, .agg l.toArray, rfl, fun w' hw => ?_, .agg _ _ (by simp [l1]) fun i iv v hi hv => l3 i iv v hi (by simpa using hv), h3⟩
          simp only [loadVar, Sem.run_bind, run_isAggT hq, Result.andThen_ok, ha, if_true, run_sizeT hq]
          by_cases hz : l.length = 0
          · have : l = [] := List.length_eq_zero_iff.1 hz
            subst this
            rw [← hsz]
            simp [loadCells, loadCellsFrom]
          · have h0 : 0 < vs.length := by omega
            have hb : e.blk < w.heap.size := (hM.g (p.add (0 + 0)) vs[0] e (h2 0 vs[0] (List.getElem?_eq_getElem h0)) he).1
            rw [← hsz, run_cells hb l2 (hw.g (p.add (0 + 0)) vs[0] e (h2 0 vs[0] (List.getElem?_eq_getElem h0)) he)]
            rfl
        · cases h
      · rename_i ha
        have ha' : aggT P t = false := by simpa using ha
        split at h
        · rename_i l hl
          obtain ⟨iv, h1, h2⟩ := ldLeaf_some h
          obtain ⟨hb, v, hv, hr⟩ := hM.g p iv e h1 he
          have hq : ∃ q, P.underlying t = some q := by
            cases hu : P.underlying t with
            | none => simp [leaves, hu] at hl
            | some q => exact ⟨q, rfl⟩
          obtain ⟨q, hq⟩ := hq
          refine ⟨iv, v, rfl, fun w' hw => ?_, hr, h2⟩
          simp only [loadVar, Sem.run_bind, run_isAggT hq, Result.andThen_ok, ha', Bool.false_eq_true, if_false, run_cell hb hv (hw.g p iv e h1 he)]
        · cases h
  · rename_i b i
    cases hx with
    | loc _ _ c hc =>
      refine ⟨⟨c, i, none⟩, ?_⟩
      split at h
      · rename_i cs hcs
        obtain ⟨hb, hcell⟩ := hM.f _ _ _ hcs hc
        split at h
        · rename_i v hv
          unfold partI at hv
          split at hv
          · rename_i q hq
            split at hv
            · rename_i ha
              split at hv
              · rename_i hl
                injection hv with hv
                subst hv
                have hcell' : ∀ (j : Nat) (iv : IV), ((cs.drop i).take (P.cellsOf t))[j]? = some iv → ∃ v, w.cell? ⟨c, i + j, none⟩ = some v ∧ VRel m iv v := by
                  intro j iv hj
                  have hlt : j < P.cellsOf t := by
                    have := (List.getElem?_eq_some_iff.1 hj).1
                    simp at this; omega
                  rw [List.getElem?_take_of_lt hlt, List.getElem?_drop] at hj
                  exact hcell _ _ hj
                obtain ⟨l, l1, l2, l3⟩ := listAt hcell'
                have hsz : l.length = P.cellsOf t := by rw [l1]; simp; omega
                refine ⟨_, .agg l.toArray, rfl, fun w' hw => ?_, .agg _ _ (by simp [l1]) fun i iv v hi hv => l3 i iv v hi (by simpa using hv), h⟩
                simp only [loadVar, Sem.run_bind, run_isAggT hq, Result.andThen_ok, ha, if_true, run_sizeT hq]
                by_cases hz : l.length = 0
                · have : l = [] := List.length_eq_zero_iff.1 hz
                  subst this
                  rw [← hsz]
                  simp [loadCells, loadCellsFrom]
                · have hlt : i < cs.length := by omega
                  rw [← hsz, run_cells hb l2 (hw.f b cs c i cs[i] hcs hc (List.getElem?_eq_getElem hlt))]
                  rfl
              · cases hv
            · rename_i ha
              have ha' : aggT P t = false := by simpa using ha
              obtain ⟨v', hv', hr⟩ := hcell _ _ hv
              refine ⟨v, v', rfl, fun w' hw => ?_, hr, h⟩
              simp only [loadVar, Sem.run_bind, run_isAggT hq, Result.andThen_ok, ha', Bool.false_eq_true, if_false, run_cell hb hv' (hw.f b cs c i v hcs hc hv)]
          · cases hv
        · cases h
      · cases h
  · cases h

theorem q_load (hM : MemOk P m F G w) {t : TypeId} {x : Operand} (ho : o.op = .load t x) (h : opC P O lo sand o env F G k = some r) (hE : ERel m env a.tmps) : QuietOk P m o a w F G k r := by
  simp only [opC, ho] at h
  split at h
  · rename_i vx hx
    obtain ⟨ad, v, v', h1, h2, h3, h4⟩ := load_rel hM h (ev_rel hE hx)
    refine ⟨v, v', fun w' hw => ?_, h3, h4⟩
    simp only [execOp, ho]
    refine run_v ?_
    simp [Instr.loadAt, h1, Instr.sureAddr, h2 w' (hM.vis hw)]
  · cases h

/-! ### Composites -/
theorem cells_rel {v : IV} {v' : Value} (h : VRel m v v') : ARel m v.cells v'.cells := by
  cases h <;> first
    | (refine ⟨rfl, fun i iv v h1 h2 => ?_⟩
       simp only [IV.cells, Value.cells] at h1 h2
       cases i with
       | zero => simp at h1 h2; subst h1; subst h2; constructor <;> assumption
       | succ i => simp at h1)
    | (exact ⟨by assumption, by assumption⟩)

theorem zeroT_some {t : TypeId} {z : IV} (h : zeroT P t = some z) : ∃ i v, P.info? t = some i ∧ i.zero = some v ∧ ofValue v = some z := by
  unfold zeroT at h
  split at h
  · rename_i i hi
    split at h
    · rename_i v hv; exact ⟨i, v, hi, hv, h⟩
    · cases h
  · cases h

theorem splice_get {cs vs : List IV} {off i : Nat} (hl : off + vs.length ≤ cs.length) : (splice cs off vs)[i]? = if off ≤ i ∧ i < off + vs.length then vs[i - off]? else cs[i]? := by
  unfold splice
  by_cases h1 : i < off
  · rw [List.append_assoc, List.getElem?_append_left (by simp; omega), List.getElem?_take_of_lt h1, if_neg (by omega)]
  · by_cases h2 : i < off + vs.length
    · rw [List.append_assoc, List.getElem?_append_right (by simp; omega), List.getElem?_append_left (by simp; omega), if_pos ⟨by omega, h2⟩]
      congr 1; simp; omega
    · rw [List.getElem?_append_right (by simp; omega), if_neg (by omega), List.getElem?_drop]
      congr 1; simp; omega

theorem splice_len {cs vs : List IV} {off : Nat} (hl : off + vs.length ≤ cs.length) : (splice cs off vs).length = cs.length := by
  simp [splice]; omega

theorem foldl_set_size (off : Nat) : ∀ (l : List (Value × Nat)) (cs : Array Value), (l.foldl (fun cs x => cs.setIfInBounds (off + x.2) x.1) cs).size = cs.size
  | [], cs => rfl
  | x :: l, cs => by simp [foldl_set_size off l]

theorem foldl_set_get (off : Nat) : ∀ (vs : List Value) (j : Nat) (cs : Array Value) (i : Nat), off + j + vs.length ≤ cs.size →
    ((vs.zipIdx j).foldl (fun cs x => cs.setIfInBounds (off + x.2) x.1) cs)[i]? = if off + j ≤ i ∧ i < off + j + vs.length then vs[i - (off + j)]? else cs[i]?
  | [], j, cs, i, _ => by simp; omega
  | v :: vs, j, cs, i, h => by
    simp only [List.length_cons] at h
    simp only [List.zipIdx_cons, List.foldl_cons]
    rw [foldl_set_get off vs (j + 1) _ i (by simp; omega)]
    by_cases h1 : i = off + j
    · subst h1
      rw [if_neg (by omega), if_pos (by simp)]
      rw [Array.getElem?_setIfInBounds_self_of_lt (by omega)]
      simp
    · by_cases h2 : off + j ≤ i ∧ i < off + j + (v :: vs).length
      · simp only [List.length_cons] at h2
        rw [if_pos (by omega), if_pos (by simp; omega)]
        rw [show i - (off + j) = (i - (off + (j + 1))) + 1 by omega, List.getElem?_cons_succ]
      · simp only [List.length_cons] at h2
        rw [if_neg (by omega), if_neg (by simp; omega)]
        rw [Array.getElem?_setIfInBounds_ne (by omega)]

theorem fill_rel {place : Nat → Option (Nat × Nat)} : ∀ {vs : List (Nat × IV)} {vs' : List (Nat × Value)} {cs : List IV} {cs' : Array Value} {out : List IV}, PRel m vs vs' → ARel m cs cs' → fillI place cs vs = some out →
    ∃ out', Instr.fill place cs' vs' = some out' ∧ ARel m out out'
  | [], _, cs, cs', out, .nil, hc, h => by simp [fillI] at h; subst h; exact ⟨cs', rfl, hc⟩
  | _ :: vs, _ :: vs', cs, cs', out, .cons i iv v _ _ hv hs, hc, h => by
    simp only [fillI] at h
    split at h
    · cases h
    · rename_i off size hp
      split at h
      · cases h
      · rename_i hn
        have hcr := cells_rel hv
        have e1 : iv.cells.length = v.cells.size := hcr.1
        have hn1 : v.cells.size = size := by omega
        have hn2 : off + v.cells.size ≤ cs'.size := by rw [← hc.1, ← e1]; omega
        have hA : ARel m (splice cs off iv.cells) (v.cells.zipIdx.foldl (fun cs x => cs.setIfInBounds (off + x.2) x.1) cs') := by
          have hz : v.cells.zipIdx.foldl (fun cs x => cs.setIfInBounds (off + x.2) x.1) cs' = (v.cells.toList.zipIdx 0).foldl (fun cs x => cs.setIfInBounds (off + x.2) x.1) cs' := by
            rw [← Array.foldl_toList]; simp
          rw [hz]
          refine ⟨by rw [splice_len (by omega), foldl_set_size, hc.1], fun q x y hx hy => ?_⟩
          rw [splice_get (by omega)] at hx
          rw [foldl_set_get off _ 0 _ _ (by simpa using hn2)] at hy
          simp only [Nat.add_zero, Array.length_toList, ← e1] at hy
          split at hx
          · rename_i hq
            rw [if_pos hq] at hy
            exact hcr.2 _ x y hx (by simpa using hy)
          · rename_i hq
            rw [if_neg hq] at hy
            exact hc.2 _ x y hx hy
        obtain ⟨out', h1, h2⟩ := fill_rel hs hA h
        refine ⟨out', ?_, h2⟩
        simp only [Instr.fill, hp]
        rw [if_neg (by simp; omega)]
        exact h1

theorem run_places (fs : List Field) (h : ∀ f ∈ fs, (P.info? f.type).isSome = true) (w' : World) :
    (fs.mapM (fun f => do pure (f.offset, ← sizeOf f.type)) : Sem (List (Nat × Nat))).run P w' = .ok (fs.map fun f => (f.offset, P.cellsOf f.type)) w' := by
  induction fs with
  | nil => rfl
  | cons f fs ih =>
    obtain ⟨i, hi⟩ := Option.isSome_iff_exists.1 (h f (by simp))
    have ih' := ih fun g hg => h g (by simp [hg])
    simp only [bind_pure_comp] at ih' ⊢
    simp [run_sizeI hi, ih', Program.cellsOf, hi]

theorem q_build {t : TypeId} {ps : Array (Nat × Operand)} (ho : o.op = .build t ps) (h : opC P O lo sand o env F G k = some r) (hE : ERel m env a.tmps) : QuietOk P m o a w F G k r := by
  simp only [opC, ho] at h
  split at h
  · rename_i z vs fs hz hv hu
    split at h
    · rename_i hall
      split at h
      · rename_i cs hcs
        obtain ⟨i, zv, h1, h2, h3⟩ := zeroT_some hz
        obtain ⟨out', h4, h5⟩ := fill_rel (evParts_rel hE hv) (cells_rel (ofValue_rel (m := m) h3)) hcs
        refine ⟨.agg cs, .agg out', fun w' _ => ?_, .agg _ _ h5.1 h5.2, h⟩
        simp only [execOp, ho]
        refine run_v ?_
        have hp := run_places (P := P) fs.toList (fun f hf => List.all_eq_true.1 hall f hf) w'
        have hpl : (fs.mapM (fun f => do pure (f.offset, ← sizeOf f.type)) : Sem (Array (Nat × Nat))).run P w' = .ok (fs.map fun f => (f.offset, P.cellsOf f.type)) w' := by
          rw [Array.mapM_eq_mapM_toList]
          simp only [Sem.run_map, hp, Result.andThen_ok]
          congr 1
          apply Array.ext'; simp
        have hpf : (fun x : Nat => (fs.map fun (f : Field) => (f.offset, P.cellsOf f.type))[x]?) = (fun i : Nat => (fs[i]?).map fun (f : Field) => (f.offset, P.cellsOf f.type)) := by
          funext x; simp
        have h4' : Instr.fill (fun x : Nat => (fs.map fun (f : Field) => (f.offset, P.cellsOf f.type))[x]?) zv.cells (ps.map fun (i, x) => (i, a.eval x)).toList = some out' := by
          rw [hpf, ← h4]; simp
        simp only [Instr.build, zeroValue, typeInfo, Sem.run_bind, run_program, Result.andThen_ok, h1, h2, Sem.run_pure, run_und hu, hpl, h4']
      · cases h
    · cases h
  · rename_i z vs n e hz hv hu
    split at h
    · rename_i hall
      split at h
      · rename_i cs hcs
        obtain ⟨i, zv, h1, h2, h3⟩ := zeroT_some hz
        obtain ⟨ii, hii⟩ := Option.isSome_iff_exists.1 hall
        have hsz : P.cellsOf e = ii.size := by simp [Program.cellsOf, hii]
        obtain ⟨out', h4, h5⟩ := fill_rel (evParts_rel hE hv) (cells_rel (ofValue_rel (m := m) h3)) hcs
        refine ⟨.agg cs, .agg out', fun w' _ => ?_, .agg _ _ h5.1 h5.2, h⟩
        simp only [execOp, ho]
        refine run_v ?_
        have h4' : Instr.fill (fun i => some (i * ii.size, ii.size)) zv.cells (ps.map fun (i, x) => (i, a.eval x)).toList = some out' := by
          rw [← hsz, ← h4]; simp
        simp only [Instr.build, zeroValue, typeInfo, Sem.run_bind, run_program, Result.andThen_ok, h1, h2, Sem.run_pure, run_und hu, run_sizeI hii, h4']
      · cases h
    · cases h
  · cases h

/-! ### Conversions -/
theorem grd_some {G : GH} {a : GA} {n : Nat} {cs : List IV} (h : grd G a n = some cs) : cs.length = n ∧ (∀ (j : Nat) (iv : IV), cs[j]? = some iv → gld G (a.add j) = some iv) ∧ ∃ k, G[a.b]? = some k ∧ k.mode ≤ 1 := by
  unfold grd at h
  split at h
  · rename_i k hk
    split at h
    · rename_i hc
      injection h with h
      subst h
      refine ⟨by simp; omega, fun j iv hj => ?_, k, hk, hc.1⟩
      have hlt : j < n := by
        have := (List.getElem?_eq_some_iff.1 hj).1
        simp at this; omega
      rw [List.getElem?_take_of_lt hlt, List.getElem?_drop] at hj
      simp only [gld, GA.add, hk, hc.1, if_true]
      exact hj
    · cases h
  · cases h

/-- The cells that 'grd' reads, in the model. -/
theorem grd_cells (hM : MemOk P m F G w) {p : GA} {n : Nat} {cs : List IV} (h : grd G p n = some cs) {e : Ent} (he : m.g p.b = some e) :
    ∃ l : List Value, l.length = n ∧ (∀ w', Below w.heap.size w w' → (loadCells ⟨e.blk, e.off + p.o, none⟩ n).run P w' = .ok l.toArray w') ∧ (∀ (i : Nat) (iv : IV) (v : Value), cs[i]? = some iv → l[i]? = some v → VRel m iv v) ∧ ∀ (j : Nat) (v : Value), l[j]? = some v → w.cell? ⟨e.blk, e.off + p.o + j, none⟩ = some v := by
  obtain ⟨h1, h2, _⟩ := grd_some h
  have hcell : ∀ (i : Nat) (iv : IV), cs[i]? = some iv → ∃ v, w.cell? ⟨e.blk, e.off + p.o + i, none⟩ = some v ∧ VRel m iv v := by
    intro i iv hi
    obtain ⟨_, v, hv, hr⟩ := hM.g (p.add i) iv e (h2 i iv hi) he
    exact ⟨v, by rw [← hv]; simp [GA.add, Nat.add_assoc], hr⟩
  obtain ⟨l, l1, l2, l3⟩ := listAt hcell
  refine ⟨l, by omega, fun w' hw => ?_, l3, l2⟩
  by_cases hz : l.length = 0
  · have hl : l = [] := List.length_eq_zero_iff.1 hz
    subst hl
    have hn : n = 0 := by simp at l1; omega
    subst hn
    simp [loadCells, loadCellsFrom]
  · have h0 : 0 < cs.length := by omega
    have hb : e.blk < w.heap.size := (hM.g (p.add 0) cs[0] e (h2 0 cs[0] (List.getElem?_eq_getElem h0)) he).1
    have := run_cells (P := P) hb l2 (hw.block _ hb)
    rw [show n = l.length by omega]
    exact this

theorem asBytes_some : ∀ {cs : List IV} {l : List UInt8}, asBytes cs = some l → ∃ ns : List Int, cs = ns.map (IV.int .u8) ∧ l = ns.map fun n => UInt8.ofNat n.toNat
  | [], l, h => by simp [asBytes] at h; exact ⟨[], rfl, by simpa using h⟩
  | x :: cs, l, h => by
    unfold asBytes at h
    split at h
    · rename_i hq; cases hq
    · rename_i n r hq
      injection hq with e1 e2
      subst e1; subst e2
      split at h
      · rename_i l' hl'
        injection h with h
        obtain ⟨ns, h1, h2⟩ := asBytes_some hl'
        exact ⟨n :: ns, by simp [h1], by rw [← h, h2]; rfl⟩
      · cases h
    · cases h

theorem foldl_push (f : Int → UInt8) : ∀ (ns : List Int) (s : ByteArray), ns.foldl (fun r n => r.push (f n)) s = ⟨⟨s.data.toList ++ ns.map f⟩⟩
  | [], s => by simp
  | n :: ns, s => by
    simp only [List.foldl_cons]
    rw [foldl_push f ns]
    simp [ByteArray.push]

theorem ints_rel {ns : List Int} {l : List Value} (hl : l.length = ns.length) (h : ∀ (i : Nat) (iv : IV) (v : Value), (ns.map (IV.int .u8))[i]? = some iv → l[i]? = some v → VRel m iv v) : l = ns.map (Value.int .u8) := by
  apply List.ext_getElem?
  intro i
  by_cases hi : i < l.length
  · have h1 : i < ns.length := by omega
    have := h i (.int .u8 ns[i]) l[i] (by simp [h1]) (List.getElem?_eq_getElem hi)
    rw [List.getElem?_eq_getElem hi]
    generalize l[i] = x at *
    cases this
    simp [h1]
  · rw [List.getElem?_eq_none (by omega), List.getElem?_eq_none (by simp; omega)]

theorem conv_rel {R : Type} {s d : TypeId} {x : IV} {vx : Value} {k : IV → GH → Option R} {r : R} (hq : (match P.underlying d with | some (.slice _) => true | _ => false) = false) (hM : MemOk P m F G w)
    (h : convC P s d x G k = some r) (hx : VRel m x vx) :
    ∃ v v', (∀ w', Below w.heap.size w w' → (convert s d vx).run P w' = .ok v' w') ∧ VRel m v v' ∧ k v G = some r := by
  unfold convC at h
  split at h
  · rename_i q kd kk n hs hd
    cases hx
    exact ⟨_, _, fun w' _ => by simp [convert, run_und hs, run_und hd, Conv.intToInt], .int kd _, h⟩
  · rename_i q kd kk n hs hd
    cases hx
    exact ⟨_, _, fun w' _ => by simp [convert, run_und hs, run_und hd, Conv.intToFloat], .float kd _, h⟩
  · rename_i q kd sk b hs hd
    cases hx
    split at h
    · rename_i n hn
      unfold f2i at hn
      split at hn
      · rename_i n' hn'
        split at hn
        · rename_i hr
          injection hn with hn
          subst hn
          exact ⟨_, _, fun w' _ => by simp [convert, run_und hs, run_und hd, Conv.floatToInt, hn', hr.1, hr.2], .int kd _, h⟩
        · cases hn
      · cases hn
    · cases h
  · rename_i q kd sk b hs hd
    cases hx
    split at h
    · rename_i n hn
      unfold f2f at hn
      split at hn
      · rename_i hk
        injection hn with hn
        subst hn
        exact ⟨_, _, fun w' _ => by simp [convert, run_und hs, run_und hd, Conv.floatToFloat, hk], .float kd _, h⟩
      · rename_i hk
        split at hn
        · cases hn
        · rename_i g hg
          injection hn with hn
          subst hn
          exact ⟨_, _, fun w' _ => by simp [convert, run_und hs, run_und hd, Conv.floatToFloat, hk, hg], .float kd _, h⟩
        · rename_i g mm ee hg
          split at hn
          · cases hn
          · rename_i hinf
            injection hn with hn
            subst hn
            exact ⟨_, _, fun w' _ => by simp [convert, run_und hs, run_und hd, Conv.floatToFloat, hk, hg, hinf], .float kd _, h⟩
    · cases h
  · rename_i s hs hd
    cases hx
    exact ⟨_, _, fun w' _ => by simp [convert, run_und hs, run_und hd], .str _, h⟩
  · rename_i e s hs hd
    rw [hd] at hq
    cases hq
  · rename_i e p n hs hd
    split at h
    · rename_i hu
      split at h
      · rename_i hn
        subst hn
        cases hx
        exact ⟨_, .string ⟨⟨[]⟩⟩, fun w' _ => by simp [convert, run_und hs, run_und hd, run_und hu, Conv.bytesToString]; rfl, .str [], h⟩
      · cases h
    · rename_i p hu
      split at h
      · rename_i cs hcs
        split at h
        · rename_i l hl
          obtain ⟨ns, e1, e2⟩ := asBytes_some hl
          subst e1
          have hb : ∀ {c : Nat} {ad : Addr} {l' : List Value}, l'.length = n → (∀ w', Below w.heap.size w w' → (loadCells ad n).run P w' = .ok l'.toArray w') → (∀ (i : Nat) (iv : IV) (v : Value), (ns.map (IV.int .u8))[i]? = some iv → l'[i]? = some v → VRel m iv v) →
              ∀ w', Below w.heap.size w w' → (convert s d (.slice (some ad) n c)).run P w' = .ok (.string ⟨⟨l⟩⟩) w' := by
            intro c ad l' h1 h2 h3 w' hw
            have h4 := ints_rel (by rw [h1, ← (grd_some hcs).1]; simp) h3
            rw [run_convert_bytes_string w' s d e _ _ _ hs hu hd, run_bytesToString w' ad n c ns (by rw [h2 w' hw, h4]), foldl_push, e2]
            rfl
          cases hx with
          | slice _ en _ c he hnc hrw =>
            obtain ⟨l', h1, h2, h3, _⟩ := grd_cells hM hcs he
            exact ⟨_, _, hb h1 h2 h3, .str l, h⟩
          | sliceE _ a' =>
            have h0 : ns = [] := by
              have := (grd_some hcs).1
              simpa using this
            subst h0
            exact ⟨_, _, hb (l' := []) rfl (fun w' _ => by simp [loadCells, loadCellsFrom]) (fun i iv v h => by simp at h), .str l, h⟩
        · cases h
      · cases h
    · cases h
  · cases h

theorem q_convert (hM : MemOk P m F G w) {s d : TypeId} {x : Operand} (ho : o.op = .convert s d x) (hq : convMakes P o.op = false) (h : opC P O lo sand o env F G k = some r) (hE : ERel m env a.tmps) : QuietOk P m o a w F G k r := by
  simp only [opC, ho] at h
  rw [ho] at hq
  split at h
  · rename_i vx hx
    obtain ⟨v, v', h1, h2, h3⟩ := conv_rel (F := F) (w := w) hq hM h (ev_rel hE hx)
    refine ⟨v, v', fun w' hw => ?_, h2, h3⟩
    simp only [execOp, ho]
    exact run_v (h1 w' hw)
  · cases h

/-! ### len, min, max -/
theorem run_max2_int (mx : Bool) (kx ky : IntKind) (x y : Int) (w : World) : ((if mx then Builtin.max2 else Builtin.min2) (.int kx x) (.int ky y)).run P w = .ok (.int kx (if mx then (if y > x then y else x) else (if y < x then y else x))) w := by
  cases mx <;> simp [Builtin.max2, Builtin.min2]

theorem minmax_rel {R : Type} {mx : Bool} : ∀ {ys : List IV} {ys' : List Value} {x : IV} {x' : Value} {k : IV → Option R} {r : R}, minmaxC mx ys x k = some r → LRel m ys ys' → VRel m x x' →
    ∃ v v', (∀ w : World, (ys'.foldlM (if mx then Builtin.max2 else Builtin.min2) x').run P w = .ok v' w) ∧ VRel m v v' ∧ k v = some r
  | [], [], x, x', k, r, h, _, hx => ⟨x, x', fun w => rfl, hx, h⟩
  | [], y' :: ys', x, x', k, r, h, hl, hx => by have := hl.1; simp at this
  | y :: ys, [], x, x', k, r, h, hl, hx => by have := hl.1; simp at this
  | y :: ys, y' :: ys', x, x', k, r, h, hl, hx => by
    have hy := hl.2 0 y y' rfl rfl
    have hl' : LRel m ys ys' := ⟨by have := hl.1; simpa using this, fun i iv v a b => hl.2 (i + 1) iv v (by simpa using a) (by simpa using b)⟩
    simp only [minmaxC] at h
    split at h
    · rename_i kx a ky b
      cases hx; cases hy
      obtain ⟨v, v', h1, h2, h3⟩ := minmax_rel h hl' (.int kx _)
      refine ⟨v, v', fun w => ?_, h2, h3⟩
      simp only [List.foldlM_cons, Sem.run_bind, run_max2_int, Result.andThen_ok]
      exact h1 w
    · rename_i kx a ky b
      cases hx; cases hy
      split at h
      · rename_i q hq
        obtain ⟨v, v', h1, h2, h3⟩ := minmax_rel h hl' (.float kx q)
        refine ⟨v, v', fun w => ?_, h2, h3⟩
        have hm : ((if mx then Builtin.max2 else Builtin.min2) (.float kx a) (.float ky b)).run P w = .ok (.float kx q) w := by
          cases mx
          · simp only [Bool.false_eq_true, if_false, fmin] at hq
            simp only [Bool.false_eq_true, if_false, Builtin.min2]
            split at hq <;> first | (rename_i heq; injection hq with hq; subst hq; rw [heq]; rfl) | cases hq
          · simp only [if_true, fmax] at hq
            simp only [if_true, Builtin.max2]
            split at hq <;> first | (rename_i heq; injection hq with hq; subst hq; rw [heq]; rfl) | cases hq
        simp only [List.foldlM_cons, Sem.run_bind, hm, Result.andThen_ok]
        exact h1 w
      · cases h
    · cases h

theorem q_builtin {c : Call} {b : Builtin} (ho : o.op = .call c) (hc : c.callee = .builtin b) (hq : quietOp o.op = true) (h : opC P O lo sand o env F G k = some r) (hE : ERel m env a.tmps) : QuietOk P m o a w F G k r := by
  simp only [opC, ho] at h
  split at h
  · rename_i args hargs
    rw [hc] at h
    simp only at h
    have hA := evs_arel hE hargs
    have hrun : ∀ w', (execOp a.eval o).run P w' = (builtin b c.argTypes o.type (c.args.map fun | .const _ => true | _ => false) (c.args.map a.eval)).run P w' := by
      intro w'
      simp [execOp, ho, resolve, hc, invoke]
      rfl
    rw [ho] at hq
    simp only [quietOp, hc] at hq
    have hsz : args.length = c.args.size := by have := hA.1; simpa using this
    unfold builtinC at h
    split at h
    · split at h
      · rename_i t x ht
        obtain ⟨v', hv', hx⟩ := hA.get (i := 0) (iv := x) rfl
        have hlen : ∀ n : Nat, (∀ w' : World, (Builtin.len_ c.argTypes o.type (c.args.map a.eval)).run P w' = .ok (.int .i64 n) w') → k (.int .i64 n) F G = some r → QuietOk P m o a w F G k r :=
          fun n hn hk => ⟨_, _, fun w' _ => by rw [hrun w']; simp [builtin, hn w'], .int _ _, hk⟩
        split at h
        · rename_i s hu
          cases hx
          refine hlen _ (fun w' => ?_) h
          have e1 : (⟨⟨s⟩⟩ : ByteArray).size = s.length := rfl
          simp only [Builtin.len_, ht, hv', Sem.run_bind, run_und hu, Result.andThen_ok, Sem.run_pure, goInt, e1]
        · rename_i e p n hu
          refine hlen _ (fun w' => ?_) h
          cases hx <;> simp only [Builtin.len_, ht, hv', Sem.run_bind, run_und hu, Result.andThen_ok, Sem.run_pure, goInt]
        · rename_i n e hu
          refine hlen _ (fun w' => ?_) h
          simp only [Builtin.len_, ht, hv', Sem.run_bind, run_und hu, Result.andThen_ok, Sem.run_pure, goInt]
        · cases h
      · cases h
    · split at h
      · rename_i x xs
        obtain ⟨x', hx', hx⟩ := hA.get (i := 0) (iv := x) rfl
        obtain ⟨tl, htl⟩ : ∃ tl, (c.args.map a.eval).toList = x' :: tl := by
          have : (c.args.map a.eval).toList[0]? = some x' := by simpa using hx'
          cases hh : (c.args.map a.eval).toList with
          | nil => rw [hh] at this; simp at this
          | cons q qs => rw [hh] at this; simp at this; exact ⟨qs, by rw [this]⟩
        have hget : ∀ i, (c.args.map a.eval)[i + 1]? = tl[i]? := fun i => by
          have : (c.args.map a.eval).toList[i + 1]? = tl[i]? := by rw [htl]; rfl
          rw [← this]; simp
        have hlen : tl.length + 1 = (c.args.map a.eval).size := by
          have : (c.args.map a.eval).toList.length = tl.length + 1 := by rw [htl]; rfl
          rw [← this]; simp
        obtain ⟨v, v', h1, h2, h3⟩ := minmax_rel (P := P) (mx := true) (ys' := tl) h ⟨by have := hA.1; simp at this hlen; omega, fun i iv v p q => hA.2 (i + 1) iv v (by simpa using p) (by rw [hget]; exact q)⟩ hx
        refine ⟨v, v', fun w' _ => ?_, h2, h3⟩
        rw [hrun w']
        have h1' := h1 w'
        simp only [if_true] at h1'
        have : (Builtin.max_ c.argTypes o.type (c.args.map a.eval)).run P w' = .ok v' w' := by
          unfold Builtin.max_
          rw [htl]; exact h1'
        simp [builtin, this]
      · cases h
    · split at h
      · rename_i x xs
        obtain ⟨x', hx', hx⟩ := hA.get (i := 0) (iv := x) rfl
        obtain ⟨tl, htl⟩ : ∃ tl, (c.args.map a.eval).toList = x' :: tl := by
          have : (c.args.map a.eval).toList[0]? = some x' := by simpa using hx'
          cases hh : (c.args.map a.eval).toList with
          | nil => rw [hh] at this; simp at this
          | cons q qs => rw [hh] at this; simp at this; exact ⟨qs, by rw [this]⟩
        have hget : ∀ i, (c.args.map a.eval)[i + 1]? = tl[i]? := fun i => by
          have : (c.args.map a.eval).toList[i + 1]? = tl[i]? := by rw [htl]; rfl
          rw [← this]; simp
        have hlen : tl.length + 1 = (c.args.map a.eval).size := by
          have : (c.args.map a.eval).toList.length = tl.length + 1 := by rw [htl]; rfl
          rw [← this]; simp
        obtain ⟨v, v', h1, h2, h3⟩ := minmax_rel (P := P) (mx := false) (ys' := tl) h ⟨by have := hA.1; simp at this hlen; omega, fun i iv v p q => hA.2 (i + 1) iv v (by simpa using p) (by rw [hget]; exact q)⟩ hx
        refine ⟨v, v', fun w' _ => ?_, h2, h3⟩
        rw [hrun w']
        have h1' := h1 w'
        simp only [Bool.false_eq_true, if_false] at h1'
        have : (Builtin.min_ c.argTypes o.type (c.args.map a.eval)).run P w' = .ok v' w' := by
          unfold Builtin.min_
          rw [htl]; exact h1'
        simp [builtin, this]
      · cases h
    · cases hq
    · cases hq
    · cases h
  · cases h

end
end Go.LI
