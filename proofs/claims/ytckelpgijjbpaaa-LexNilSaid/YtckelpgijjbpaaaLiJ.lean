/- append, copy and []byte(s), as operations; and each operation that is no call. -/
import Derived.Test.YtckelpgijjbpaaaLiI
namespace Go.LI
open Go Go.RowKit

section
variable {R : Type} {P : Program} {B K : Nat → Prop} {w0 : World} {m : Map} {F : List (List IV)} {G : GH} {w : World} {O : Ora R} {lo : List Nat} {sand : Bool} {o : Oper} {env : List IV} {a : Act} {k : IV → List (List IV) → GH → Option R} {r : R}

theorem two_args {c : Call} {args : List IV} {x y : IV} (hA : ARel m args (c.args.map a.eval)) (h : args = [x, y]) : ∃ vx vy, c.args.map a.eval = #[vx, vy] ∧ VRel m x vx ∧ VRel m y vy := by
  subst h
  obtain ⟨vx, h1, h2⟩ := hA.get (i := 0) (iv := x) rfl
  obtain ⟨vy, h3, h4⟩ := hA.get (i := 1) (iv := y) rfl
  have hs : (c.args.map a.eval).size = 2 := by have := hA.1; simp at this; simp; omega
  refine ⟨vx, vy, ?_, h2, h4⟩
  apply Array.ext'
  apply List.ext_getElem?
  intro i
  match i with
  | 0 => simpa using h1
  | 1 => simpa using h3
  | i + 2 => rw [List.getElem?_eq_none (by rw [Array.length_toList, hs]; omega), List.getElem?_eq_none (by simp)]

theorem two_types {ts : Array TypeId} {t u : TypeId} (h : ts.toList = [t, u]) : ts = #[t, u] := by
  apply Array.ext'; simpa using h

theorem run_call_builtin {c : Call} {b : Builtin} (ho : o.op = .call c) (hc : c.callee = .builtin b) (w' : World) :
    (execOp a.eval o).run P w' = (builtin b c.argTypes o.type (c.args.map fun | .const _ => true | _ => false) (c.args.map a.eval)).run P w' := by
  simp [execOp, ho, resolve, hc, invoke]
  rfl

theorem bytesI_rel (s : List UInt8) : ∀ (j : Nat) (iv : IV) (v : Value), (bytesI s)[j]? = some iv → (s.map fun b => Value.int .u8 b.toNat)[j]? = some v → VRel m.noF iv v ∧ v.oneCell' = true := by
  intro j iv v h1 h2
  simp only [bytesI, List.getElem?_map] at h1 h2
  cases hs : s[j]? with
  | none => rw [hs] at h1; cases h1
  | some b =>
    rw [hs] at h1 h2
    simp at h1 h2
    subst h1; subst h2
    exact ⟨.int _ _, rfl⟩

theorem s_append {c : Call} (ho : o.op = .call c) (hc : c.callee = .builtin .append) (h : opC P O lo sand o env F G k = some r) (hE : ERel m env a.tmps) (hR : HRel P B K w0 m F G w) : StepOk P B K w0 m o a w k r := by
  simp only [opC, ho] at h
  split at h
  · rename_i args hargs
    rw [hc] at h
    simp only [builtinC] at h
    have hA := evs_arel hE hargs
    split at h
    · rename_i t u p n x hts
      have hts' := two_types hts
      obtain ⟨vs, vx, hvv, hvs, hvx⟩ := two_args hA rfl
      have fin : ∀ {w' : World} {v' : Value}, (Builtin.append_ #[t, u] o.type #[vs, vx]).run P w = .ok v' w' → (execOp a.eval o).run P w = .ok (.value v') w' := by
        intro w' v' hrun
        rw [run_call_builtin ho hc, hts', hvv]
        simp [builtin, hrun]
      split at h
      · rename_i e hu
        split at h
        · rename_i i z hi hz
          split at h
          · cases h
          · rename_i hcond
            have hcond : 0 < i.bytes ∧ i.bytes ≤ 2 ^ 20 ∧ 0 < i.size ∧ z.cells.length = i.size := by
              by_cases hq : 0 < i.bytes ∧ i.bytes ≤ 2 ^ 20 ∧ 0 < i.size ∧ z.cells.length = i.size
              · exact hq
              · exact absurd hq hcond
            obtain ⟨q1, q2, q3, q4⟩ := hcond
            obtain ⟨i', zv, z1, z2, z3⟩ := zeroT_some hz
            have : i' = i := by rw [hi] at z1; injection z1 with z1; exact z1.symm
            subst this
            have hzs : zv.cells.size = i'.size := by rw [← q4]; exact (cells_rel (ofValue_rel (m := m) z3)).1.symm
            split at h
            · rename_i b mm e2 hu2
              split at h
              · rename_i new hnew
                split at h
                · rename_i a' G' hg
                  -- a slice comes on
                  have key : ∀ (X : List Value), (∀ w', Below w.heap.size w w' → (Builtin.firstCells i'.size mm vx).run P w' = .ok X.toArray w') → new.length = mm * i'.size → X.length = mm * i'.size →
                      (∀ (j : Nat) (iv : IV) (v : Value), new[j]? = some iv → X[j]? = some v → VRel m.noF iv v ∧ v.oneCell' = true) → (∀ w', (Builtin.lenOf vx).run P w' = .ok mm w') → StepOk P B K w0 m o a w k r := by
                    intro X h1 h2 h3 h4 h5
                    obtain ⟨w', m', v', r1, r2, r3, r4⟩ := append_rel (ty := o.type) hR hu hi (.inl ⟨e2, hu2⟩) z2 hzs q1 q2 hg hvs h5 h1 h2 h3 h4
                    exact ⟨_, _, m', w', F, G', wp_of_value (fin r1), r2, r3, r4, h⟩
                  cases hvx with
                  | sliceNil =>
                    simp only [if_true] at hnew
                    injection hnew with hnew
                    subst hnew
                    exact key [] (fun w' _ => by simp [Builtin.firstCells]) (by simp) (by simp) (fun j iv v h => by simp at h) (fun w' => by simp [Builtin.lenOf])
                  | sliceE b' ad =>
                    simp only at hnew
                    obtain ⟨l1, _, _⟩ := grd_some hnew
                    have : new = [] := List.length_eq_zero_iff.1 (by simpa using l1)
                    subst this
                    exact key [] (fun w' _ => by simp [Builtin.firstCells, loadCells, loadCellsFrom]) (by simp) (by simp) (fun j iv v h => by simp at h) (fun w' => by simp [Builtin.lenOf])
                  | slice b' en _ cc he hnc hrw =>
                    simp only at hnew
                    obtain ⟨l1, l2, blk, hblk, hmo⟩ := grd_some hnew
                    obtain ⟨Y, hYl, hYr, hYv, hYc⟩ := grd_cells hR.mem hnew he
                    obtain ⟨crow, tt, fr, hgb⟩ := hR.gblk _ _ _ hblk hmo he
                    refine key Y (fun w' hw => by simp only [Builtin.firstCells]; exact hYr w' hw) l1 hYl (fun j iv v h1 h2 => ?_) (fun w' => by simp [Builtin.lenOf])
                    have h3 := hYc j v h2
                    rw [cell?_eq hgb.row] at h3
                    have h4 := l2 j iv h1
                    simp only [gld, GA.add, hblk, hmo, if_true] at h4
                    obtain ⟨v', h5, h6, h7⟩ := hgb.cells _ _ h4
                    rw [← Nat.add_assoc, h3] at h5
                    injection h5 with h5
                    subst h5
                    exact ⟨h6, h7⟩
                · cases h
              · cases h
            · rename_i s hu2
              split at h
              · rename_i hs1
                split at h
                · rename_i a' G' hg
                  cases hvx
                  have hx : ∀ w' : World, (Builtin.firstCells i'.size s.length (.string ⟨⟨s⟩⟩)).run P w' = .ok (s.map fun b => Value.int .u8 b.toNat).toArray w' := by
                    intro w'
                    simp only [Builtin.firstCells, Sem.run_pure]
                    congr 1
                    apply Array.ext'
                    have : ((⟨⟨s⟩⟩ : ByteArray).extract 0 s.length).data.toList = s := by
                      rw [ByteArray.data_extract]; simp
                    rw [Array.toList_map, this]
                  obtain ⟨w', m', v', r1, r2, r3, r4⟩ := append_rel (ty := o.type) hR hu hi (.inr hu2) z2 hzs q1 q2 hg hvs (fun w' => by simp [Builtin.lenOf]; rfl) (fun w' _ => hx w') (by simp [bytesI, hs1]) (by simp [hs1]) (bytesI_rel s)
                  exact ⟨_, _, m', w', F, G', wp_of_value (fin r1), r2, r3, r4, h⟩
                · cases h
              · cases h
            · cases h
        · cases h
      · cases h
    · cases h
  · cases h

theorem s_convMakes {s d : TypeId} {x : Operand} (ho : o.op = .convert s d x) (hq : convMakes P o.op = true) (h : opC P O lo sand o env F G k = some r) (hE : ERel m env a.tmps) (hR : HRel P B K w0 m F G w) : StepOk P B K w0 m o a w k r := by
  simp only [opC, ho] at h
  rw [ho] at hq
  simp only [convMakes] at hq
  split at h
  · rename_i vx hx
    have hb := ev_rel hE hx
    unfold convC at h
    split at h
    · rename_i hd; rw [hd] at hq; cases hq
    · rename_i hd; rw [hd] at hq; cases hq
    · rename_i hd; rw [hd] at hq; cases hq
    · rename_i hd; rw [hd] at hq; cases hq
    · rename_i hd; rw [hd] at hq; cases hq
    · rename_i e st hs hd
      split at h
      · rename_i he
        split at h
        · rename_i hc1
          generalize hbv : a.eval x = bv at hb
          cases hb
          have hrun := Lib.run_convert_string_bytes w s d e ⟨⟨st⟩⟩ hs hd he
          have hrow := Lib.bytesWorld_at_new w e ⟨⟨st⟩⟩
          have hgr : Grown w (Lib.bytesWorld w e ⟨⟨st⟩⟩) (Lib.bytesCells w e ⟨⟨st⟩⟩) e ((Lib.bytesCells w e ⟨⟨st⟩⟩).size, (Lib.bytesCells w e ⟨⟨st⟩⟩).size + 1) :=
            { below := ⟨rfl, rfl, rfl, by rw [Lib.bytesWorld_size]; omega, fun i hi => Lib.bytesWorld_at_old w e _ i hi⟩, row := hrow }
          have hcap : st.length ≤ grownCap w st.length 0 e := grownCap_ge w _ _ _
          have hsz : (Lib.bytesCells w e ⟨⟨st⟩⟩).size = grownCap w st.length 0 e := by
            simp only [Lib.bytesCells, Array.size_append, Array.size_map, Array.size_replicate]
            show st.length + (grownCap w st.length 0 e - st.length) = _
            omega
          refine ⟨_, _, _, _, _, _, wp_of_value (v' := .slice (some ⟨w.heap.size, 0, none⟩) st.length (grownCap w st.length 0 e)) (w' := Lib.bytesWorld w e ⟨⟨st⟩⟩) ?_, Map.le_addG (hR.g_none (Nat.le_refl _)), hR.newG hgr (cells := bytesI st) ?_ (by rw [hsz]; simp [bytesI]; exact hcap) (fun o ho => by simp; omega), ?_, h⟩
          · simp only [execOp, ho, hbv]
            exact run_v hrun
          · intro j iv hj
            have hjl : j < st.length := by
              have := (List.getElem?_eq_some_iff.1 hj).1
              simpa [bytesI] using this
            have := bytesI_rel (m := m) st j iv (.int .u8 (st[j]).toNat) hj (by simp [hjl])
            refine ⟨_, ?_, this⟩
            simp only [Lib.bytesCells]
            rw [Array.getElem?_append, if_pos (by show j < (Array.map _ (⟨st⟩ : Array UInt8)).size; simpa using hjl)]
            show (Array.map _ (⟨st⟩ : Array UInt8))[j]? = _
            simp [hjl]
          · refine .slice (gaddr G) _ _ _ (Map.addG_self _ _ _) hcap fun _ => ?_
            simp only [gaddr, Nat.zero_add, hc1, Nat.mul_one, hsz]
            exact Nat.le_refl _
        · cases h
      · cases h
    · rename_i hd; rw [hd] at hq; cases hq
    · cases h
  · cases h

theorem s_copy {c : Call} (ho : o.op = .call c) (hc : c.callee = .builtin .copy) (h : opC P O lo sand o env F G k = some r) (hE : ERel m env a.tmps) (hR : HRel P B K w0 m F G w) : StepOk P B K w0 m o a w k r := by
  simp only [opC, ho] at h
  split at h
  · rename_i args hargs
    rw [hc] at h
    simp only [builtinC] at h
    have hA := evs_arel hE hargs
    split at h
    · rename_i t u p n b mm hts
      have hts' := two_types hts
      obtain ⟨vs, vx, hvv, hvs, hvx⟩ := two_args hA rfl
      have fin : ∀ {w' : World} {v' : Value}, (Builtin.copy_ #[t, u] o.type #[vs, vx]).run P w = .ok v' w' → (execOp a.eval o).run P w = .ok (.value v') w' := by
        intro w' v' hrun
        rw [run_call_builtin ho hc, hts', hvv]
        simp [builtin, hrun]
      split at h
      · rename_i e hu
        split at h
        · cases h
        · rename_i hz
          obtain ⟨ii, hii, hs⟩ := cellsT_pos hz
          split at h
          · rename_i p b
            split at h
            · rename_i cs hcs
              split at h
              · rename_i G' hG'
                obtain ⟨l1, l2, blk2, hblk2, hmo2⟩ := grd_some hcs
                -- what is read
                have hread : ∃ Y : List Value, Y.length = min mm n * P.cellsOf e ∧ (Builtin.firstCells (P.cellsOf e) (min mm n) vx).run P w = .ok Y.toArray w ∧ (Builtin.lenOf vx).run P w = .ok mm w ∧
                    ∀ (j : Nat) (iv : IV) (v : Value), cs[j]? = some iv → Y[j]? = some v → VRel m.noF iv v ∧ v.oneCell' = true := by
                  cases hvx with
                  | sliceE _ ad =>
                    have : cs = [] := List.length_eq_zero_iff.1 (by simpa using l1)
                    subst this
                    exact ⟨[], by simp, by simp [Builtin.firstCells, loadCells, loadCellsFrom], by simp [Builtin.lenOf], fun j iv v h => by simp at h⟩
                  | slice _ en _ cc he hnc hrw =>
                    obtain ⟨Y, hYl, hYr, hYv, hYc⟩ := grd_cells hR.mem hcs he
                    obtain ⟨crow, tt, fr, hgb⟩ := hR.gblk _ _ _ hblk2 hmo2 he
                    refine ⟨Y, hYl, by simp only [Builtin.firstCells]; exact hYr w (Below.refl _ _), by simp [Builtin.lenOf], fun j iv v h1 h2 => ?_⟩
                    have h3 := hYc j v h2
                    rw [cell?_eq hgb.row] at h3
                    have h4 := l2 j iv h1
                    simp only [gld, GA.add, hblk2, hmo2, if_true] at h4
                    obtain ⟨v', h5, h6, h7⟩ := hgb.cells _ _ h4
                    rw [← Nat.add_assoc, h3] at h5
                    injection h5 with h5
                    subst h5
                    exact ⟨h6, h7⟩
                obtain ⟨Y, hYl, hYr, hYn, hYv⟩ := hread
                have hYone : ∀ v ∈ Y, v.oneCell' = true := by
                  intro v hv
                  obtain ⟨j, hj, rfl⟩ := List.mem_iff_getElem.1 hv
                  have h1 : j < cs.length := by omega
                  exact (hYv j cs[j] Y[j] (List.getElem?_eq_getElem h1) (List.getElem?_eq_getElem hj)).2
                unfold gst at hG'
                split at hG'
                · rename_i blk hblk
                  split at hG'
                  · rename_i hmo
                    injection hG' with hG'
                    subst hG'
                    cases hvs with
                    | sliceE _ ad =>
                      have hm0 : min mm 0 = 0 := by simp
                      rw [hm0] at hYl hYr l1 h
                      have : cs = [] := List.length_eq_zero_iff.1 (by simpa using l1)
                      subst this
                      have hY0 : Y = [] := List.length_eq_zero_iff.1 (by simpa using hYl)
                      subst hY0
                      have hsp : splice blk.cells p.o [] = blk.cells := by simp [splice]
                      rw [hsp] at h
                      have hset : G.set p.b { blk with cells := blk.cells } = G := by
                        have : ({ blk with cells := blk.cells } : Blk) = blk := rfl
                        rw [this]
                        obtain ⟨hlt, heq⟩ := List.getElem?_eq_some_iff.1 hblk
                        rw [← heq]; exact List.set_getElem_self hlt
                      rw [hset] at h
                      refine ⟨_, _, m, w, F, G, wp_of_value (fin (v' := .int .i64 (0 : Nat)) ?_), m.le_refl, hR, .int _ _, h⟩
                      rw [← hs] at hYr
                      simp [Builtin.copy_, run_und hu, hYn, run_sizeI hii, storeCells, goInt, hYr]
                    | slice _ en _ cc he hnc hrw =>
                      obtain ⟨crow, tt, fr, hgb⟩ := hR.gblk _ _ _ hblk (by omega) he
                      have hfits := hgb.fits
                      obtain ⟨w', hw1, hw2⟩ := run_setCells (P := P) en.blk (en.off + p.o) tt fr Y 0 crow w hgb.row (by omega) (hgb.rw hmo.1).2.2.2.2 hYone
                      refine ⟨_, _, m, w', F, _, wp_of_value (fin (v' := .int .i64 ((min mm n : Nat) : Int)) ?_), m.le_refl, ?_, .int _ _, h⟩
                      · have hYr' := hYr
                        rw [← hs] at hYr'
                        have e0 : Nat.min mm n = min mm n := rfl
                        simp only [Builtin.copy_, List.getElem?_toArray, List.getElem?_cons_zero, List.getElem?_cons_succ, Sem.run_bind, run_und hu, Result.andThen_ok, hYn, run_sizeI hii, e0, hYr', hw1, Sem.run_pure, goInt]
                      · refine hR.writeG hblk hmo.1 he hgb hw2 (by rw [setAll_size]) (by rw [splice_len hmo.2]; exact Nat.le_refl _) ?_
                        rw [Nat.add_zero]
                        exact splice_rel (Q := fun iv v => VRel m.noF iv v ∧ v.oneCell' = true) hmo.2 hfits (by omega) hgb.cells hYv
                  · cases hG'
                · cases hG'
              · cases h
            · cases h
          · split at h
            · rename_i hmn
              have hn0 : Nat.min mm n = 0 := hmn
              refine ⟨_, _, m, w, F, G, wp_of_value (fin (v' := .int .i64 ((0 : Nat) : Int)) ?_), m.le_refl, hR, .int _ _, h⟩
              have hl : ∀ w' : World, (Builtin.lenOf vx).run P w' = .ok mm w' := by
                intro w'
                cases hvx <;> simp [Builtin.lenOf]
              have hf : (Builtin.firstCells ii.size 0 vx).run P w = .ok #[] w := by
                cases hvx <;> simp [Builtin.firstCells, loadCells, loadCellsFrom]
              cases hvs <;> simp [Builtin.copy_, run_und hu, hl, run_sizeI hii, hn0, hf, storeCells, goInt]
            · cases h
      · cases h
    · cases h
  · cases h

end
end Go.LI
