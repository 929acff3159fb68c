/- The quiet operations, third part: conversions, addresses, parts, loads, cuts, composites, len, min, max. -/
import Derived.Test.YtckelpgijjbpaaaLiD
namespace Go.LI
open Go Go.RowKit

section
variable {R : Type} {P : Program} {m : Map} {F : List (List IV)} {G : GH} {w : World} {O : Ora R} {lo : List Nat} {sand : Bool} {o : Oper} {env : List IV} {a : Act} {k : IV → List (List IV) → GH → Option R} {r : R}

theorem fieldsT_some {t : TypeId} {f : Nat} {fd : Field} (h : (fieldsT P t)[f]? = some fd) : ∃ fs, P.underlying t = some (.struct fs) ∧ fs[f]? = some fd := by
  unfold fieldsT at h
  split at h
  · rename_i fs hu; exact ⟨fs, hu, h⟩
  · simp at h

theorem cellsT_pos {t : TypeId} (h : P.cellsOf t ≠ 0) : ∃ i, P.info? t = some i ∧ i.size = P.cellsOf t := by
  unfold Program.cellsOf at *
  cases hi : P.info? t with
  | none => rw [hi] at h; simp at h
  | some i => exact ⟨i, rfl, by simp⟩

theorem run_sizeI {t : TypeId} {i : TypeInfo} (h : P.info? t = some i) : (sizeOf t).run P w = .ok i.size w := by simp [sizeOf, typeInfo, h]

theorem addr_add (b o n : Nat) : (⟨b, o, none⟩ : Addr).add n = ⟨b, o + n, none⟩ := by
  unfold Addr.add
  split
  · rename_i h; subst h; rfl
  · rfl

/-- An address is moved on. -/
theorem addr_rel {x v : IV} {n : Nat} {vx : Value} (h : addrI x n = some v) (hx : VRel m x vx) : ∃ ad, vx = .pointer (some ad) ∧ ad.spot = none ∧ VRel m v (.pointer (some (ad.add n))) := by
  unfold addrI at h
  split at h
  · rename_i p
    injection h with h
    subst h
    cases hx with
    | ptr _ e he =>
      refine ⟨_, rfl, rfl, ?_⟩
      rw [addr_add, show e.off + p.o + n = e.off + (p.add n).o by simp [GA.add]; omega]
      exact .ptr (p.add n) e he
  · rename_i b i
    injection h with h
    subst h
    cases hx with
    | loc _ _ c hc =>
      refine ⟨_, rfl, rfl, ?_⟩
      rw [addr_add]
      exact .loc b (i + n) c hc
  · cases h

theorem q_fieldAddr {t : TypeId} {x : Operand} {f : Nat} (ho : o.op = .fieldAddr t x f) (h : opC P O lo sand o env F G k = some r) (hE : ERel m env a.tmps) : QuietOk P m o a w F G k r := by
  simp only [opC, ho] at h
  split at h
  · rename_i vx fd hx hf
    obtain ⟨fs, hu, hfd⟩ := fieldsT_some hf
    split at h
    · cases h
    · rename_i hc
      split at h
      · rename_i v hv
        obtain ⟨ad, e1, e2, e3⟩ := addr_rel hv (ev_rel hE hx)
        obtain ⟨i, hi, hs⟩ := cellsT_pos hc
        refine ⟨v, _, fun w' _ => ?_, e3, h⟩
        simp only [execOp, ho]
        refine run_v ?_
        simp [Instr.fieldAt, run_und hu, hfd, e1, Instr.sureAddr, fieldPlace, run_sizeI hi, hs, hc]
      · cases h
  · cases h

theorem ARel.part {cs : List IV} {cs' : Array Value} (h : ARel m cs cs') {off n : Nat} (hl : off + n ≤ cs.length) : VRel m (.agg ((cs.drop off).take n)) (.agg (cs'.extract off (off + n))) := by
  have hs : off + n ≤ cs'.size := by rw [← h.1]; exact hl
  refine .agg _ _ (by simp; omega) fun i iv v h1 h2 => ?_
  have hi : i < n := by
    have := (List.getElem?_eq_some_iff.1 h1).1
    simp at this; omega
  rw [List.getElem?_take_of_lt hi, List.getElem?_drop] at h1
  rw [Array.getElem?_extract, if_pos (by omega)] at h2
  exact h.2 _ _ _ h1 h2

theorem part_rel {t : TypeId} {cs : List IV} {cs' : Array Value} {off : Nat} {v : IV} (hA : ARel m cs cs') (h : partI P t cs off = some v) :
    VRel m v (partV P t cs' off (P.cellsOf t)) ∧ (∀ w, (part t cs' off).run P w = .ok (partV P t cs' off (P.cellsOf t)) w) := by
  unfold partI at h
  split at h
  · rename_i q hq
    split at h
    · rename_i ha
      split at h
      · rename_i hl
        injection h with h
        subst h
        exact ⟨by simp only [partV, ha, if_true]; exact hA.part hl, fun w => run_partV hq cs' off (fun h => by rw [ha] at h; cases h)⟩
      · cases h
    · rename_i ha
      have ha' : aggT P t = false := by simpa using ha
      obtain ⟨v', hv', hr⟩ := hA.get h
      refine ⟨?_, fun w => run_partV hq cs' off (fun _ => (Array.getElem?_eq_some_iff.1 hv').1)⟩
      simp only [partV, ha', Bool.false_eq_true, if_false, getD_of hv']
      exact hr
  · cases h

theorem q_field {t : TypeId} {x : Operand} {f : Nat} (ho : o.op = .field t x f) (h : opC P O lo sand o env F G k = some r) (hE : ERel m env a.tmps) : QuietOk P m o a w F G k r := by
  simp only [opC, ho] at h
  split at h
  · rename_i cs fd hx hf
    obtain ⟨fs, hu, hfd⟩ := fieldsT_some hf
    have hb := ev_rel hE hx
    generalize hbv : a.eval x = bv at hb
    cases hb with
    | agg _ cs' hs hc =>
      split at h
      · rename_i v hv
        obtain ⟨h1, h2⟩ := part_rel ⟨hs, hc⟩ hv
        refine ⟨v, _, fun w' _ => ?_, h1, h⟩
        simp only [execOp, ho]
        refine run_v ?_
        simp [Instr.field, run_und hu, hfd, hbv, asAgg, h2]
      · cases h
  · cases h

theorem q_index {t : TypeId} {x y : Operand} (ho : o.op = .index t x y) (h : opC P O lo sand o env F G k = some r) (hE : ERel m env a.tmps) : QuietOk P m o a w F G k r := by
  simp only [opC, ho] at h
  split at h
  · rename_i s kd i hu hx hy
    have hb := ev_rel hE hx
    have hc := ev_rel hE hy
    generalize hbv : a.eval x = bv at hb
    generalize hcv : a.eval y = cv at hc
    cases hb; cases hc
    by_cases hi : 0 ≤ i ∧ i < (s.length : Int)
    · rw [show decide (0 ≤ i ∧ i < (s.length : Int)) = true by simp [hi]] at h
      have hlt : i.toNat < s.length := by omega
      refine ⟨_, .int .u8 ((s.getD i.toNat 0).toNat), fun w' _ => ?_, .int _ _, h⟩
      simp only [execOp, ho]
      refine run_v ?_
      have e1 : (⟨⟨s⟩⟩ : ByteArray)[i.toNat]? = some (s.getD i.toNat 0) := by
        show (if h : i.toNat < (⟨⟨s⟩⟩ : ByteArray).size then some ((⟨⟨s⟩⟩ : ByteArray)[i.toNat]) else none) = _
        rw [dif_pos (show i.toNat < (⟨⟨s⟩⟩ : ByteArray).size from hlt)]
        show some (s[i.toNat]) = _
        simp [List.getD_eq_getElem?_getD, hlt]
      simp [Instr.index, hbv, hcv, asIntOf, run_und hu, hi.1, e1]
    · rw [show decide (0 ≤ i ∧ i < (s.length : Int)) = false by simp; omega] at h
      cases h
  · rename_i n e cs kd i hu hx hy
    split at h
    · rename_i hi
      split at h
      · rename_i v hv
        have hb := ev_rel hE hx
        have hc := ev_rel hE hy
        generalize hbv : a.eval x = bv at hb
        generalize hcv : a.eval y = cv at hc
        cases hc
        cases hb with
        | agg _ cs' hs hcc =>
          obtain ⟨h1, h2⟩ := part_rel ⟨hs, hcc⟩ hv
          have hq : ∃ q, P.underlying e = some q := by
            unfold partI at hv
            split at hv
            · rename_i q hq; exact ⟨q, hq⟩
            · cases hv
          obtain ⟨q, hq⟩ := hq
          refine ⟨v, _, fun w' _ => ?_, h1, h⟩
          simp only [execOp, ho]
          refine run_v ?_
          simp [Instr.index, hbv, hcv, asIntOf, run_und hu, hi.1, hi.2, run_sizeT hq, h2]
      · cases h
    · cases h
  · cases h

theorem q_indexAddr {t : TypeId} {x y : Operand} (ho : o.op = .indexAddr t x y) (h : opC P O lo sand o env F G k = some r) (hE : ERel m env a.tmps) : QuietOk P m o a w F G k r := by
  simp only [opC, ho] at h
  split at h
  · rename_i e p n kd i hu hx hy
    split at h
    · cases h
    · rename_i hz
      obtain ⟨ii, hii, hs⟩ := cellsT_pos hz
      split at h
      · rename_i q hq
        unfold idx? at hq
        split at hq
        · rename_i p
          split at hq
          · rename_i hi
            injection hq with hq
            subst hq
            have hb := ev_rel hE hx
            have hc := ev_rel hE hy
            generalize hbv : a.eval x = bv at hb
            generalize hcv : a.eval y = cv at hc
            cases hc
            cases hb with
            | slice _ en _ c he hn hc' =>
              refine ⟨_, .pointer (some ⟨en.blk, en.off + (p.add (i.toNat * P.cellsOf e)).o, none⟩), fun w' _ => ?_, .ptr _ en he, h⟩
              simp only [execOp, ho]
              refine run_v ?_
              simp [Instr.indexAt, hbv, hcv, asIntOf, run_und hu, hi.1, hi.2, run_sizeI hii, hs, addr_add, GA.add, Nat.add_assoc]
            | sliceE => omega
          · cases hq
        · cases hq
      · cases h
  · rename_i n e vx kd i hu hx hy
    split at h
    · cases h
    · rename_i hz
      obtain ⟨ii, hii, hs⟩ := cellsT_pos hz
      split at h
      · rename_i hi
        split at h
        · rename_i v hv
          have hc := ev_rel hE hy
          generalize hcv : a.eval y = cv at hc
          cases hc
          obtain ⟨ad, e1, e2, e3⟩ := addr_rel hv (ev_rel hE hx)
          refine ⟨v, _, fun w' _ => ?_, e3, h⟩
          simp only [execOp, ho]
          refine run_v ?_
          simp [Instr.indexAt, e1, hcv, asIntOf, run_und hu, hi.1, hi.2, run_sizeI hii, hs, Instr.sureAddr]
        · cases h
      · cases h
  · cases h

/-! ### Cuts -/
theorem loI_rel {l : Option Operand} {n : Int} (h : loI env l = some n) (hE : ERel m env a.tmps) : (l.map a.eval = none ∧ n = 0) ∨ ∃ kd, l.map a.eval = some (.int kd n) := by
  cases l with
  | none => simp [loI] at h; exact .inl ⟨rfl, h.symm⟩
  | some x =>
    right
    simp only [loI, intI] at h
    split at h
    · rename_i kd q hx
      injection h with h
      subst h
      have hb := ev_rel hE hx
      generalize hbv : a.eval x = bv at hb
      cases hb
      exact ⟨kd, by simp [hbv]⟩
    · cases h

theorem hiI_rel {l : Option Operand} {x : IV} {n : Int} (h : hiI env l x = some n) (hE : ERel m env a.tmps) :
    (l.map a.eval = none ∧ ((∃ s, x = .str s ∧ n = s.length) ∨ ∃ p q, x = .slice p q ∧ n = q)) ∨ ∃ kd, l.map a.eval = some (.int kd n) := by
  cases l with
  | none =>
    left
    refine ⟨rfl, ?_⟩
    simp only [hiI] at h
    split at h
    · injection h with h; exact .inl ⟨_, rfl, h.symm⟩
    · injection h with h; exact .inr ⟨_, _, rfl, h.symm⟩
    · cases h
  | some x =>
    right
    simp only [hiI, intI] at h
    split at h
    · rename_i kd q hx
      injection h with h
      subst h
      have hb := ev_rel hE hx
      generalize hbv : a.eval x = bv at hb
      cases hb
      exact ⟨kd, by simp [hbv]⟩
    · cases h

theorem run_sliceBound {kd : IntKind} {n : Int} {y : Nat} {c : BoundsCode} (h : 0 ≤ n ∧ n ≤ (y : Int)) : (Instr.sliceBound (.int kd n) y c).run P w = .ok n.toNat w := by
  simp [Instr.sliceBound, asIntOf, h.1, h.2]

theorem run_sliceBounds {isS : Bool} {len cap : Nat} {lo hi : Option Value} {l h : Int} (hlo : lo = none ∧ l = 0 ∨ ∃ kd, lo = some (.int kd l)) (hhi : hi = none ∧ h = (len : Int) ∨ ∃ kd, hi = some (.int kd h))
    (hc : h ≤ (cap : Int)) (h1 : 0 ≤ l) (h2 : l ≤ h) : (Instr.sliceBounds isS len cap lo hi none).run P w = .ok (l.toNat, h.toNat, cap) w := by
  have hh : 0 ≤ h := by omega
  rcases hhi with ⟨rfl, rfl⟩ | ⟨kd, rfl⟩
  · rcases hlo with ⟨rfl, rfl⟩ | ⟨kd, rfl⟩
    · simp [Instr.sliceBounds]
    · simp [Instr.sliceBounds, run_sliceBound (P := P) (w := w) (kd := kd) (n := l) (y := len) ⟨h1, h2⟩]
  · rcases hlo with ⟨rfl, rfl⟩ | ⟨kd', rfl⟩
    · simp [Instr.sliceBounds, run_sliceBound (P := P) (w := w) (kd := kd) (n := h) (y := cap) ⟨hh, hc⟩]
    · simp [Instr.sliceBounds, run_sliceBound (P := P) (w := w) (kd := kd) (n := h) (y := cap) ⟨hh, hc⟩, run_sliceBound (P := P) (w := w) (kd := kd') (n := l) (y := h.toNat) ⟨h1, by omega⟩]

theorem q_slice (hM : MemOk P m F G w) {t : TypeId} {x : Operand} {l h' mx : Option Operand} (ho : o.op = .slice t x l h' mx) (h : opC P O lo sand o env F G k = some r) (hE : ERel m env a.tmps) : QuietOk P m o a w F G k r := by
  simp only [opC, ho] at h
  split at h
  · rename_i vx hx
    split at h
    · rename_i ln hn hl hh
      have hl' := loI_rel hl hE
      have hh' := hiI_rel hh hE
      split at h
      · rename_i s hu
        by_cases hc : 0 ≤ ln ∧ ln ≤ hn ∧ hn ≤ (s.length : Int)
        · rw [show decide (0 ≤ ln ∧ ln ≤ hn ∧ hn ≤ (s.length : Int)) = true by simp [hc]] at h
          have hb := ev_rel hE hx
          generalize hbv : a.eval x = bv at hb
          cases hb
          have e1 : (⟨⟨s⟩⟩ : ByteArray).size = s.length := rfl
          have e2 : (⟨⟨s⟩⟩ : ByteArray).extract ln.toNat hn.toNat = ⟨⟨(s.drop ln.toNat).take (hn.toNat - ln.toNat)⟩⟩ := by
            apply ByteArray.ext
            rw [ByteArray.data_extract]
            apply Array.ext'
            simp
          refine ⟨_, .string ⟨⟨(s.drop ln.toNat).take (hn.toNat - ln.toNat)⟩⟩, fun w' _ => ?_, .str _, h⟩
          simp only [execOp, ho]
          refine run_v ?_
          have := run_sliceBounds (P := P) (w := w') (isS := false) (len := s.length) (cap := s.length) (lo := l.map a.eval) (hi := h'.map a.eval) hl'
            (by rcases hh' with ⟨q1, ⟨s', q2, q3⟩ | ⟨p, q, q2, q3⟩⟩ | q
                · injection q2 with q2; subst q2; exact .inl ⟨q1, q3⟩
                · cases q2
                · exact .inr q) hc.2.2 hc.1 hc.2.1
          simp [Instr.sliceAt, run_und hu, Instr.slice, hbv, e1, this, e2]
        · rw [show decide (0 ≤ ln ∧ ln ≤ hn ∧ hn ≤ (s.length : Int)) = false by simp; omega] at h
          cases h
      · rename_i e p n hu
        split at h
        · cases h
        · rename_i hz
          obtain ⟨ii, hii, hs⟩ := cellsT_pos hz
          by_cases hc : (0 ≤ ln ∧ ln ≤ hn ∧ hn ≤ (n : Int)) ∧ gcut G p e = true
          · obtain ⟨hc, hcut⟩ := hc
            rw [show decide (0 ≤ ln ∧ ln ≤ hn ∧ hn ≤ (n : Int)) = true by simp [hc], hcut] at h
            have hh2 : ∀ {c : Nat}, (h'.map a.eval = none ∧ hn = (n : Int) ∨ ∃ kd, h'.map a.eval = some (.int kd hn)) := by
              intro c
              rcases hh' with ⟨q1, ⟨s', q2, q3⟩ | ⟨p', q, q2, q3⟩⟩ | q
              · cases q2
              · injection q2 with q2 q4; subst q4; exact .inl ⟨q1, q3⟩
              · exact .inr q
            have hb := ev_rel hE hx
            generalize hbv : a.eval x = bv at hb
            cases hb with
            | sliceNil =>
              have hb2 : ∀ w', _ := fun w' => run_sliceBounds (P := P) (w := w') (isS := true) (len := 0) (cap := 0) (lo := l.map a.eval) (hi := h'.map a.eval) hl' (hh2 (c := 0)) hc.2.2 hc.1 hc.2.1
              have : hn.toNat - ln.toNat = 0 := by omega
              rw [this] at h
              refine ⟨_, .slice none 0 0, fun w' _ => ?_, .sliceNil, h⟩
              simp only [execOp, ho]
              refine run_v ?_
              simp [Instr.sliceAt, run_und hu, Instr.slice, hbv, hb2, run_sizeI hii, this]
            | sliceE p a' =>
              have hb2 : ∀ w', _ := fun w' => run_sliceBounds (P := P) (w := w') (isS := true) (len := 0) (cap := 0) (lo := l.map a.eval) (hi := h'.map a.eval) hl' (hh2 (c := 0)) hc.2.2 hc.1 hc.2.1
              have e1 : hn.toNat - ln.toNat = 0 := by omega
              have e2 : ln.toNat = 0 := by omega
              rw [e1] at h
              refine ⟨_, .slice (some a') 0 0, fun w' _ => ?_, .sliceE _ _, h⟩
              simp only [execOp, ho]
              refine run_v ?_
              simp [Instr.sliceAt, run_und hu, Instr.slice, hbv, hb2, run_sizeI hii, e2]
              omega
            | slice p en _ c he hnc hrw =>
              have hb2 : ∀ w', _ := fun w' => run_sliceBounds (P := P) (w := w') (isS := true) (len := n) (cap := c) (lo := l.map a.eval) (hi := h'.map a.eval) hl' (hh2 (c := c)) (by omega) hc.1 hc.2.1
              by_cases hcl : c = ln.toNat
              · subst hcl
                have e1 : hn.toNat - ln.toNat = 0 := by omega
                rw [e1] at h
                refine ⟨_, .slice (some ⟨en.blk, en.off + p.o, none⟩) 0 0, fun w' _ => ?_, .sliceE _ _, h⟩
                simp only [execOp, ho]
                refine run_v ?_
                simp [Instr.sliceAt, run_und hu, Instr.slice, hbv, hb2, run_sizeI hii, e1]
              · refine ⟨_, .slice (some ⟨en.blk, en.off + (p.add (ln.toNat * P.cellsOf e)).o, none⟩) (hn.toNat - ln.toNat) (c - ln.toNat), fun w' _ => ?_, ?_, h⟩
                · simp only [execOp, ho]
                  refine run_v ?_
                  simp [Instr.sliceAt, run_und hu, Instr.slice, hbv, hb2, run_sizeI hii, hcl, hs, addr_add, GA.add, Nat.add_assoc]
                · refine .slice _ en _ _ he (by omega) fun hw => ?_
                  have h1 := hrw hw
                  simp only [gcut] at hcut
                  split at hcut
                  · rename_i blk hblk
                    simp only [Bool.and_eq_true, decide_eq_true_eq, beq_iff_eq] at hcut
                    have h2 := hM.z _ _ _ hblk hcut.1 he hw
                    rw [hcut.2] at h2
                    simp only [GA.add]
                    rw [← h2]
                    have h3 : ln.toNat ≤ c := by omega
                    have h4 : c * en.esz = ln.toNat * en.esz + (c - ln.toNat) * en.esz := by rw [← Nat.add_mul]; congr 1; omega
                    omega
                  · cases hcut
          · rw [show (decide (0 ≤ ln ∧ ln ≤ hn ∧ hn ≤ (n : Int)) && gcut G p e) = false by
              cases hg : gcut G p e
              · simp
              · simp only [hg, and_true] at hc
                simp only [Bool.and_true]
                exact decide_eq_false hc] at h
            cases h
      · cases h
    · cases h
  · cases h

end
end Go.LI
