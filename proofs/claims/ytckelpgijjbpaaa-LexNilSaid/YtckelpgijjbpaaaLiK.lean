/- An operation, a call, a row of operations in their order. -/
import Derived.Test.YtckelpgijjbpaaaLiJ
import Derived.Test.YtckelpgijjbpaaaLiP
namespace Go.LI
open Go Go.RowKit

section
variable {R : Type} {P : Program} {B K : Nat → Prop} {w0 : World} {m : Map} {F : List (List IV)} {G : GH} {w : World} {O : Ora R} {lo : List Nat} {sand : Bool} {o : Oper} {env : List IV} {a : Act} {k : IV → List (List IV) → GH → Option R} {r : R}

theorem q_all' (hnb : (match o.op with | .binOp .. => false | _ => true) = true ∨ (soft lo && !sand) = false) (hM : MemOk P m F G w) (hq : quietOp o.op = true) (hcm : convMakes P o.op = false) (hnc : isCall o.op = false) (h : opC P O lo sand o env F G k = some r) (hE : ERel m env a.tmps) : QuietOk P m o a w F G k r := by
  cases ho : o.op with
  | move x => exact q_move (.inl ho) h hE
  | assign x => exact q_move (.inr ho) h hE
  | pick c x y => exact q_pick ho h hE
  | build t ps => exact q_build ho h hE
  | load t x => exact q_load hM ho h hE
  | nilCheck x => exact q_nilCheck ho h hE
  | binOp op t x y yt => exact q_binOp (by rcases hnb with hnb | hnb; (rw [ho] at hnb; cases hnb); exact hnb) ho h hE
  | unOp op t x => exact q_unOp ho h hE
  | convert s d x => exact q_convert hM ho hcm h hE
  | makeInterface t x => exact q_makeInterface ho h hE
  | makeFunc fn fi ca =>
    cases fn with
    | func f => exact q_makeFunc ho h hE
    | _ => simp [opC, ho] at h
  | slice t x l h' mx => exact q_slice hM ho h hE
  | fieldAddr t x f => exact q_fieldAddr ho h hE
  | field t x f => exact q_field ho h hE
  | indexAddr t x y => exact q_indexAddr ho h hE
  | index t x y => exact q_index ho h hE
  | extract x i => exact q_extract ho h hE
  | call c =>
    rw [ho] at hnc hq
    cases hc : c.callee with
    | builtin b => exact q_builtin ho hc (by rw [ho]; exact hq) h hE
    | value f => simp [isCall, hc] at hnc
    | invoke x n => simp [quietOp, hc] at hq
  | _ => rw [ho] at hq; simp [quietOp] at hq

theorem q_all (hsf : (soft lo && !sand) = false) (hM : MemOk P m F G w) (hq : quietOp o.op = true) (hcm : convMakes P o.op = false) (hnc : isCall o.op = false) (h : opC P O lo sand o env F G k = some r) (hE : ERel m env a.tmps) : QuietOk P m o a w F G k r := q_all' (.inr hsf) hM hq hcm hnc h hE

theorem nan_word {f : Ieee.Format} (hI : f.binade ≤ f.infRung) {s r w : Nat} (hw : w = s * f.signWeight + f.infRung + 1 + r) (hr : f.infRung + 1 + r < f.signWeight) : (f.read w).isNaN = true := by
  have hm : w % f.signWeight = f.infRung + 1 + r := by
    rw [hw, show s * f.signWeight + f.infRung + 1 + r = (f.infRung + 1 + r) + f.signWeight * s by rw [Nat.mul_comm]; omega, Nat.add_mul_mod_self_left, Nat.mod_eq_of_lt hr]
  have hB : f.infRung + 1 + r < f.binade → False := by
    intro hb
    omega
  unfold Ieee.Format.read
  simp only [hm]
  rw [if_neg (fun h => hB h), if_neg (by omega), if_neg (by omega)]
  rfl

theorem nan_bits (t : Nat) (x y : Nat) : ∀ k : FloatKind, (k.format.read ((Question.nanBits k x y).cut t)).isNaN = true
  | .f32 => by
    unfold Question.cut
    refine nan_word (f := FloatKind.format .f32) (by decide +kernel) (s := t % 2) (r := (t / 2) % (2 ^ 23 - 1)) ?_ ?_
    · have : (FloatKind.format .f32).signWeight = 2 ^ 31 := rfl
      have h2 : (FloatKind.format .f32).infRung = 0x7f800000 := by decide +kernel
      rw [this, h2]
    · have : (FloatKind.format .f32).signWeight = 2 ^ 31 := rfl
      have h2 : (FloatKind.format .f32).infRung = 0x7f800000 := by decide +kernel
      rw [this, h2]
      omega
  | .f64 => by
    unfold Question.cut
    refine nan_word (f := FloatKind.format .f64) (by decide +kernel) (s := t % 2) (r := (t / 2) % (2 ^ 52 - 1)) ?_ ?_
    · have : (FloatKind.format .f64).signWeight = 2 ^ 63 := rfl
      have h2 : (FloatKind.format .f64).infRung = 0x7ff0000000000000 := by decide +kernel
      rw [this, h2]
    · have : (FloatKind.format .f64).signWeight = 2 ^ 63 := rfl
      have h2 : (FloatKind.format .f64).infRung = 0x7ff0000000000000 := by decide +kernel
      rw [this, h2]
      omega

theorem s_soft (hsf : (soft lo && !sand) = true) {op : BinOp} {t yt : TypeId} {x y : Operand} (ho : o.op = .binOp op t x y yt) (h : opC P O lo sand o env F G k = some r) (hE : ERel m env a.tmps) (hR : HRel P B K w0 m F G w) : StepOk P B K w0 m o a w k r := by
  simp only [opC, ho] at h
  split at h
  · rename_i vx vy hx hy
    rw [if_pos hsf] at h
    have rx := ev_rel hE hx
    have ry := ev_rel hE hy
    split at h
    · rename_i v hv
      unfold softB at hv
      split at hv
      · split at hv
        · rename_i k1 a1 k2 b1 hk
          subst hk
          injection hv with hv
          subst hv
          generalize hex : a.eval x = ex at rx
          generalize hey : a.eval y = ey at ry
          cases rx
          cases ry
          cases hq : k1.format.sub a1 b1 with
          | some q =>
            rw [hq] at h
            refine ⟨_, .float k1 q, m, w, F, G, wp_of_value ?_, m.le_refl, hR, .fo k1 _ q (fun r hr => by injection hr) (fun hr => by cases hr), h⟩
            simp only [execOp, ho]
            refine run_v ?_
            rw [hex, hey]
            simp [run_guard_float, binOp, Op.floatArith, hq]
          | none =>
            rw [hq] at h
            refine ⟨_, .float k1 ((Question.nanBits k1 a1 b1).cut (w.tape w.drawn (.nanBits k1 a1 b1))), m, { w with drawn := w.drawn + 1 }, F, G, wp_of_value ?_, m.le_refl, hR.grow (below_drawn w _), .fo k1 _ _ (fun r hr => by cases hr) (fun _ => nan_bits _ _ _ k1), h⟩
            simp only [execOp, ho]
            refine run_v ?_
            rw [hex, hey]
            simp [run_guard_float, binOp, Op.floatArith, hq, choose, Sem.run, Question.forced]
        · cases hv
      · split at hv
        · rename_i k1 o1 k2 b1 hk
          subst hk
          injection hv with hv
          subst hv
          generalize hex : a.eval x = ex at rx
          generalize hey : a.eval y = ey at ry
          cases rx
          cases ry
          rename_i bb hb hn
          refine ⟨_, _, m, w, F, G, wp_of_value ?_, m.le_refl, hR, .bool _, h⟩
          simp only [execOp, ho]
          refine run_v ?_
          rw [hex, hey]
          cases o1 with
          | some q =>
            have := hb q rfl
            subst this
            simp [run_guard_float, binOp, Op.floatCmp, feq]
          | none =>
            have hq := hn rfl
            have ho' : k1.format.order bb b1 = none := by
              unfold Ieee.Format.order
              cases hd : k1.format.read bb with
              | nan s t => rfl
              | number s t i => rw [hd] at hq; cases hq
              | infinity s => rw [hd] at hq; cases hq
            simp [run_guard_float, binOp, Op.floatCmp, ho']
        · cases hv
      · cases hv
    · cases h
  · cases h

theorem s_all (hnc : isCall o.op = false) (h : opC P O lo sand o env F G k = some r) (hE : ERel m env a.tmps) (hR : HRel P B K w0 m F G w) : StepOk P B K w0 m o a w k r := by
  by_cases hq : quietOp o.op = true
  · by_cases hcm : convMakes P o.op = true
    · cases ho : o.op with
      | convert s d x => exact s_convMakes ho hcm h hE hR
      | _ => rw [ho] at hcm; simp [convMakes] at hcm
    · by_cases hsf : (soft lo && !sand) = true
      · cases ho : o.op with
        | binOp op t x y yt => exact s_soft hsf ho h hE hR
        | _ => first
          | exact step_of_quiet (q_all' (.inl (by rw [ho])) hR.mem hq (by simpa using hcm) hnc h hE) hR
      · exact step_of_quiet (q_all (by simpa using hsf) hR.mem hq (by simpa using hcm) hnc h hE) hR
  · cases ho : o.op with
    | alloc t => exact s_alloc ho h hR
    | box t x => exact s_box ho h hE hR
    | store t x y => exact s_store ho h hE hR
    | makeSlice t l c => exact s_makeSlice ho h hE hR
    | buildSlice t n ps => exact s_buildSlice ho h hE hR
    | call c =>
      rw [ho] at hnc hq
      cases hc : c.callee with
      | builtin b =>
        cases b with
        | append => exact s_append ho hc h hE hR
        | copy => exact s_copy ho hc h hE hR
        | len => simp [quietOp, hc] at hq
        | max => simp [quietOp, hc] at hq
        | min => simp [quietOp, hc] at hq
        | _ =>
          simp only [opC, ho, hc, builtinC] at h
          split at h <;> cases h
      | value f => simp [isCall, hc] at hnc
      | invoke x n =>
        simp only [opC, ho, hc] at h
        split at h <;> cases h
    | _ => first | (exfalso; apply hq; rw [ho]; rfl) | (simp [opC, ho] at h)

/-! ### Calls -/
/-- A call of the model's: it comes to a value and a world of which 'T' holds. -/
def CallSim (P : Program) (f : FuncId) (args : Array Value) (w : World) (T : Value → World → Prop) : Prop :=
  ((callFunc f args).run P w = .ok (.enter f args) w ∧ Calls P f args w fun e w' => ∃ v, e = .returned v ∧ T v w') ∨ ∃ v, (callFunc f args).run P w = .ok (.value v) w ∧ T v w

theorem CallSim.mono {f : FuncId} {args : Array Value} {T T' : Value → World → Prop} (h : CallSim P f args w T) (ht : ∀ v w', T v w' → T' v w') : CallSim P f args w T' := by
  rcases h with ⟨h1, h2⟩ | ⟨v, h1, h2⟩
  · exact .inl ⟨h1, h2.mono fun e w' ⟨v, he, hv⟩ => ⟨v, he, ht _ _ hv⟩⟩
  · exact .inr ⟨v, h1, ht _ _ h2⟩

/-- What the oracle says of a call the model does. -/
def GoodO (P : Program) (O : Ora R) : Prop :=
  ∀ (f : FuncId) (args : List IV) (G : GH) (k : IV → GH → Option R) (r : R), O f args G k = some r → noLocs args = true →
    ∃ v G', k v G' = some r ∧ noLoc v = true ∧ ∀ (B K : Nat → Prop) (w0 : World) (m : Map) (w : World) (args' : Array Value), (∀ i, m.f i = none) → ARel m args args' → HRel P B K w0 m [] G w →
      CallSim P f args' w fun v' w' => ∃ m', m.le m' ∧ (∀ i, m'.f i = none) ∧ HRel P B K w0 m' [] G' w' ∧ VRel m' v v'

/-- What an operation does, whatever follows. -/
def OpSim (P : Program) (o : Oper) (a : Act) (w : World) (T : Value → World → Prop) : Prop :=
  ∀ (next : Act → World → Prop) (Q : Exit → Act → World → Prop), (∀ v' w', T v' w' → next (a.put o.dst v') w') → o.wp P a w next Q

theorem run_invoke {f : Nat} {cs args : Array Value} (w' : World) {c : Call} {x : Operand} (ho : o.op = .call c) (hc : c.callee = .value x) (hx : a.eval x = .func (.func f) #[] cs) (ha : c.args.map a.eval = args) :
    (execOp a.eval o).run P w' = (callFunc f (args ++ cs)).run P w' := by
  simp [execOp, ho, resolve, hc, Deferred.ofValue, hx, ha, invoke]

theorem opsim_of_call {f : FuncId} {args : Array Value} {T : Value → World → Prop} (hrun : ∀ w', (execOp a.eval o).run P w' = (callFunc f args).run P w') (h : CallSim P f args w T) : OpSim P o a w T := by
  intro next Q hn
  unfold Oper.wp
  rw [hrun]
  rcases h with ⟨h1, h2⟩ | ⟨v, h1, h2⟩
  · rw [h1, Oper.upon_enter]
    refine h2.mono fun e w' ⟨v, he, hv⟩ => ?_
    subst he
    exact hn v w' hv
  · rw [h1, Oper.upon_value]
    exact hn v w h2

theorem noLocs_append {a b : List IV} (h : noLocs a = true) (k : noLocs b = true) : noLocs (a ++ b) = true := noLocs_rep.noLocs_append h k

theorem ARel.noF {m : Map} {cs : List IV} {cs' : Array Value} (h : ARel m cs cs') (hn : noLocs cs = true) : ARel m.noF cs cs' := ⟨h.1, fun i iv v a b => (h.2 i iv v a b).noF (noLocs_get' hn a)⟩
theorem ARel.append {m : Map} {cs ds : List IV} {cs' ds' : Array Value} (h : ARel m cs cs') (k : ARel m ds ds') : ARel m (cs ++ ds) (cs' ++ ds') := by
  refine ⟨by simp [h.1, k.1], fun i iv v a b => ?_⟩
  by_cases hi : i < cs.length
  · rw [List.getElem?_append_left hi] at a
    rw [Array.getElem?_append, if_pos (by rw [← h.1]; exact hi)] at b
    exact h.2 i iv v a b
  · rw [List.getElem?_append_right (by omega)] at a
    rw [Array.getElem?_append, if_neg (by rw [← h.1]; exact hi)] at b
    rw [← h.1] at b
    exact k.2 _ iv v a b

/-- The locals of the caller are put aside. -/
theorem HRel.aside (h : HRel P B K w0 m F G w) : HRel P B (fun b => K b ∨ ∃ i, m.f i = some b) w m.noF [] G w where
  bk := fun b hb => .inl (h.bk b hb)
  frame := fun b hb => by
    rcases hb with hb | ⟨i, hi⟩
    · obtain ⟨h1, h2⟩ := h.frame b hb
      exact ⟨Nat.lt_of_lt_of_le h1 h.size, rfl⟩
    · have hlt := h.fdom _ _ hi
      obtain ⟨c, t, hf⟩ := h.fblk i F[i] b (List.getElem?_eq_getElem hlt) hi
      exact ⟨lt_of_row hf.row, rfl⟩
  os := rfl
  tape := rfl
  output := rfl
  size := Nat.le_refl _
  gdom := h.gdom
  fdom := fun k b hb => by cases hb
  gblk := fun b k e hk hm he => by
    obtain ⟨c, t, fr, hg⟩ := h.gblk b k e hk hm he
    refine ⟨c, t, fr, { row := hg.row, fits := hg.fits, cells := hg.cells, ro := hg.ro, esz := hg.esz, rw := fun h1 => ?_ }⟩
    obtain ⟨q1, q2, q3, q4, q5⟩ := hg.rw h1
    refine ⟨fun hc => ?_, q2, q3, q4, q5⟩
    rcases hc with hc | ⟨i, hi⟩
    · exact q1 hc
    · exact h.gf b i k e _ hk h1 he hi rfl
  fblk := fun i cs b hi => by simp at hi
  ginj := h.ginj
  gf := fun b i k e r _ _ _ hr => by cases hr
  finj := fun i j r s hr => by cases hr

/-- And come back. -/
theorem HRel.back (h : HRel P B K w0 m F G w) {m' : Map} {G' : GH} {w' : World} (hle : m.noF.le m') (h' : HRel P B (fun b => K b ∨ ∃ i, m.f i = some b) w m' [] G' w') :
    m.le { m' with f := m.f } ∧ HRel P B K w0 { m' with f := m.f } F G' w' := by
  have hle2 : m.le { m' with f := m.f } := ⟨hle.1, fun _ _ h => h⟩
  have hnf : m'.noF = ({ m' with f := m.f } : Map).noF := rfl
  have hfr : ∀ b, (K b ∨ ∃ i, m.f i = some b) → w'.heap[b]? = w.heap[b]? := fun b hb => (h'.frame b hb).2
  refine ⟨hle2, { bk := h.bk, frame := fun b hb => ?_, os := h'.os.trans h.os, tape := h'.tape.trans h.tape, output := h'.output.trans h.output, size := Nat.le_trans h.size h'.size, gdom := h'.gdom, fdom := h.fdom, gblk := ?_, fblk := ?_, ginj := h'.ginj, gf := ?_, finj := h.finj }⟩
  · obtain ⟨h1, h2⟩ := h.frame b hb
    exact ⟨h1, (hfr b (.inl hb)).trans h2⟩
  · intro b k e hk hm he
    obtain ⟨c, t, fr, hg⟩ := h'.gblk b k e hk hm he
    refine ⟨c, t, fr, { row := hg.row, fits := hg.fits, cells := hg.cells, ro := hg.ro, esz := hg.esz, rw := fun h1 => ?_ }⟩
    obtain ⟨q1, q2⟩ := hg.rw h1
    exact ⟨fun hc => q1 (.inl hc), q2⟩
  · intro i cs b hi hb
    obtain ⟨c, t, hf⟩ := h.fblk i cs b hi hb
    refine ⟨c, t, { row := (hfr b (.inr ⟨i, hb⟩)).trans hf.row, size := hf.size, cells := fun o iv ho => ?_, own := hf.own }⟩
    obtain ⟨v, h1, h2⟩ := hf.cells o iv ho
    exact ⟨v, h1, h2.mono hle2⟩
  · intro b i k e r h1 h2 h3 h4
    obtain ⟨c, t, fr, hg⟩ := h'.gblk b k e h1 (by omega) h3
    intro hc
    exact (hg.rw h2).1 (.inr ⟨i, hc ▸ h4⟩)

end
end Go.LI
