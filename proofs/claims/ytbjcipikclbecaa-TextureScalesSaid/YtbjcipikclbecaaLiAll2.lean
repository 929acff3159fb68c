/- The interpreter LI and its soundness (part 2 of 3). -/
import Derived.Test.YtbjcipikclbecaaLiAll1
import Derived.LoopN
import Derived.StillTail
import Derived.KernelRfl
import Derived.Lib.BytesEntry

/-! An operation, a call, a row of operations in their order. -/
namespace Go.LI
open Go Go.RowKit

section
variable {R : Type} {P : Program} {B K : Nat → Prop} {w0 : World} {m : Map} {F : List (List IV)} {G : GH} {w : World} {O : Ora R} {lo : List Nat} {sand : Bool} {o : Oper} {env : List IV} {a : Act} {k : IV → List (List IV) → GH → Option R} {r : R}

theorem q_all' (hnb : (match o.op with | .binOp .. => false | _ => true) = true ∨ (soft lo && !sand) = false) (hM : MemOk P m F G w) (hq : quietOp o.op = true) (hcm : convMakes P o.op = false) (hnc : isCall o.op = false) (h : opC P O lo sand o env F G k = some r) (hE : ERel m env a.tmps) : QuietOk P m o a w F G k r := by
  cases ho : o.op with
  | move x => exact q_move (.inl ho) h hE
  | assign x => exact q_move (.inr ho) h hE
  | pick c x y => exact q_pick ho h hE
  | build t ps => exact q_build ho h hE
  | load t x => exact q_load hM ho h hE
  | nilCheck x => exact q_nilCheck ho h hE
  | binOp op t x y yt => exact q_binOp (by rcases hnb with hnb | hnb; (rw [ho] at hnb; cases hnb); exact hnb) ho h hE
  | unOp op t x => exact q_unOp ho h hE
  | convert s d x => exact q_convert hM ho hcm h hE
  | makeInterface t x => exact q_makeInterface ho h hE
  | makeFunc fn fi ca =>
    cases fn with
    | func f => exact q_makeFunc ho h hE
    | _ => simp [opC, ho] at h
  | slice t x l h' mx => exact q_slice hM ho h hE
  | fieldAddr t x f => exact q_fieldAddr ho h hE
  | field t x f => exact q_field ho h hE
  | indexAddr t x y => exact q_indexAddr ho h hE
  | index t x y => exact q_index ho h hE
  | extract x i => exact q_extract ho h hE
  | call c =>
    rw [ho] at hnc hq
    cases hc : c.callee with
    | builtin b => exact q_builtin ho hc (by rw [ho]; exact hq) h hE
    | value f => simp [isCall, hc] at hnc
    | invoke x n => simp [quietOp, hc] at hq
  | _ => rw [ho] at hq; simp [quietOp] at hq

theorem q_all (hsf : (soft lo && !sand) = false) (hM : MemOk P m F G w) (hq : quietOp o.op = true) (hcm : convMakes P o.op = false) (hnc : isCall o.op = false) (h : opC P O lo sand o env F G k = some r) (hE : ERel m env a.tmps) : QuietOk P m o a w F G k r := q_all' (.inr hsf) hM hq hcm hnc h hE

theorem nan_word {f : Ieee.Format} (hI : f.binade ≤ f.infRung) {s r w : Nat} (hw : w = s * f.signWeight + f.infRung + 1 + r) (hr : f.infRung + 1 + r < f.signWeight) : (f.read w).isNaN = true := by
  have hm : w % f.signWeight = f.infRung + 1 + r := by
    rw [hw, show s * f.signWeight + f.infRung + 1 + r = (f.infRung + 1 + r) + f.signWeight * s by rw [Nat.mul_comm]; omega, Nat.add_mul_mod_self_left, Nat.mod_eq_of_lt hr]
  have hB : f.infRung + 1 + r < f.binade → False := by
    intro hb
    omega
  unfold Ieee.Format.read
  simp only [hm]
  rw [if_neg (fun h => hB h), if_neg (by omega), if_neg (by omega)]
  rfl

theorem nan_bits (t : Nat) (x y : Nat) : ∀ k : FloatKind, (k.format.read ((Question.nanBits k x y).cut t)).isNaN = true
  | .f32 => by
    unfold Question.cut
    refine nan_word (f := FloatKind.format .f32) (by decide +kernel) (s := t % 2) (r := (t / 2) % (2 ^ 23 - 1)) ?_ ?_
    · have : (FloatKind.format .f32).signWeight = 2 ^ 31 := rfl
      have h2 : (FloatKind.format .f32).infRung = 0x7f800000 := by decide +kernel
      rw [this, h2]
    · have : (FloatKind.format .f32).signWeight = 2 ^ 31 := rfl
      have h2 : (FloatKind.format .f32).infRung = 0x7f800000 := by decide +kernel
      rw [this, h2]
      omega
  | .f64 => by
    unfold Question.cut
    refine nan_word (f := FloatKind.format .f64) (by decide +kernel) (s := t % 2) (r := (t / 2) % (2 ^ 52 - 1)) ?_ ?_
    · have : (FloatKind.format .f64).signWeight = 2 ^ 63 := rfl
      have h2 : (FloatKind.format .f64).infRung = 0x7ff0000000000000 := by decide +kernel
      rw [this, h2]
    · have : (FloatKind.format .f64).signWeight = 2 ^ 63 := rfl
      have h2 : (FloatKind.format .f64).infRung = 0x7ff0000000000000 := by decide +kernel
      rw [this, h2]
      omega

theorem s_soft2 {op : BinOp} {t yt : TypeId} {x y : Operand} (ho : o.op = .binOp op t x y yt) {vx vy : IV} (h : (soft2C P op t vx vy fun v => k v F G) = some r) (rx : VRel m vx (a.eval x)) (ry : VRel m vy (a.eval y)) (hR : HRel P B K w0 m F G w) : StepOk P B K w0 m o a w k r := by
  unfold soft2C at h
  split at h
  · split at h
    · rename_i k1 a1 k2 b1 hk
      subst hk
      generalize hex : a.eval x = ex at rx
      generalize hey : a.eval y = ey at ry
      cases rx
      cases ry
      cases hq : k1.format.mul a1 b1 with
      | some q =>
        rw [hq] at h
        refine ⟨_, .float k1 q, m, w, F, G, wp_of_value ?_, m.le_refl, hR, .float k1 q, h⟩
        simp only [execOp, ho]
        refine run_v ?_
        rw [hex, hey]
        simp [run_guard_float, binOp, Op.floatArith, hq]
      | none =>
        rw [hq] at h
        refine ⟨_, .float k1 ((Question.nanBits k1 a1 b1).cut (w.tape w.drawn (.nanBits k1 a1 b1))), m, { w with drawn := w.drawn + 1 }, F, G, wp_of_value ?_, m.le_refl, hR.grow (below_drawn w _), .fo k1 none _ (fun r hr => by cases hr) (fun _ => nan_bits _ _ _ k1), h⟩
        simp only [execOp, ho]
        refine run_v ?_
        rw [hex, hey]
        simp [run_guard_float, binOp, Op.floatArith, hq, choose, Sem.run, Question.forced]
    · cases h
  · split at h
    · rename_i k1 a1 k2 hk
      subst hk
      generalize hex : a.eval x = ex at rx
      generalize hey : a.eval y = ey at ry
      cases rx
      cases ry
      rename_i bb hb hn
      have hq0 := hn rfl
      have hq : k1.format.add a1 bb = none := by
        unfold Ieee.Format.add
        cases hd : k1.format.read bb with
        | nan s t =>
          cases k1.format.read a1 <;> rfl
        | number s t i => rw [hd] at hq0; cases hq0
        | infinity s => rw [hd] at hq0; cases hq0
      refine ⟨_, .float k1 ((Question.nanBits k1 a1 bb).cut (w.tape w.drawn (.nanBits k1 a1 bb))), m, { w with drawn := w.drawn + 1 }, F, G, wp_of_value ?_, m.le_refl, hR.grow (below_drawn w _), .fo k1 none _ (fun r hr => by cases hr) (fun _ => nan_bits _ _ _ k1), h⟩
      simp only [execOp, ho]
      refine run_v ?_
      rw [hex, hey]
      simp [run_guard_float, binOp, Op.floatArith, hq, choose, Sem.run, Question.forced]
    · cases h
  · split at h
    · rename_i k1 k2 b1 hk
      subst hk
      generalize hex : a.eval x = ex at rx
      generalize hey : a.eval y = ey at ry
      cases rx
      cases ry
      rename_i bb hb hn
      refine ⟨_, _, m, w, F, G, wp_of_value ?_, m.le_refl, hR, .bool _, h⟩
      simp only [execOp, ho]
      refine run_v ?_
      rw [hex, hey]
      have hq := hn rfl
      have ho' : k1.format.order bb b1 = none := by
        unfold Ieee.Format.order
        cases hd : k1.format.read bb with
        | nan s t => rfl
        | number s t i => rw [hd] at hq; cases hq
        | infinity s => rw [hd] at hq; cases hq
      simp [run_guard_float, binOp, Op.floatCmp, ho']
    · cases h
  · obtain ⟨v, v', h1, h2, h3⟩ := bin_rel x y h rx ry
    refine ⟨v, v', m, w, F, G, wp_of_value ?_, m.le_refl, hR, h2, h3⟩
    have := h1 w
    simp only [execOp, ho]
    exact run_v this

theorem s_soft (hsf : (soft lo && !sand) = true) {op : BinOp} {t yt : TypeId} {x y : Operand} (ho : o.op = .binOp op t x y yt) (h : opC P O lo sand o env F G k = some r) (hE : ERel m env a.tmps) (hR : HRel P B K w0 m F G w) : StepOk P B K w0 m o a w k r := by
  simp only [opC, ho] at h
  split at h
  · rename_i vx vy hx hy
    rw [if_pos hsf] at h
    have rx := ev_rel hE hx
    have ry := ev_rel hE hy
    unfold softC at h
    by_cases hs2 : soft2 lo = true
    · rw [if_pos hs2] at h
      exact s_soft2 ho h rx ry hR
    rw [if_neg hs2] at h
    split at h
    · rename_i v hv
      unfold softB at hv
      split at hv
      · split at hv
        · rename_i k1 a1 k2 b1 hk
          subst hk
          injection hv with hv
          subst hv
          generalize hex : a.eval x = ex at rx
          generalize hey : a.eval y = ey at ry
          cases rx
          cases ry
          cases hq : k1.format.sub a1 b1 with
          | some q =>
            rw [hq] at h
            refine ⟨_, .float k1 q, m, w, F, G, wp_of_value ?_, m.le_refl, hR, .fo k1 _ q (fun r hr => by injection hr) (fun hr => by cases hr), h⟩
            simp only [execOp, ho]
            refine run_v ?_
            rw [hex, hey]
            simp [run_guard_float, binOp, Op.floatArith, hq]
          | none =>
            rw [hq] at h
            refine ⟨_, .float k1 ((Question.nanBits k1 a1 b1).cut (w.tape w.drawn (.nanBits k1 a1 b1))), m, { w with drawn := w.drawn + 1 }, F, G, wp_of_value ?_, m.le_refl, hR.grow (below_drawn w _), .fo k1 _ _ (fun r hr => by cases hr) (fun _ => nan_bits _ _ _ k1), h⟩
            simp only [execOp, ho]
            refine run_v ?_
            rw [hex, hey]
            simp [run_guard_float, binOp, Op.floatArith, hq, choose, Sem.run, Question.forced]
        · cases hv
      · split at hv
        · rename_i k1 o1 k2 b1 hk
          subst hk
          injection hv with hv
          subst hv
          generalize hex : a.eval x = ex at rx
          generalize hey : a.eval y = ey at ry
          cases rx
          cases ry
          rename_i bb hb hn
          refine ⟨_, _, m, w, F, G, wp_of_value ?_, m.le_refl, hR, .bool _, h⟩
          simp only [execOp, ho]
          refine run_v ?_
          rw [hex, hey]
          cases o1 with
          | some q =>
            have := hb q rfl
            subst this
            simp [run_guard_float, binOp, Op.floatCmp, feq]
          | none =>
            have hq := hn rfl
            have ho' : k1.format.order bb b1 = none := by
              unfold Ieee.Format.order
              cases hd : k1.format.read bb with
              | nan s t => rfl
              | number s t i => rw [hd] at hq; cases hq
              | infinity s => rw [hd] at hq; cases hq
            simp [run_guard_float, binOp, Op.floatCmp, ho']
        · cases hv
      · split at hv
        · rename_i k1 o1 k2 b1 hk
          subst hk
          injection hv with hv
          subst hv
          generalize hex : a.eval x = ex at rx
          generalize hey : a.eval y = ey at ry
          cases rx
          cases ry
          rename_i bb hb hn
          refine ⟨_, _, m, w, F, G, wp_of_value ?_, m.le_refl, hR, .bool _, h⟩
          simp only [execOp, ho]
          refine run_v ?_
          rw [hex, hey]
          cases o1 with
          | some q =>
            have := hb q rfl
            subst this
            simp [run_guard_float, binOp, Op.floatCmp, feq, bne]
          | none =>
            have hq := hn rfl
            have ho' : k1.format.order bb b1 = none := by
              unfold Ieee.Format.order
              cases hd : k1.format.read bb with
              | nan s t => rfl
              | number s t i => rw [hd] at hq; cases hq
              | infinity s => rw [hd] at hq; cases hq
            simp [run_guard_float, binOp, Op.floatCmp, ho']
        · cases hv
      · cases hv
    · cases h
  · cases h

theorem s_all (hnc : isCall o.op = false) (h : opC P O lo sand o env F G k = some r) (hE : ERel m env a.tmps) (hR : HRel P B K w0 m F G w) : StepOk P B K w0 m o a w k r := by
  by_cases hq : quietOp o.op = true
  · by_cases hcm : convMakes P o.op = true
    · cases ho : o.op with
      | convert s d x => exact s_convMakes ho hcm h hE hR
      | _ => rw [ho] at hcm; simp [convMakes] at hcm
    · by_cases hsf : (soft lo && !sand) = true
      · cases ho : o.op with
        | binOp op t x y yt => exact s_soft hsf ho h hE hR
        | _ => first
          | exact step_of_quiet (q_all' (.inl (by rw [ho])) hR.mem hq (by simpa using hcm) hnc h hE) hR
      · exact step_of_quiet (q_all (by simpa using hsf) hR.mem hq (by simpa using hcm) hnc h hE) hR
  · cases ho : o.op with
    | alloc t => exact s_alloc ho h hR
    | box t x => exact s_box ho h hE hR
    | store t x y => exact s_store ho h hE hR
    | makeSlice t l c => exact s_makeSlice ho h hE hR
    | buildSlice t n ps => exact s_buildSlice ho h hE hR
    | call c =>
      rw [ho] at hnc hq
      cases hc : c.callee with
      | builtin b =>
        cases b with
        | append => exact s_append ho hc h hE hR
        | copy => exact s_copy ho hc h hE hR
        | len => simp [quietOp, hc] at hq
        | max => simp [quietOp, hc] at hq
        | min => simp [quietOp, hc] at hq
        | _ =>
          simp only [opC, ho, hc, builtinC] at h
          split at h <;> cases h
      | value f => simp [isCall, hc] at hnc
      | invoke x n =>
        simp only [opC, ho, hc] at h
        split at h <;> cases h
    | _ => first | (exfalso; apply hq; rw [ho]; rfl) | (simp [opC, ho] at h)

/-! ### Calls -/
/-- A call of the model's: it comes to a value and a world of which 'T' holds. -/
def CallSim (P : Program) (f : FuncId) (args : Array Value) (w : World) (T : Value → World → Prop) : Prop :=
  ((callFunc f args).run P w = .ok (.enter f args) w ∧ Calls P f args w fun e w' => ∃ v, e = .returned v ∧ T v w') ∨ ∃ v, (callFunc f args).run P w = .ok (.value v) w ∧ T v w

theorem CallSim.mono {f : FuncId} {args : Array Value} {T T' : Value → World → Prop} (h : CallSim P f args w T) (ht : ∀ v w', T v w' → T' v w') : CallSim P f args w T' := by
  rcases h with ⟨h1, h2⟩ | ⟨v, h1, h2⟩
  · exact .inl ⟨h1, h2.mono fun e w' ⟨v, he, hv⟩ => ⟨v, he, ht _ _ hv⟩⟩
  · exact .inr ⟨v, h1, ht _ _ h2⟩

/-- What the oracle says of a call the model does. -/
def GoodO (P : Program) (O : Ora R) : Prop :=
  ∀ (f : FuncId) (args : List IV) (G : GH) (k : IV → GH → Option R) (r : R), O f args G k = some r → noLocs args = true →
    ∃ v G', k v G' = some r ∧ noLoc v = true ∧ ∀ (B K : Nat → Prop) (w0 : World) (m : Map) (w : World) (args' : Array Value), (∀ i, m.f i = none) → ARel m args args' → HRel P B K w0 m [] G w →
      CallSim P f args' w fun v' w' => ∃ m', m.le m' ∧ (∀ i, m'.f i = none) ∧ HRel P B K w0 m' [] G' w' ∧ VRel m' v v'

/-- What an operation does, whatever follows. -/
def OpSim (P : Program) (o : Oper) (a : Act) (w : World) (T : Value → World → Prop) : Prop :=
  ∀ (next : Act → World → Prop) (Q : Exit → Act → World → Prop), (∀ v' w', T v' w' → next (a.put o.dst v') w') → o.wp P a w next Q

theorem run_invoke {f : Nat} {cs args : Array Value} (w' : World) {c : Call} {x : Operand} (ho : o.op = .call c) (hc : c.callee = .value x) (hx : a.eval x = .func (.func f) #[] cs) (ha : c.args.map a.eval = args) :
    (execOp a.eval o).run P w' = (callFunc f (args ++ cs)).run P w' := by
  simp [execOp, ho, resolve, hc, Deferred.ofValue, hx, ha, invoke]

theorem opsim_of_call {f : FuncId} {args : Array Value} {T : Value → World → Prop} (hrun : ∀ w', (execOp a.eval o).run P w' = (callFunc f args).run P w') (h : CallSim P f args w T) : OpSim P o a w T := by
  intro next Q hn
  unfold Oper.wp
  rw [hrun]
  rcases h with ⟨h1, h2⟩ | ⟨v, h1, h2⟩
  · rw [h1, Oper.upon_enter]
    refine h2.mono fun e w' ⟨v, he, hv⟩ => ?_
    subst he
    exact hn v w' hv
  · rw [h1, Oper.upon_value]
    exact hn v w h2

theorem noLocs_append {a b : List IV} (h : noLocs a = true) (k : noLocs b = true) : noLocs (a ++ b) = true := noLocs_rep.noLocs_append h k

theorem ARel.noF {m : Map} {cs : List IV} {cs' : Array Value} (h : ARel m cs cs') (hn : noLocs cs = true) : ARel m.noF cs cs' := ⟨h.1, fun i iv v a b => (h.2 i iv v a b).noF (noLocs_get' hn a)⟩
theorem ARel.append {m : Map} {cs ds : List IV} {cs' ds' : Array Value} (h : ARel m cs cs') (k : ARel m ds ds') : ARel m (cs ++ ds) (cs' ++ ds') := by
  refine ⟨by simp [h.1, k.1], fun i iv v a b => ?_⟩
  by_cases hi : i < cs.length
  · rw [List.getElem?_append_left hi] at a
    rw [Array.getElem?_append, if_pos (by rw [← h.1]; exact hi)] at b
    exact h.2 i iv v a b
  · rw [List.getElem?_append_right (by omega)] at a
    rw [Array.getElem?_append, if_neg (by rw [← h.1]; exact hi)] at b
    rw [← h.1] at b
    exact k.2 _ iv v a b

/-- The locals of the caller are put aside. -/
theorem HRel.aside (h : HRel P B K w0 m F G w) : HRel P B (fun b => K b ∨ ∃ i, m.f i = some b) w m.noF [] G w where
  bk := fun b hb => .inl (h.bk b hb)
  frame := fun b hb => by
    rcases hb with hb | ⟨i, hi⟩
    · obtain ⟨h1, h2⟩ := h.frame b hb
      exact ⟨Nat.lt_of_lt_of_le h1 h.size, rfl⟩
    · have hlt := h.fdom _ _ hi
      obtain ⟨c, t, hf⟩ := h.fblk i F[i] b (List.getElem?_eq_getElem hlt) hi
      exact ⟨lt_of_row hf.row, rfl⟩
  os := rfl
  tape := rfl
  output := rfl
  size := Nat.le_refl _
  gdom := h.gdom
  fdom := fun k b hb => by cases hb
  gblk := fun b k e hk hm he => by
    obtain ⟨c, t, fr, hg⟩ := h.gblk b k e hk hm he
    refine ⟨c, t, fr, { row := hg.row, fits := hg.fits, cells := hg.cells, ro := hg.ro, esz := hg.esz, rw := fun h1 => ?_ }⟩
    obtain ⟨q1, q2, q3, q4, q5⟩ := hg.rw h1
    refine ⟨fun hc => ?_, q2, q3, q4, q5⟩
    rcases hc with hc | ⟨i, hi⟩
    · exact q1 hc
    · exact h.gf b i k e _ hk h1 he hi rfl
  fblk := fun i cs b hi => by simp at hi
  ginj := h.ginj
  gf := fun b i k e r _ _ _ hr => by cases hr
  finj := fun i j r s hr => by cases hr

/-- And come back. -/
theorem HRel.back (h : HRel P B K w0 m F G w) {m' : Map} {G' : GH} {w' : World} (hle : m.noF.le m') (h' : HRel P B (fun b => K b ∨ ∃ i, m.f i = some b) w m' [] G' w') :
    m.le { m' with f := m.f } ∧ HRel P B K w0 { m' with f := m.f } F G' w' := by
  have hle2 : m.le { m' with f := m.f } := ⟨hle.1, fun _ _ h => h⟩
  have hnf : m'.noF = ({ m' with f := m.f } : Map).noF := rfl
  have hfr : ∀ b, (K b ∨ ∃ i, m.f i = some b) → w'.heap[b]? = w.heap[b]? := fun b hb => (h'.frame b hb).2
  refine ⟨hle2, { bk := h.bk, frame := fun b hb => ?_, os := h'.os.trans h.os, tape := h'.tape.trans h.tape, output := h'.output.trans h.output, size := Nat.le_trans h.size h'.size, gdom := h'.gdom, fdom := h.fdom, gblk := ?_, fblk := ?_, ginj := h'.ginj, gf := ?_, finj := h.finj }⟩
  · obtain ⟨h1, h2⟩ := h.frame b hb
    exact ⟨h1, (hfr b (.inl hb)).trans h2⟩
  · intro b k e hk hm he
    obtain ⟨c, t, fr, hg⟩ := h'.gblk b k e hk hm he
    refine ⟨c, t, fr, { row := hg.row, fits := hg.fits, cells := hg.cells, ro := hg.ro, esz := hg.esz, rw := fun h1 => ?_ }⟩
    obtain ⟨q1, q2⟩ := hg.rw h1
    exact ⟨fun hc => q1 (.inl hc), q2⟩
  · intro i cs b hi hb
    obtain ⟨c, t, hf⟩ := h.fblk i cs b hi hb
    refine ⟨c, t, { row := (hfr b (.inr ⟨i, hb⟩)).trans hf.row, size := hf.size, cells := fun o iv ho => ?_, own := hf.own }⟩
    obtain ⟨v, h1, h2⟩ := hf.cells o iv ho
    exact ⟨v, h1, h2.mono hle2⟩
  · intro b i k e r h1 h2 h3 h4
    obtain ⟨c, t, fr, hg⟩ := h'.gblk b k e h1 (by omega) h3
    intro hc
    exact (hg.rw h2).1 (.inr ⟨i, hc ▸ h4⟩)

end
end Go.LI

/-! Rows of operations, code, bodies: what the interpreter gives the model comes to. -/
namespace Go.LI
open Go Go.RowKit

section
variable {R : Type} {P : Program} {B K : Nat → Prop} {w0 : World} {m : Map} {F : List (List IV)} {G : GH} {w : World} {O : Ora R} {lo : List Nat} {sand : Bool} {o : Oper} {env : List IV} {a : Act} {k : IV → List (List IV) → GH → Option R} {r : R}

theorem op_sim (hO : GoodO P O) (h : opC P O lo false o env F G k = some r) :
    ∃ v F' G', k v F' G' = some r ∧ ∀ (B K : Nat → Prop) (w0 : World) (m : Map) (w : World) (a : Act), HRel P B K w0 m F G w → ERel m env a.tmps →
      OpSim P o a w fun v' w' => ∃ m', m.le m' ∧ HRel P B K w0 m' F' G' w' ∧ VRel m' v v' := by
  by_cases hc : isCall o.op = true
  · cases ho : o.op with
    | call c =>
      rw [ho] at hc
      cases hcc : c.callee with
      | value f =>
        simp only [opC, ho, hcc] at h
        split at h
        · rename_i args hargs
          split at h
          · rename_i fid caps hf
            split at h
            · rename_i hnl
              simp only [Bool.false_eq_true, if_false] at h
              simp only [Bool.and_eq_true] at hnl
              obtain ⟨v, G', h1, h2, h3⟩ := hO _ _ _ _ _ h (noLocs_append hnl.1 hnl.2)
              replace h1 := castT_out h1
              refine ⟨v, F, G', h1, fun B K w0 m w a hR hE => ?_⟩
              have hA := evs_arel hE hargs
              have hfr := ev_rel hE hf
              generalize hfv : a.eval f = fv at hfr
              cases hfr with
              | func _ _ cs' hs hcs =>
                have hAA : ARel m (args ++ caps) (c.args.map a.eval ++ cs') := hA.append ⟨hs, hcs⟩
                refine opsim_of_call (fun w' => run_invoke w' ho hcc hfv rfl) ?_
                refine (h3 B _ w m.noF w _ (fun _ => rfl) (hAA.noF (noLocs_append hnl.1 hnl.2)) hR.aside).mono ?_
                rintro v' w' ⟨m', q1, q2, q3, q4⟩
                obtain ⟨p1, p2⟩ := hR.back q1 q3
                refine ⟨_, p1, p2, (q4.noF h2).mono ?_⟩
                exact ⟨fun _ _ h => h, fun _ _ h => by cases h⟩
            · cases h
          · cases h
        · cases h
      | builtin b => simp [isCall, hcc] at hc
      | invoke x n => simp [isCall, hcc] at hc
    | _ => rw [ho] at hc; simp [isCall] at hc
  · have hc' : isCall o.op = false := by simpa using hc
    rw [opC_param (O' := fun _ _ _ _ => none) env F G k hc'] at h
    cases hx : opC P (fun _ _ _ _ => none) lo false o env F G (fun v F G => some (v, F, G)) with
    | none => rw [hx] at h; cases h
    | some x =>
      obtain ⟨v, F', G'⟩ := x
      rw [hx] at h
      refine ⟨v, F', G', h, fun B K w0 m w a hR hE => ?_⟩
      obtain ⟨v1, v', m', w', F1, G1, h1, h2, h3, h4, h5⟩ := s_all hc' hx hE hR
      injection h5 with h5
      injection h5 with e1 h5
      injection h5 with e2 e3
      subst e1; subst e2; subst e3
      exact fun next Q hn => h1 next Q (hn v' w' ⟨m', h2, h3, h4⟩)

theorem ERel.put (h : ERel m env a.tmps) {v : IV} {v' : Value} (hv : VRel m v v') (d : Option Tmp) : ERel m (putI env d v) (a.put d v').tmps := by
  cases d with
  | none => exact h
  | some d =>
    simp only [putI, Act.put]
    refine ⟨by simp [h.1], fun i iv x hi hx hn => ?_⟩
    rw [List.getElem?_set] at hi
    by_cases hdi : d = i
    · subst hdi
      simp only [if_true] at hi
      split at hi
      · rename_i hlt
        injection hi with hi
        subst hi
        rw [Array.getElem?_setIfInBounds_self_of_lt (by rw [← h.1]; exact hlt)] at hx
        injection hx with hx
        subst hx
        exact hv
      · cases hi
    · rw [if_neg hdi] at hi
      rw [Array.getElem?_setIfInBounds_ne hdi] at hx
      exact h.2 i iv x hi hx hn

theorem put_defers (a : Act) (d : Option Tmp) (v : Value) : (a.put d v).defers = a.defers := by cases d <;> rfl

theorem set_same {env : List IV} {d : Nat} {v : IV} (h : env[d]? = some v) : env.set d v = env := by
  obtain ⟨hlt, heq⟩ := List.getElem?_eq_some_iff.1 h
  rw [← heq]
  exact List.set_getElem_self hlt

theorem yield_bool {all : Array Oper} {j d : Nat} {b : Bool} (hd : (all[j]?).bind (·.dst) = some d) (he : env[d]? = some (.bool b)) (hE : ERel m env a.tmps) : yielded all a.tmps j = some b := by
  obtain ⟨v, hv, hr⟩ := hE.get he (by simp)
  cases hr
  unfold yielded
  rw [hd]
  simp [hv]
theorem yield_undef {all : Array Oper} {j d : Nat} (hd : (all[j]?).bind (·.dst) = some d) (he : env[d]? = some (.tuple [])) (hE : ERel m env a.tmps) : yielded all a.tmps j = none := by
  obtain ⟨v, hv, hr⟩ := hE.get he (by simp)
  cases hr
  unfold yielded
  rw [hd]
  simp [hv]

/-- What follows a row of operations. -/
def After (P : Program) (B K : Nat → Prop) (w0 : World) (m : Map) (env' : List IV) (F' : List (List IV)) (G' : GH) (a : Act) (T : Act → World → Prop) : Prop :=
  ∀ m' w' a', m.le m' → HRel P B K w0 m' F' G' w' → ERel m' env' a'.tmps → a'.defers = a.defers → T a' w'

theorem ops_sim (hO : GoodO P O) {all : Array Oper} : ∀ {os : List Oper} {env : List IV} {F : List (List IV)} {G : GH} {k : List IV → List (List IV) → GH → Option R} {r : R}, opsC P O lo false all os env F G k = some r →
    ∃ env' F' G', k env' F' G' = some r ∧ ∀ (B K : Nat → Prop) (w0 : World) (m : Map) (w : World) (a : Act) (Q : Exit → Act → World → Prop), HRel P B K w0 m F G w → ERel m env a.tmps →
      After P B K w0 m env' F' G' a (Q .normal) → wpList P all Q os a w
  | [], env, F, G, k, r, h => ⟨env, F, G, h, fun B K w0 m w a Q hR hE hQ => hQ m w a m.le_refl hR hE rfl⟩
  | o :: os, env, F, G, k, r, h => by
    -- the operation is carried out
    have run : ∀ {env1 : List IV}, (opC P O lo false o env1 F G fun v F G => opsC P O lo false all os (putI env1 o.dst v) F G k) = some r →
        ∃ env' F' G', k env' F' G' = some r ∧ ∀ (B K : Nat → Prop) (w0 : World) (m : Map) (w : World) (a : Act) (Q : Exit → Act → World → Prop), HRel P B K w0 m F G w → ERel m env1 a.tmps →
          Region.wanted o (yielded all a.tmps) = true → After P B K w0 m env' F' G' a (Q .normal) → wpList P all Q (o :: os) a w := by
      intro env1 h
      obtain ⟨v, F1, G1, h1, h2⟩ := op_sim hO h
      obtain ⟨env', F', G', h3, h4⟩ := ops_sim hO h1
      refine ⟨env', F', G', h3, fun B K w0 m w a Q hR hE hw hQ => ?_⟩
      simp only [wpList, hw, if_true]
      refine .inl (h2 B K w0 m w a hR hE _ Q fun v' w' ⟨m', q1, q2, q3⟩ => ?_)
      refine h4 B K w0 m' w' _ Q q2 ((hE.mono q1).put q3 o.dst) fun m2 w2 a2 l r e d => ?_
      exact hQ m2 w2 a2 (Map.le_trans q1 l) r e (d.trans (put_defers a _ _))
    -- it is passed over
    have pass : ∀ {env1 : List IV}, opsC P O lo false all os (putI env1 o.dst undefI) F G k = some r →
        ∃ env' F' G', k env' F' G' = some r ∧ ∀ (B K : Nat → Prop) (w0 : World) (m : Map) (w : World) (a : Act) (Q : Exit → Act → World → Prop), HRel P B K w0 m F G w → ERel m env1 a.tmps →
          Region.wanted o (yielded all a.tmps) = false → After P B K w0 m env' F' G' a (Q .normal) → wpList P all Q (o :: os) a w := by
      intro env1 h
      obtain ⟨env', F', G', h3, h4⟩ := ops_sim hO h
      refine ⟨env', F', G', h3, fun B K w0 m w a Q hR hE hw hQ => ?_⟩
      simp only [wpList, hw, Bool.false_eq_true, if_false]
      refine h4 B K w0 m w _ Q hR (hE.put (VRel.undef m) o.dst) fun m2 w2 a2 l r e d => ?_
      exact hQ m2 w2 a2 l r e (d.trans (put_defers a _ _))
    simp only [opsC] at h
    split at h
    · rename_i hg
      obtain ⟨env', F', G', h1, h2⟩ := run h
      exact ⟨env', F', G', h1, fun B K w0 m w a Q hR hE hQ => h2 B K w0 m w a Q hR hE (by simp [Region.wanted, hg]) hQ⟩
    · rename_i j want hg
      split at h
      · cases h
      · rename_i d hd
        split at h
        · rename_i b hb
          have hsame : env.set d (.bool b) = env := set_same hb
          cases b
          · simp only [cond_false] at h
            rw [hsame] at h
            split at h
            · rename_i hw
              obtain ⟨env', F', G', h1, h2⟩ := pass h
              exact ⟨env', F', G', h1, fun B K w0 m w a Q hR hE hQ => h2 B K w0 m w a Q hR hE (by simp [Region.wanted, hg, yield_bool hd hb hE, hw]) hQ⟩
            · rename_i hw
              obtain ⟨env', F', G', h1, h2⟩ := run h
              exact ⟨env', F', G', h1, fun B K w0 m w a Q hR hE hQ => h2 B K w0 m w a Q hR hE (by simp [Region.wanted, hg, yield_bool hd hb hE]; simpa using hw) hQ⟩
          · simp only [cond_true] at h
            rw [hsame] at h
            split at h
            · rename_i hw
              obtain ⟨env', F', G', h1, h2⟩ := run h
              exact ⟨env', F', G', h1, fun B K w0 m w a Q hR hE hQ => h2 B K w0 m w a Q hR hE (by simp [Region.wanted, hg, yield_bool hd hb hE, hw]) hQ⟩
            · rename_i hw
              obtain ⟨env', F', G', h1, h2⟩ := pass h
              exact ⟨env', F', G', h1, fun B K w0 m w a Q hR hE hQ => h2 B K w0 m w a Q hR hE (by simp [Region.wanted, hg, yield_bool hd hb hE]; simpa using hw) hQ⟩
        · rename_i hb
          obtain ⟨env', F', G', h1, h2⟩ := pass h
          exact ⟨env', F', G', h1, fun B K w0 m w a Q hR hE hQ => h2 B K w0 m w a Q hR hE (by simp [Region.wanted, hg, yield_undef hd hb hE]) hQ⟩
        · cases h

end
end Go.LI

/-! A region whose order is drawn: what leaves memory alone in any order, what does not at the end, in one. -/
namespace Go.LI
open Go Go.RowKit

section
variable {P : Program} {ops : Array Oper} {md : Region.Mode} {C : World → Prop}

def wpAnyLQ (P : Program) (md : Region.Mode) (ops : Array Oper) (C : World → Prop) (n : Nat) (L : Array Bool → Act → Prop) : Nat → Array Bool → Act → Prop
  | 0, listed, a => L listed a
  | f + 1, listed, a => Region.ready md ops listed ≠ [] ∧ ∀ i ∈ Region.ready md ops listed, i < n ∧ qOp P ops C i (wpAnyLQ P md ops C n L f (listed.setIfInBounds i true)) a

theorem wpAny_of_headQ {n g : Nat} {L : Array Bool → Act → Prop} {Q' : Exit → Act → World → Prop} (hL : ∀ listed a w, C w → L listed a → wpAny P md ops Q' g listed a w) :
    ∀ (f : Nat) (listed : Array Bool) (a : Act) (w : World), C w → wpAnyLQ P md ops C n L f listed a → wpAny P md ops Q' (f + g) listed a w
  | 0, listed, a, w, hC, h => by rw [Nat.zero_add]; exact hL _ _ _ hC h
  | f + 1, listed, a, w, hC, h => by
    rw [show f + 1 + g = (f + g) + 1 by omega]
    exact ⟨fun h0 => absurd h0 h.1, fun i hi => wpOp_of_qOp hC (fun a' w' hw' h' => wpAny_of_headQ hL f _ a' w' hw' h') (h.2 i hi).2⟩

theorem wpAnyLQ_first {n i : Nat} {oi : Oper} {v : Value} {L : Array Bool → Act → Prop} (hi : ops[i]? = some oi) (hsel : ∀ (j : Nat) (o : Oper) cs b, ops[j]? = some o → o.op ≠ .select cs b)
    (hs : Region.sinkB md ops n = true) (hc : Region.chainB md ops n = true) (hn : n < ops.size) (hin : i < n) (hdone : ∀ listed a, L listed a → ∀ j ∈ Region.ready md ops listed, n ≤ j) :
    ∀ (f : Nat) (listed : Array Bool) (a : Act), HeadInv md ops n listed →
      (∀ j oj, ops[j]? = some oj → j ≠ i → listed.getD j true = false → (∀ e ∈ oj.after, Region.binds md e = true → e.on ≠ i) → oi.apart ops oj = true) →
      i ∈ Region.ready md ops listed → YieldsIn P ops C oi v a → wpAnyLQ P md ops C n L f (listed.setIfInBounds i true) (a.put oi.dst v) → wpAnyLQ P md ops C n L (f + 1) listed a := by
  intro f
  induction f with
  | zero =>
    intro listed a inv _ hr hy H
    have hun := (mem_ready.1 hr).1
    refine ⟨fun h => (by rw [h] at hr; cases hr), fun j hj => ?_⟩
    have hjn : j < n := by
      rcases Nat.lt_or_ge j n with h | h
      · exact h
      · exact absurd hj (tail_waits hs hc hn inv _ i rfl hin hun j h)
    refine ⟨hjn, ?_⟩
    by_cases hji : j = i
    · subst hji; exact hy.qOp hi H
    · have := hdone _ _ H j (ready_mono hj hji)
      omega
  | succ f ih =>
    intro listed a inv hfree hr hy H
    have hun := (mem_ready.1 hr).1
    refine ⟨fun h => (by rw [h] at hr; cases hr), fun j hj => ?_⟩
    have hjn : j < n := by
      rcases Nat.lt_or_ge j n with h | h
      · exact h
      · exact absurd hj (tail_waits hs hc hn inv _ i rfl hin hun j h)
    refine ⟨hjn, ?_⟩
    by_cases hji : j = i
    · subst hji; exact hy.qOp hi H
    · have h1 := (H.2 j (ready_mono hj hji)).2
      obtain ⟨hjun, oj, hoj, hall⟩ := mem_ready.1 hj
      have hnot : ∀ e ∈ oj.after, Region.binds md e = true → e.on ≠ i := fun e he hb heq => by
        have h1 := hall e he hb
        rw [heq, getD_both hun] at h1
        cases h1
      have h2 := qOp_put hoj (hfree j oj hoj hji hjun hnot) (fun cs b => hsel i oi cs b hi) (fun cs b => hsel j oj cs b hoj) hy h1
      have hfree' : ∀ k ok, ops[k]? = some ok → k ≠ i → (listed.setIfInBounds j true).getD k true = false → (∀ e ∈ ok.after, Region.binds md e = true → e.on ≠ i) → oi.apart ops ok = true := fun k ok hk hki hun hno => by
        refine hfree k ok hk hki ?_ hno
        by_cases hjk : j = k
        · subst hjk; exact hjun
        · rw [getD_set_ne true hjk] at hun; exact hun
      refine qOp_mono (fun a' h3 => ih (listed.setIfInBounds j true) a' (inv.set hj hjn) hfree' (ready_mono hr (Ne.symm hji)) h3.1 ?_) h2
      rw [Array.setIfInBounds_comm _ _ hji]
      exact h3.2

theorem wpAnyLQ_lex {n g : Nat} {Lq : Act → Prop} (hsel : Region.noSelect ops = true) (hs : Region.sinkB md ops n = true) (hc : Region.chainB md ops n = true) (hn : n < ops.size) :
    ∀ (l : List Oper) (k : Nat) (listed : Array Bool) (a : Act), (∀ j, j < l.length → l[j]? = ops[k + j]?) → k + l.length = n → HeadInv md ops n listed →
    Region.lexHead md ops g l.length k listed = true → wpQuiet P ops C Lq l a → wpAnyLQ P md ops C n (fun listed' a' => Region.seqB md ops g n listed' = true ∧ Lq a') l.length listed a
  | [], k, listed, a, _, hk, _, hB, h => by
    have : k = n := by simpa using hk
    subst this
    exact ⟨by simpa [Region.lexHead] using hB, h⟩
  | o :: l, k, listed, a, hl, hk, inv, hB, h => by
    have h0 : ops[k]? = some o := by simpa using (hl 0 (by simp)).symm
    simp only [List.length_cons, Region.lexHead, Bool.and_eq_true] at hB
    obtain ⟨⟨hr, hf⟩, hB'⟩ := hB
    have hkn : k < n := by simp only [List.length_cons] at hk; omega
    have hr' : k ∈ Region.ready md ops listed := by simpa using hr
    have hst : qOp P ops C k (wpQuiet P ops C Lq l) a := by unfold qOp; simp only [h0]; exact h
    obtain ⟨v, hy, hK⟩ := yieldsIn_of_qOp h0 hst
    exact wpAnyLQ_first h0 (Region.noSelect_spec hsel) hs hc hn hkn (fun listed' a' hL => seqB_ready hL.1) l.length listed a inv (Region.free_spec h0 hf) hr' hy
      (wpAnyLQ_lex hsel hs hc hn l (k + 1) _ _ (fun j hj => by have := hl (j + 1) (by simp; omega); simpa [Nat.add_assoc, Nat.add_comm 1 j] using this) (by simp only [List.length_cons] at hk; omega) (inv.set hr' hkn) hB' hK)

theorem wp_region_quiet_tail {id : Nat} {Q : Exit → Act → World → Prop} {a : Act} {w : World} (n : Nat) (hm : P.follows .mixedOrders = true) (hB : Region.lexTailB .any ops n = true) (hC : C { w with drawn := w.drawn + 1 })
    (h : wpQuiet P ops C (fun a' => ∀ w', C w' → wpList P ops Q (ops.toList.drop n) a' w') (ops.toList.take n) a) : (Code.region id ops true).wp P Q a w := by
  simp only [Region.lexTailB, Bool.and_eq_true, decide_eq_true_eq] at hB
  obtain ⟨⟨⟨⟨hsel, hn⟩, hs⟩, hc⟩, hlex⟩ := hB
  have hn' : n < ops.toList.length := by simpa using hn
  have htl : (ops.toList.take n).length = n := by simp; omega
  have hdl : (ops.toList.drop n).length = ops.size - n := by simp
  have inv0 : HeadInv .any ops n (Array.replicate ops.size false) :=
    ⟨by simp, fun j oj _ hl => (by rw [getD_replicate_false] at hl; cases hl), fun t _ ht => getD_in (by simpa using ht) (getD_replicate_false _ _)⟩
  have H := wpAnyLQ_lex (md := .any) (g := ops.size - n) hsel hs hc hn (ops.toList.take n) 0 _ a (fun j hj => by
    have hj' : j < n := by rw [htl] at hj; exact hj
    simp [hj']) (by simpa using htl) inv0 (by rw [htl]; exact hlex) h
  refine wp_region_any hm ?_
  have := wpAny_of_headQ (Q' := Q) (g := ops.size - n) (fun listed a' w' hw' hL => by
    have := wpAny_of_seq (md := .any) (Q' := Q) (ops.toList.drop n) n listed a' w' (fun j => by simp [List.getElem?_drop]) (by rw [hdl]; exact hL.1) (hL.2 w' hw')
    rwa [hdl] at this) _ _ _ _ hC H
  rw [htl, show n + (ops.size - n) = ops.size by omega] at this
  exact this
end

section
variable {R : Type} {P : Program} {B K : Nat → Prop} {w0 : World} {m : Map} {F : List (List IV)} {G : GH} {w : World} {O : Ora R} {lo : List Nat} {o : Oper} {env : List IV} {a : Act} {r : R}

/-- All that stands is to be read alone. -/
theorem HRel.freeze (h : HRel P B K w0 m F G w) : HRel P (fun b => b < w.heap.size) (fun b => b < w.heap.size) w m.noF [] (gfreeze G) w where
  bk := fun b hb => hb
  frame := fun b hb => ⟨hb, rfl⟩
  os := rfl
  tape := rfl
  output := rfl
  size := Nat.le_refl _
  gdom := fun b e he => by simp [gfreeze]; exact h.gdom b e he
  fdom := fun k b hb => by cases hb
  gblk := fun b k e hk hm he => by
    simp only [gfreeze, List.getElem?_map] at hk
    cases hq : G[b]? with
    | none => rw [hq] at hk; cases hk
    | some k0 =>
      rw [hq] at hk
      injection hk with hk
      subst hk
      simp only at hm
      split at hm
      · rename_i hm0
        obtain ⟨c, t, fr, hg⟩ := h.gblk b k0 e hq hm0 he
        refine ⟨c, t, fr, { row := hg.row, fits := hg.fits, cells := hg.cells, ro := fun _ => lt_of_row hg.row, esz := hg.esz, rw := fun h1 => ?_ }⟩
        simp [hm0] at h1
      · omega
  fblk := fun i cs b hi => by simp at hi
  ginj := fun b1 b2 k1 k2 e1 e2 h1 _ m1 _ _ _ _ => by
    simp only [gfreeze, List.getElem?_map] at h1
    cases hq : G[b1]? with
    | none => rw [hq] at h1; cases h1
    | some k0 => rw [hq] at h1; injection h1 with h1; subst h1; simp only at m1; split at m1 <;> omega
  gf := fun b i k e r _ _ _ hr => by cases hr
  finj := fun i j r s hr => by cases hr

theorem flat_eq0 {m1 : Map} {v : IV} {x : Value} (h : VRel m1 v x) : ∀ (m2 : Map) (y : Value), isFlat v = true → VRel m2 v y → x = y := by
  induction h with
  | bool => intro m2 y _ k; cases k; rfl
  | int => intro m2 y _ k; cases k; rfl
  | float => intro m2 y _ k; cases k; rfl
  | str => intro m2 y _ k; cases k; rfl
  | ptrNil => intro m2 y _ k; cases k; rfl
  | ptr a e h => intro m2 y hf k; simp [isFlat] at hf
  | loc k o b h => intro m2 y hf _; simp [isFlat] at hf
  | sliceNil => intro m2 y _ k; cases k; rfl
  | slice => intro m2 y hf k; simp [isFlat] at hf
  | sliceE => intro m2 y hf k; simp [isFlat] at hf
  | func f cs cs' hs _ ih => intro m2 y hf k; cases k with | func _ _ ds hs2 hd => rw [arr_eq hs hs2 (by simpa [isFlat] using hf) ih hd]
  | nilFunc => intro m2 y _ k; cases k; rfl
  | nilIface => intro m2 y _ k; cases k; rfl
  | iface t iv v _ ih => intro m2 y hf k; cases k with | iface _ _ v2 h2 => rw [ih _ _ (by simpa [isFlat] using hf) h2]
  | agg cs cs' hs _ ih => intro m2 y hf k; cases k with | agg _ ds hs2 hd => rw [arr_eq hs hs2 (by simpa [isFlat] using hf) ih hd]
  | tuple cs cs' hs _ ih => intro m2 y hf k; cases k with | tuple _ ds hs2 hd => rw [arr_eq hs hs2 (by simpa [isFlat] using hf) ih hd]
  | fo k o b h hn => intro m2 y hf _; simp [isFlat] at hf
where
  flats_get : ∀ {cs : List IV} {i : Nat} {iv : IV}, isFlats cs = true → cs[i]? = some iv → isFlat iv = true
    | [], _, _, _, h => by simp at h
    | c :: cs, 0, iv, hn, h => by simp [isFlats] at hn; simp at h; rw [← h]; exact hn.1
    | c :: cs, i + 1, iv, hn, h => by simp [isFlats] at hn; exact flats_get hn.2 (by simpa using h)
  arr_eq : ∀ {cs : List IV} {xs ys : Array Value} {m2 : Map}, cs.length = xs.size → cs.length = ys.size → isFlats cs = true →
      (∀ (i : Nat) (iv : IV) (v : Value), cs[i]? = some iv → xs[i]? = some v → ∀ (m2 : Map) (y : Value), isFlat iv = true → VRel m2 iv y → v = y) →
      (∀ (i : Nat) (iv : IV) (v : Value), cs[i]? = some iv → ys[i]? = some v → VRel m2 iv v) → xs = ys := by
    intro cs xs ys m2 h1 h2 hf ih hd
    apply Array.ext (by omega)
    intro i hi1 hi2
    have h0 : i < cs.length := by omega
    exact ih i cs[i] xs[i] (List.getElem?_eq_getElem h0) (Array.getElem?_eq_getElem hi1) _ _ (flats_get hf (List.getElem?_eq_getElem h0)) (hd i cs[i] ys[i] (List.getElem?_eq_getElem h0) (Array.getElem?_eq_getElem hi2))

theorem flat_eq {m1 m2 : Map} {v : IV} {x y : Value} (h : VRel m1 v x) (hf : isFlat v = true) (k : VRel m2 v y) : x = y := flat_eq0 h m2 y hf k

/-- A call that only reads, in each world that has only grown: one value. -/
theorem call_quiet (hO : GoodO P O) {f : FuncId} {args : List IV} {k : IV → List (List IV) → GH → Option R} {t : TypeId} (h : (O f args (gfreeze G) fun v _ => castT P t v fun v => if isFlat v then k v F G else none) = some r) (hn : noLocs args = true) :
    ∃ v, k v F G = some r ∧ ∀ (B K : Nat → Prop) (w0 : World) (m : Map) (w : World) (args' : Array Value), ARel m args args' → HRel P B K w0 m F G w → ∃ v', VRel m v v' ∧
      ∀ w', Below w.heap.size w w' → ((callFunc f args').run P w' = .ok (.enter f args') w' ∧ Calls P f args' w' fun e w'' => e = .returned v' ∧ Below w.heap.size w w'') ∨ (callFunc f args').run P w' = .ok (.value v') w' := by
  obtain ⟨v, G', h1, h2, h3⟩ := hO _ _ _ _ _ h hn
  replace h1 := castT_out h1
  split at h1
  · rename_i hf
    refine ⟨v, h1, fun B K w0 m w args' hA hR => ?_⟩
    have at_ : ∀ w', Below w.heap.size w w' → CallSim P f args' w' fun v' w'' => (∃ m', VRel m' v v') ∧ Below w.heap.size w w'' ∧ ∃ m', m.noF.le m' ∧ VRel m' v v' := by
      intro w' hw'
      refine (h3 _ _ w' m.noF w' args' (fun _ => rfl) (hA.noF hn) (hR.grow hw').freeze).mono ?_
      rintro v' w'' ⟨m', q1, q2, q3, q4⟩
      refine ⟨⟨m', q4⟩, hw'.trans ⟨q3.os, q3.tape, q3.output, q3.size, fun b hb => (q3.frame b (Nat.lt_of_lt_of_le hb hw'.size)).2⟩, m', q1, q4⟩
    have ex : ∃ v' m', VRel m' v v' := by
      rcases at_ w (Below.refl _ _) with ⟨_, hc⟩ | ⟨v', _, ⟨m', hv⟩, _⟩
      · obtain ⟨e, w', fr, ⟨v', _, ⟨m', hv⟩, _⟩, _⟩ := hc []
        exact ⟨v', m', hv⟩
      · exact ⟨v', m', hv⟩
    obtain ⟨v', m', hv'⟩ := ex
    refine ⟨v', flat_any hv' hf, fun w' hw' => ?_⟩
    rcases at_ w' hw' with ⟨p1, p2⟩ | ⟨v2, p1, ⟨m2, hv2⟩, _⟩
    · refine .inl ⟨p1, p2.mono ?_⟩
      rintro e w'' ⟨v2, he, ⟨m2, hv2⟩, hb, _⟩
      refine ⟨?_, hb⟩
      rw [he, flat_eq hv2 hf hv']
    · exact .inr (by rw [p1, flat_eq hv2 hf hv'])
  · cases h1
where
  flat_any : ∀ {m1 m2 : Map} {v : IV} {x : Value}, VRel m1 v x → isFlat v = true → VRel m2 v x := by
    intro m1 m2 v x h
    induction h with
    | bool => intro _; exact .bool _
    | int => intro _; exact .int _ _
    | float => intro _; exact .float _ _
    | str => intro _; exact .str _
    | ptrNil => intro _; exact .ptrNil
    | ptr a e h => intro hf; simp [isFlat] at hf
    | loc k o b h => intro hf; simp [isFlat] at hf
    | sliceNil => intro _; exact .sliceNil
    | slice => intro hf; simp [isFlat] at hf
    | sliceE => intro hf; simp [isFlat] at hf
    | func f cs cs' hs _ ih => intro hf; exact .func f cs cs' hs fun i iv v a b => ih i iv v a b (flat_eq0.flats_get (by simpa [isFlat] using hf) a)
    | nilFunc => intro _; exact .nilFunc
    | nilIface => intro _; exact .nilIface
    | iface t iv v _ ih => intro hf; exact .iface t iv v (ih (by simpa [isFlat] using hf))
    | agg cs cs' hs _ ih => intro hf; exact .agg cs cs' hs fun i iv v a b => ih i iv v a b (flat_eq0.flats_get (by simpa [isFlat] using hf) a)
    | tuple cs cs' hs _ ih => intro hf; exact .tuple cs cs' hs fun i iv v a b => ih i iv v a b (flat_eq0.flats_get (by simpa [isFlat] using hf) a)
    | fo k o b h hn => intro hf; simp [isFlat] at hf

end
end Go.LI

/-! What the interpreter gives does not hang on what follows. -/
set_option linter.unusedVariables false
namespace Go.LI
open Go Go.RowKit

section
variable {R : Type} {P : Program}

theorem castL_nat {l : Leaf} {v : IV} {k : IV → Option R} {r : R} (h : castL l v k = some r) (k' : IV → Option R) : castL l v k' = k' v := by
  cases l <;> simp only [castL] at h ⊢
  case int => split at h; (rename_i n hn; rw [ivasInt_out hn]); cases h
  case float => split at h; (rename_i n hn; rw [ivasFloat_out hn]); cases h
  case bool => cases v <;> first | (cases h; done) | rfl
  case str => cases v <;> first | (cases h; done) | rfl
  case ptr => cases v <;> first | (cases h; done) | rfl
  case slice => cases v <;> first | (cases h; done) | rfl

theorem castCells_nat : ∀ {ls : List Leaf} {cs : List IV} {i : Nat} {k : List IV → Option R} {r : R}, castCells ls cs i k = some r → i + ls.length = cs.length → ∀ k' : List IV → Option R, castCells ls cs i k' = k' (cs.drop i)
  | [], cs, i, k, r, h, hl, k' => by rw [List.drop_of_length_le (by simp at hl; omega)]; rfl
  | l :: ls, cs, i, k, r, h, hl, k' => by
    have hlt : i < cs.length := by simp at hl; omega
    simp only [castCells] at h ⊢
    have h2 := castL_out h
    rw [castL_nat h, castCells_nat h2 (by simp at hl; omega)]
    rw [List.drop_eq_getElem_cons hlt]
    simp [List.getD, hlt]

theorem cast1_nat {t : TypeId} {v : IV} {k : IV → Option R} {r : R} (h : cast1 P t v k = some r) (k' : IV → Option R) : cast1 P t v k' = k' v := by
  unfold cast1 at h ⊢
  split at h
  · rename_i ha
    rw [if_pos ha]
    split at h
    · rename_i hl
      rw [if_pos hl]
      split at h
      · rename_i cs hcs
        obtain ⟨rfl, hc⟩ := ivasAgg_out hcs
        try rw [hcs]
        try simp only
        rw [castCells_nat h (by rw [hl, hc]; simp)]
        simp
      · cases h
    · cases h
  · rename_i ha
    rw [if_neg ha]
    split at h
    · rename_i l hl
      try rw [hl]
      exact castL_nat h k'
    · rfl

theorem castTs_nat : ∀ {ls : List TypeId} {cs : List IV} {i : Nat} {k : List IV → Option R} {r : R}, castTs P ls cs i k = some r → i + ls.length = cs.length → ∀ k' : List IV → Option R, castTs P ls cs i k' = k' (cs.drop i)
  | [], cs, i, k, r, h, hl, k' => by rw [List.drop_of_length_le (by simp at hl; omega)]; rfl
  | l :: ls, cs, i, k, r, h, hl, k' => by
    have hlt : i < cs.length := by simp at hl; omega
    simp only [castTs] at h ⊢
    have h2 := cast1_out h
    rw [cast1_nat h, castTs_nat h2 (by simp at hl; omega)]
    rw [List.drop_eq_getElem_cons hlt]
    simp [List.getD, hlt]

theorem castT_nat {t : TypeId} {v : IV} {k : IV → Option R} {r : R} (h : castT P t v k = some r) (k' : IV → Option R) : castT P t v k' = k' v := by
  unfold castT at h ⊢
  split at h
  · rename_i ts hu
    try rw [hu]
    try simp only
    split at h
    · rename_i cs hcs
      obtain ⟨rfl, hc⟩ := ivasTup_out hcs
      try rw [hcs]
      try simp only
      rw [castTs_nat h (by rw [← hc]; simp)]
      simp
    · cases h
  · exact cast1_nat h k'

/-- A call's outcome does not hang on what follows. -/
def NatO (O : Ora R) : Prop := ∀ (f : FuncId) (args : List IV) (G : GH) (k : IV → GH → Option R) (r : R), O f args G k = some r → ∃ v G', ∀ k' : IV → GH → Option R, O f args G k' = k' v G'

variable {O : Ora R} {lo : List Nat} {sand : Bool}

/-- An operation comes to this. -/
def OpTo (P : Program) (O : Ora R) (lo : List Nat) (sand : Bool) (o : Oper) (env : List IV) (F : List (List IV)) (G : GH) (v : IV) (F' : List (List IV)) (G' : GH) : Prop :=
  ∀ k : IV → List (List IV) → GH → Option R, opC P O lo sand o env F G k = k v F' G'

theorem op_nat (hN : NatO O) {o : Oper} {env : List IV} {F : List (List IV)} {G : GH} {k : IV → List (List IV) → GH → Option R} {r : R} (h : opC P O lo sand o env F G k = some r) : ∃ v F' G', OpTo P O lo sand o env F G v F' G' := by
  by_cases hc : isCall o.op = true
  · cases ho : o.op with
    | call c =>
      rw [ho] at hc
      cases hcc : c.callee with
      | value f =>
        simp only [opC, ho, hcc] at h
        split at h
        · rename_i args hargs
          split at h
          · rename_i fid caps hf
            split at h
            · rename_i hnl
              cases sand
              · simp only [Bool.false_eq_true, if_false] at h
                obtain ⟨v, G', hv⟩ := hN _ _ _ _ _ h
                rw [hv] at h
                refine ⟨v, F, G', fun k' => ?_⟩
                simp only [opC, ho, hcc, hargs, hf, hnl, if_true, Bool.false_eq_true, if_false]
                rw [hv]
                exact castT_nat h _
              · simp only [if_true] at h
                obtain ⟨v, G', hv⟩ := hN _ _ _ _ _ h
                rw [hv] at h
                have h1 := castT_out h
                split at h1
                · rename_i hfl
                  refine ⟨v, F, G, fun k' => ?_⟩
                  simp only [opC, ho, hcc, hargs, hf, hnl, if_true]
                  rw [hv, castT_nat h]
                  rw [if_pos hfl]
                · cases h1
            · cases h
          · cases h
        · cases h
      | builtin b => simp [isCall, hcc] at hc
      | invoke x n => simp [isCall, hcc] at hc
    | _ => rw [ho] at hc; simp [isCall] at hc
  · have hc' : isCall o.op = false := by simpa using hc
    rw [opC_param (O' := fun _ _ _ _ => none) env F G k hc'] at h
    cases hx : opC P (fun _ _ _ _ => none) lo sand o env F G (fun v F G => some (v, F, G)) with
    | none => rw [hx] at h; cases h
    | some x =>
      obtain ⟨v, F', G'⟩ := x
      refine ⟨v, F', G', fun k' => ?_⟩
      rw [opC_param (O' := fun _ _ _ _ => none) env F G k' hc', hx]
      rfl

/-! ### Rows of operations -/
theorem opsC_cons {all : Array Oper} (o : Oper) (os : List Oper) (env : List IV) (F : List (List IV)) (G : GH) (k : List IV → List (List IV) → GH → Option R) :
    opsC P O lo sand all (o :: os) env F G k = match wantI all o env with
      | some true => opC P O lo sand o env F G fun v F G => opsC P O lo sand all os (putI env o.dst v) F G k
      | some false => opsC P O lo sand all os (putI env o.dst undefI) F G k
      | none => none := by
  simp only [opsC, wantI]
  cases hg : o.guard with
  | none => rfl
  | some jw =>
    obtain ⟨j, want⟩ := jw
    simp only
    cases hd : (all[j]?).bind (·.dst) with
    | none => rfl
    | some d =>
      simp only
      cases he : env[d]? with
      | none => rfl
      | some v =>
        cases v with
        | bool b =>
          have hs : env.set d (.bool b) = env := set_same he
          cases b <;> cases want <;> simp [hs]
        | tuple vs => cases vs <;> rfl
        | _ => rfl

def OpsTo (P : Program) (O : Ora R) (lo : List Nat) (sand : Bool) (all : Array Oper) (os : List Oper) (env : List IV) (F : List (List IV)) (G : GH) (env' : List IV) (F' : List (List IV)) (G' : GH) : Prop :=
  ∀ k : List IV → List (List IV) → GH → Option R, opsC P O lo sand all os env F G k = k env' F' G'

theorem ops_nat (hN : NatO O) {all : Array Oper} : ∀ {os : List Oper} {env : List IV} {F : List (List IV)} {G : GH} {k : List IV → List (List IV) → GH → Option R} {r : R}, opsC P O lo sand all os env F G k = some r →
    ∃ env' F' G', OpsTo P O lo sand all os env F G env' F' G'
  | [], env, F, G, k, r, h => ⟨env, F, G, fun k' => rfl⟩
  | o :: os, env, F, G, k, r, h => by
    rw [opsC_cons] at h
    cases hw : wantI all o env with
    | none => rw [hw] at h; cases h
    | some b =>
      rw [hw] at h
      cases b
      · obtain ⟨env', F', G', h1⟩ := ops_nat hN h
        exact ⟨env', F', G', fun k' => by rw [opsC_cons, hw]; exact h1 k'⟩
      · obtain ⟨v, F1, G1, h1⟩ := op_nat hN h
        rw [h1] at h
        obtain ⟨env', F', G', h2⟩ := ops_nat hN h
        exact ⟨env', F', G', fun k' => by rw [opsC_cons, hw]; simp only; rw [h1]; exact h2 k'⟩
end
end Go.LI

/-! What an operation looks at, and what it touches. -/
set_option linter.unusedVariables false
namespace Go.LI
open Go Go.RowKit

section
variable {R : Type} {P : Program} {O : Ora R} {lo : List Nat} {sand : Bool} {env env2 : List IV}

theorem ev_env {x : Operand} (h : ∀ t, x = .tmp t → env[t]? = env2[t]?) : ev env x = ev env2 x := by
  cases x with
  | tmp t => simp only [ev, tmpv, h t rfl]
  | _ => rfl
theorem evs_env : ∀ {xs : List Operand}, (∀ t, Operand.tmp t ∈ xs → env[t]? = env2[t]?) → evs env xs = evs env2 xs
  | [], _ => rfl
  | x :: xs, h => by
    simp only [evs]
    rw [ev_env (x := x) (fun t ht => h t (by simp [ht])), evs_env (xs := xs) (fun t ht => h t (by simp [ht]))]
theorem evParts_env : ∀ {xs : List (Nat × Operand)}, (∀ t, Operand.tmp t ∈ xs.map (·.2) → env[t]? = env2[t]?) → evParts env xs = evParts env2 xs
  | [], _ => rfl
  | (i, x) :: xs, h => by
    simp only [evParts]
    rw [ev_env (x := x) (fun t ht => h t (by simp [ht])), evParts_env (xs := xs) (fun t ht => h t (by simp at ht ⊢; exact .inr ht))]

/-- An operation looks at its operands alone. -/
theorem opC_env {o : Oper} (h : ∀ t, Operand.tmp t ∈ o.op.operands → env[t]? = env2[t]?) (F : List (List IV)) (G : GH) (k : IV → List (List IV) → GH → Option R) :
    opC P O lo sand o env F G k = opC P O lo sand o env2 F G k := by
  have E : ∀ x, x ∈ o.op.operands → ev env x = ev env2 x := fun x hx => ev_env fun t ht => h t (by rw [← ht]; exact hx)
  cases ho : o.op with
  | move x => have e := E x (by simp [ho, Op.operands]); simp only [opC, ho, e]
  | assign x => have e := E x (by simp [ho, Op.operands]); simp only [opC, ho, e]
  | pick c x y =>
    have e1 := E c (by simp [ho, Op.operands]); have e2 := E x (by simp [ho, Op.operands]); have e3 := E y (by simp [ho, Op.operands])
    simp only [opC, ho, e1, e2, e3]
  | alloc t => simp only [opC, ho]
  | box t x => have e := E x (by simp [ho, Op.operands]); simp only [opC, ho, e]
  | build t ps =>
    have e := evParts_env (env := env) (env2 := env2) (xs := ps.toList) (fun t ht => h t (by rw [ho]; simpa [Op.operands] using ht))
    simp only [opC, ho, e]
  | buildSlice t n ps =>
    have e := evParts_env (env := env) (env2 := env2) (xs := ps.toList) (fun t ht => h t (by rw [ho]; simpa [Op.operands] using ht))
    simp only [opC, ho, e]
  | load t x => have e := E x (by simp [ho, Op.operands]); simp only [opC, ho, e]
  | store t x y => have e1 := E x (by simp [ho, Op.operands]); have e2 := E y (by simp [ho, Op.operands]); simp only [opC, ho, e1, e2]
  | nilCheck x => have e := E x (by simp [ho, Op.operands]); simp only [opC, ho, e]
  | binOp op t x y yt => have e1 := E x (by simp [ho, Op.operands]); have e2 := E y (by simp [ho, Op.operands]); simp only [opC, ho, e1, e2]
  | unOp op t x => have e := E x (by simp [ho, Op.operands]); simp only [opC, ho, e]
  | convert s d x => have e := E x (by simp [ho, Op.operands]); simp only [opC, ho, e]
  | makeInterface t x => have e := E x (by simp [ho, Op.operands]); simp only [opC, ho, e]
  | makeFunc fn fi ca =>
    cases fn with
    | func f =>
      have e := evs_env (env := env) (env2 := env2) (xs := ca.toList) (fun t ht => h t (by rw [ho]; simp [Op.operands]; exact .inr (by simpa using ht)))
      simp only [opC, ho, e]
    | _ => simp only [opC, ho]
  | makeSlice t l c => have e1 := E l (by simp [ho, Op.operands]); have e2 := E c (by simp [ho, Op.operands]); simp only [opC, ho, e1, e2]
  | slice t x l hh mx =>
    have e1 := E x (by simp [ho, Op.operands])
    have e2 : loI env l = loI env2 l := by
      cases l with
      | none => rfl
      | some l => simp only [loI]; rw [E l (by simp [ho, Op.operands])]
    have e3 : ∀ v, hiI env hh v = hiI env2 hh v := by
      intro v
      cases hh with
      | none => rfl
      | some hh => simp only [hiI]; rw [E hh (by simp [ho, Op.operands])]
    simp only [opC, ho, e1, e2, e3]
  | fieldAddr t x f => have e := E x (by simp [ho, Op.operands]); simp only [opC, ho, e]
  | field t x f => have e := E x (by simp [ho, Op.operands]); simp only [opC, ho, e]
  | indexAddr t x y => have e1 := E x (by simp [ho, Op.operands]); have e2 := E y (by simp [ho, Op.operands]); simp only [opC, ho, e1, e2]
  | index t x y => have e1 := E x (by simp [ho, Op.operands]); have e2 := E y (by simp [ho, Op.operands]); simp only [opC, ho, e1, e2]
  | extract x i => have e := E x (by simp [ho, Op.operands]); simp only [opC, ho, e]
  | call c =>
    have e := evs_env (env := env) (env2 := env2) (xs := c.args.toList) (fun t ht => h t (by rw [ho]; simp [Op.operands, Call.operands]; exact .inr (by simpa using ht)))
    cases hc : c.callee with
    | builtin b => simp only [opC, ho, hc, e]
    | value f =>
      have e2 := E f (by simp [ho, Op.operands, Call.operands, hc])
      simp only [opC, ho, hc, e, e2]
    | invoke x n => simp only [opC, ho, hc, e]
  | _ => simp only [opC, ho]

/-! ### What it touches -/
/-- What something that does T does elsewhere. -/
def ClsG (T : List (List IV) → GH → IV → List (List IV) → GH → Prop) (F : List (List IV)) (G : GH) : Fp → Prop
  | .none => ∃ v, ∀ F2 G2, T F2 G2 v F2 G2
  | .rf b => ∃ v, ∀ F2 G2, F2[b]? = F[b]? → T F2 G2 v F2 G2
  | .rg => ∃ v, ∀ F2, T F2 G v F2 G
  | .wf b => ∃ v cs, b < F.length ∧ ∀ F2 G2, F2[b]? = F[b]? → T F2 G2 v (F2.set b cs) G2
  | .nf => ∃ cs, ∀ F2 G2, T F2 G2 (.loc F2.length 0) (F2 ++ [cs]) G2
  | .wg => ∃ v G', ∀ F2, T F2 G v F2 G'
  | .bad => True
/-- What an operation that is carried out does elsewhere. -/
abbrev Cls (P : Program) (O : Ora R) (lo : List Nat) (sand : Bool) (o : Oper) (env : List IV) (F : List (List IV)) (G : GH) : Fp → Prop := ClsG (OpTo P O lo sand o env) F G

theorem cls_pure {o : Oper} {F : List (List IV)} {G : GH} {k : IV → List (List IV) → GH → Option R} {r : R} {x : Option IV} (hx : ∀ F2 G2 (k' : IV → List (List IV) → GH → Option R), opC P O lo sand o env F2 G2 k' = x.bind fun v => k' v F2 G2)
    (h : opC P O lo sand o env F G k = some r) : Cls P O lo sand o env F G .none := by
  rw [hx] at h
  cases x with
  | none => cases h
  | some v => exact ⟨v, fun F2 G2 k' => by rw [hx]; rfl⟩
/-- What hangs on the shared heap alone. -/
theorem cls_g {o : Oper} {F : List (List IV)} {G : GH} {k : IV → List (List IV) → GH → Option R} {r : R} {x : Option (IV × GH)} (hx : ∀ F2 (k' : IV → List (List IV) → GH → Option R), opC P O lo sand o env F2 G k' = x.bind fun v => k' v.1 F2 v.2)
    (h : opC P O lo sand o env F G k = some r) : Cls P O lo sand o env F G .wg := by
  rw [hx] at h
  cases x with
  | none => cases h
  | some v => exact ⟨v.1, v.2, fun F2 k' => by rw [hx]; rfl⟩

theorem loadC_loc {t : TypeId} {b i : Nat} {F F2 : List (List IV)} {G G2 : GH} (hb : F2[b]? = F[b]?) (k : IV → Option R) : loadC P t (.loc b i) F2 G2 k = loadC P t (.loc b i) F G k := by
  simp only [loadC, hb]
theorem loadC_ptr {t : TypeId} {a : Option GA} {F F2 : List (List IV)} {G : GH} (k : IV → Option R) : loadC P t (.ptr a) F2 G k = loadC P t (.ptr a) F G k := by
  cases a <;> simp only [loadC]

theorem op_cls (hN : NatO O) {o : Oper} {F : List (List IV)} {G : GH} {k : IV → List (List IV) → GH → Option R} {r : R} (h : opC P O lo sand o env F G k = some r) : Cls P O lo sand o env F G (fpOp P lo sand env o) := by
  unfold fpOp
  cases ho : o.op with
  | move x => exact cls_pure (x := ev env x) (fun F2 G2 k' => by simp only [opC, ho]; cases ev env x <;> rfl) h
  | assign x => exact cls_pure (x := ev env x) (fun F2 G2 k' => by simp only [opC, ho]; cases ev env x <;> rfl) h
  | pick c x y =>
    simp only [opC, ho] at h
    split at h
    · rename_i c1 x1 y1 h1 h2 h3
      refine cls_pure (F := F) (G := G) (k := k) (r := r) (x := some (if c1 then x1 else y1)) (fun F2 G2 k' => by simp only [opC, ho, h1, h2, h3]; cases c1 <;> rfl) ?_
      simp only [opC, ho, h1, h2, h3]; exact h
    · cases h
  | build t ps =>
    refine cls_pure (x := opC P (fun _ _ _ _ => none) lo sand o env [] [] (fun v _ _ => some v)) (fun F2 G2 k' => ?_) h
    simp only [opC, ho]
    repeat' first
      | rfl
      | split
  | nilCheck x =>
    refine cls_pure (x := opC P (fun _ _ _ _ => none) lo sand o env [] [] (fun v _ _ => some v)) (fun F2 G2 k' => ?_) h
    simp only [opC, ho]
    repeat' first
      | rfl
      | split
  | binOp op t x y yt =>
    refine cls_pure (x := opC P (fun _ _ _ _ => none) lo sand o env [] [] (fun v _ _ => some v)) (fun F2 G2 k' => ?_) h
    simp only [opC, ho]
    split
    · split
      · rw [softC_param]
      · rw [binC_param]
    · rfl
  | unOp op t x =>
    refine cls_pure (x := opC P (fun _ _ _ _ => none) lo sand o env [] [] (fun v _ _ => some v)) (fun F2 G2 k' => ?_) h
    simp only [opC, ho]
    split
    · rw [unC_param]
    · rfl
  | makeInterface t x =>
    refine cls_pure (x := opC P (fun _ _ _ _ => none) lo sand o env [] [] (fun v _ _ => some v)) (fun F2 G2 k' => ?_) h
    simp only [opC, ho]
    repeat' first
      | rfl
      | split
  | makeFunc fn fi ca =>
    cases fn with
    | func f =>
      refine cls_pure (x := opC P (fun _ _ _ _ => none) lo sand o env [] [] (fun v _ _ => some v)) (fun F2 G2 k' => ?_) h
      simp only [opC, ho]
      repeat' first
        | rfl
        | split
    | _ => simp [opC, ho] at h
  | fieldAddr t x f =>
    refine cls_pure (x := opC P (fun _ _ _ _ => none) lo sand o env [] [] (fun v _ _ => some v)) (fun F2 G2 k' => ?_) h
    simp only [opC, ho]
    repeat' first
      | rfl
      | split
  | field t x f =>
    refine cls_pure (x := opC P (fun _ _ _ _ => none) lo sand o env [] [] (fun v _ _ => some v)) (fun F2 G2 k' => ?_) h
    simp only [opC, ho]
    repeat' first
      | rfl
      | split
  | indexAddr t x y =>
    refine cls_pure (x := opC P (fun _ _ _ _ => none) lo sand o env [] [] (fun v _ _ => some v)) (fun F2 G2 k' => ?_) h
    simp only [opC, ho]
    repeat' first
      | rfl
      | split
  | index t x y =>
    refine cls_pure (x := opC P (fun _ _ _ _ => none) lo sand o env [] [] (fun v _ _ => some v)) (fun F2 G2 k' => ?_) h
    simp only [opC, ho]
    repeat' first
      | rfl
      | (rw [cond_bind]; rfl)
      | split
  | extract x i =>
    refine cls_pure (x := opC P (fun _ _ _ _ => none) lo sand o env [] [] (fun v _ _ => some v)) (fun F2 G2 k' => ?_) h
    simp only [opC, ho]
    repeat' first
      | rfl
      | split
  | load t x =>
    simp only
    have h0 := h
    simp only [opC, ho] at h
    split at h
    · rename_i a ha
      rw [ha]
      obtain ⟨v, h1, h2⟩ := (by rw [loadC_param] at h; cases hv : loadC P t a F G some with | none => rw [hv] at h; cases h | some v => exact ⟨v, rfl, trivial⟩ : ∃ v, loadC P t a F G some = some v ∧ True)
      have key : ∀ F2 G2, loadC P t a F2 G2 some = some v → OpTo P O lo sand o env F2 G2 v F2 G2 := fun F2 G2 hq k' => by
        simp only [opC, ho, ha]
        rw [loadC_param, hq]; rfl
      cases a with
      | loc b i => exact ⟨v, fun F2 G2 hb => key F2 G2 (by rw [loadC_loc hb]; exact h1)⟩
      | ptr p => exact ⟨v, fun F2 => key F2 G (by rw [loadC_ptr (F := F)]; exact h1)⟩
      | _ => trivial
    · cases h
  | store t x y =>
    simp only
    simp only [opC, ho] at h
    split at h
    · rename_i a v ha hv
      rw [ha]
      unfold storeC at h
      split at h
      · rename_i hc
        cases a with
        | loc b i =>
          simp only at h
          split at h
          · rename_i cs hcs
            split at h
            · rename_i hl
              refine ⟨undefI, splice cs i v.cells, (List.getElem?_eq_some_iff.1 hcs).1, fun F2 G2 hb k' => ?_⟩
              simp only [opC, ho, ha, hv, storeC, hb, hcs]
              rw [if_pos hc, if_pos hl]
            · cases h
          · cases h
        | ptr p =>
          cases p with
          | none => cases h
          | some p =>
            simp only at h
            split at h
            · rename_i hn
              split at h
              · rename_i G' hG
                refine ⟨undefI, G', fun F2 k' => ?_⟩
                simp only [opC, ho, ha, hv, storeC, hG]
                rw [if_pos hc, if_pos hn]
              · cases h
            · cases h
        | _ => cases h
      · cases h
    · cases h
  | alloc t =>
    simp only
    simp only [opC, ho] at h
    split at h
    · rename_i v hv
      unfold allocC at h
      split at h
      · rename_i hl
        rw [if_pos hl]
        exact ⟨v.cells, fun F2 G2 k' => by simp only [opC, ho, hv, allocC]; rw [if_pos hl]⟩
      · rename_i hl
        rw [if_neg hl]
        split at h
        · rename_i hn
          exact ⟨_, _, fun F2 k' => by simp only [opC, ho, hv, allocC]; rw [if_neg hl, if_pos hn]⟩
        · cases h
    · cases h
  | box t x =>
    simp only
    simp only [opC, ho] at h
    split at h
    · rename_i v hv
      unfold allocC at h
      split at h
      · rename_i hl
        rw [if_pos hl]
        exact ⟨v.cells, fun F2 G2 k' => by simp only [opC, ho, hv, allocC]; rw [if_pos hl]⟩
      · rename_i hl
        rw [if_neg hl]
        split at h
        · rename_i hn
          exact ⟨_, _, fun F2 k' => by simp only [opC, ho, hv, allocC]; rw [if_neg hl, if_pos hn]⟩
        · cases h
    · cases h
  | makeSlice t l c =>
    refine cls_g (x := opC P (fun _ _ _ _ => none) lo sand o env [] G (fun v _ G => some (v, G))) (fun F2 k' => ?_) h
    simp only [opC, ho]
    repeat' first
      | rfl
      | (rw [cond_bind]; rfl)
      | split
  | buildSlice t n ps =>
    refine cls_g (x := opC P (fun _ _ _ _ => none) lo sand o env [] G (fun v _ G => some (v, G))) (fun F2 k' => ?_) h
    simp only [opC, ho]
    repeat' first
      | rfl
      | split
  | convert s d x =>
    simp only
    split
    · refine cls_g (x := opC P (fun _ _ _ _ => none) lo sand o env [] G (fun v _ G => some (v, G))) (fun F2 k' => ?_) h
      simp only [opC, ho]
      split
      · rw [convC_param]
      · rfl
    · rename_i hsl
      simp only [Bool.or_eq_true, not_or, Bool.not_eq_true] at hsl
      refine cls_pure (x := opC P (fun _ _ _ _ => none) lo sand o env [] [] (fun v _ _ => some v)) (fun F2 G2 k' => ?_) h
      simp only [opC, ho]
      split
      · unfold convC
        have n1 : ∀ e, P.underlying s ≠ some (.slice e) := fun e he => by simp [sliceT, he] at hsl
        have n2 : ∀ e, P.underlying d ≠ some (.slice e) := fun e he => by simp [sliceT, he] at hsl
        repeat' first
          | rfl
          | (rename_i hh _; exact absurd hh (n2 _))
          | (rename_i hh; exact absurd hh (n2 _))
          | (rename_i hh _; exact absurd hh (n1 _))
          | (rename_i hh; exact absurd hh (n1 _))
          | (rename_i hh1 hh2; exact absurd hh1 (n2 _))
          | (rename_i hh1 hh2; exact absurd hh1 (n1 _))
          | (rename_i hh1 hh2 _; exact absurd hh1 (n2 _))
          | (rename_i hh1 hh2 _; exact absurd hh1 (n1 _))
          | split
      · rfl
  | slice t x l hh mx =>
    have key : ∀ F2 (k' : IV → List (List IV) → GH → Option R), opC P O lo sand o env F2 G k' = (opC P (fun _ _ _ _ => none) lo sand o env [] G (fun v _ _ => some v)).bind fun v => k' v F2 G := fun F2 k' => by
      simp only [opC, ho]
      repeat' first
        | rfl
        | (rw [cond_bind]; rfl)
        | split
    show ∃ v, ∀ F2, OpTo P O lo sand o env F2 G v F2 G
    rw [key] at h
    cases hx : opC P (fun _ _ _ _ => none) lo sand o env [] G (fun v _ _ => some v) with
    | none => rw [hx] at h; cases h
    | some v => exact ⟨v, fun F2 k' => by rw [key, hx]; rfl⟩
  | call c =>
    cases hcc : c.callee with
    | builtin b =>
      have gen : Cls P O lo sand o env F G .wg := by
        refine cls_g (x := opC P (fun _ _ _ _ => none) lo sand o env [] G (fun v _ G => some (v, G))) (fun F2 k' => ?_) h
        simp only [opC, ho, hcc]
        split
        · rw [builtinC_param]
        · rfl
      simp only [hcc]
      cases b with
      | len =>
        refine cls_pure (x := opC P (fun _ _ _ _ => none) lo sand o env [] [] (fun v _ _ => some v)) (fun F2 G2 k' => ?_) h
        simp only [opC, ho, hcc]
        split
        · unfold builtinC
          simp only
          repeat' first
            | rfl
            | split
        · rfl
      | max =>
        refine cls_pure (x := opC P (fun _ _ _ _ => none) lo sand o env [] [] (fun v _ _ => some v)) (fun F2 G2 k' => ?_) h
        simp only [opC, ho, hcc]
        split
        · unfold builtinC
          simp only
          split
          · rw [minmaxC_param]
          · rfl
        · rfl
      | min =>
        refine cls_pure (x := opC P (fun _ _ _ _ => none) lo sand o env [] [] (fun v _ _ => some v)) (fun F2 G2 k' => ?_) h
        simp only [opC, ho, hcc]
        split
        · unfold builtinC
          simp only
          split
          · rw [minmaxC_param]
          · rfl
        · rfl
      | _ => exact gen
    | value f =>
      simp only [opC, ho, hcc] at h
      simp only [hcc]
      split at h
      · rename_i args hargs
        split at h
        · rename_i fid caps hf
          split at h
          · rename_i hnl
            cases sand
            · simp only [Bool.false_eq_true, if_false] at h ⊢
              obtain ⟨v, G', hv⟩ := hN _ _ _ _ _ h
              rw [hv] at h
              refine ⟨v, G', fun F2 k' => ?_⟩
              simp only [opC, ho, hcc, hargs, hf, hnl, if_true, Bool.false_eq_true, if_false]
              rw [hv]
              exact castT_nat h _
            · simp only [if_true] at h ⊢
              obtain ⟨v, G', hv⟩ := hN _ _ _ _ _ h
              rw [hv] at h
              have h1 := castT_out h
              split at h1
              · rename_i hfl
                refine ⟨v, fun F2 k' => ?_⟩
                simp only [opC, ho, hcc, hargs, hf, hnl, if_true]
                rw [hv, castT_nat h]
                rw [if_pos hfl]
              · cases h1
          · cases h
        · cases h
      · cases h
    | invoke x n => simp only [opC, ho, hcc] at h; split at h <;> cases h
  | _ => simp [opC, ho] at h
end
end Go.LI

/-! Operations that stand apart change places. -/
set_option linter.unusedVariables false
namespace Go.LI
open Go Go.RowKit

section
variable {R : Type} {P : Program} {O : Ora R} {lo : List Nat} {sand : Bool}

theorem ClsG.mono {T T' : List (List IV) → GH → IV → List (List IV) → GH → Prop} (h : ∀ F G v F' G', T F G v F' G' → T' F G v F' G') {F : List (List IV)} {G : GH} : ∀ {f : Fp}, ClsG T F G f → ClsG T' F G f
  | .none, ⟨v, q⟩ => ⟨v, fun F2 G2 => h _ _ _ _ _ (q F2 G2)⟩
  | .rf _, ⟨v, q⟩ => ⟨v, fun F2 G2 e => h _ _ _ _ _ (q F2 G2 e)⟩
  | .rg, ⟨v, q⟩ => ⟨v, fun F2 => h _ _ _ _ _ (q F2)⟩
  | .wf _, ⟨v, cs, hb, q⟩ => ⟨v, cs, hb, fun F2 G2 e => h _ _ _ _ _ (q F2 G2 e)⟩
  | .nf, ⟨cs, q⟩ => ⟨cs, fun F2 G2 => h _ _ _ _ _ (q F2 G2)⟩
  | .wg, ⟨v, G', q⟩ => ⟨v, G', fun F2 => h _ _ _ _ _ (q F2)⟩
  | .bad, _ => trivial

theorem boxNe_ne {n : Option Nat} {b : Nat} (h : boxNe n b = true) : ∃ m, n = some m ∧ m ≠ b := by
  cases n with
  | none => cases h
  | some m => exact ⟨m, rfl, by simpa [boxNe] using h⟩

/-- Two steps whose footprints go together. -/
theorem comm2 {Tx Ty : List (List IV) → GH → IV → List (List IV) → GH → Prop} {F : List (List IV)} {G : GH} {fx fy : Fp} {nx ny : Option Nat} (hx : ClsG Tx F G fx)
    (hy : ∀ v1 F1 G1, Tx F G v1 F1 G1 → ClsG Ty F1 G1 fy) (hc : fpOk nx ny fx fy = true)
    (hbx : fx = .nf → ∀ cs, Tx F G (.loc F.length 0) (F ++ [cs]) G → ∀ n, nx = some n → n = F.length)
    (hby : fy = .nf → ∀ v1 F1 G1 cs, Tx F G v1 F1 G1 → Ty F1 G1 (.loc F1.length 0) (F1 ++ [cs]) G1 → ∀ n, ny = some n → n = F1.length) :
    ∃ v1 F1 G1 v2 F2 G2 Fa Ga, Tx F G v1 F1 G1 ∧ Ty F1 G1 v2 F2 G2 ∧ Ty F G v2 Fa Ga ∧ Tx Fa Ga v1 F2 G2 := by
  have app : ∀ {F : List (List IV)} {cs : List IV} {b : Nat}, F.length ≠ b → (F ++ [cs])[b]? = F[b]? := fun {F cs b} h => by
    rcases Nat.lt_or_ge b F.length with h1 | h1
    · rw [List.getElem?_append_left h1]
    · rw [List.getElem?_eq_none (by simp; omega), List.getElem?_eq_none h1]
  cases fx with
  | bad => cases fy <;> cases hc
  | none =>
    obtain ⟨v, q⟩ := hx
    have h := hy _ _ _ (q F G)
    cases fy with
    | bad => cases hc
    | none => obtain ⟨u, p⟩ := h; exact ⟨v, F, G, u, F, G, F, G, q F G, p _ _, p _ _, q _ _⟩
    | rf b => obtain ⟨u, p⟩ := h; exact ⟨v, F, G, u, F, G, F, G, q F G, p _ _ rfl, p _ _ rfl, q _ _⟩
    | rg => obtain ⟨u, p⟩ := h; exact ⟨v, F, G, u, F, G, F, G, q F G, p _, p _, q _ _⟩
    | wf b => obtain ⟨u, cs, hb, p⟩ := h; exact ⟨v, F, G, u, _, G, _, G, q F G, p _ _ rfl, p _ _ rfl, q _ _⟩
    | nf => obtain ⟨cs, p⟩ := h; exact ⟨v, F, G, _, _, G, _, G, q F G, p _ _, p _ _, q _ _⟩
    | wg => obtain ⟨u, G', p⟩ := h; exact ⟨v, F, G, u, F, G', F, G', q F G, p _, p _, q _ _⟩
  | rf b =>
    obtain ⟨v, q⟩ := hx
    have q0 := q F G rfl
    have h := hy _ _ _ q0
    cases fy with
    | bad => cases hc
    | none => obtain ⟨u, p⟩ := h; exact ⟨v, F, G, u, F, G, F, G, q0, p _ _, p _ _, q0⟩
    | rf b => obtain ⟨u, p⟩ := h; exact ⟨v, F, G, u, F, G, F, G, q0, p _ _ rfl, p _ _ rfl, q0⟩
    | rg => obtain ⟨u, p⟩ := h; exact ⟨v, F, G, u, F, G, F, G, q0, p _, p _, q0⟩
    | wf b' =>
      obtain ⟨u, cs, hb, p⟩ := h
      have hne : b ≠ b' := by simpa [fpOk] using hc
      exact ⟨v, F, G, u, _, G, _, G, q0, p _ _ rfl, p _ _ rfl, q _ _ (List.getElem?_set_ne (Ne.symm hne))⟩
    | nf =>
      obtain ⟨cs, p⟩ := h
      obtain ⟨n, h1, h2⟩ := boxNe_ne (by simpa [fpOk] using hc)
      have := hby rfl _ _ _ cs q0 (p _ _) n h1
      exact ⟨v, F, G, _, _, G, _, G, q0, p _ _, p _ _, q _ _ (app (by omega))⟩
    | wg => obtain ⟨u, G', p⟩ := h; exact ⟨v, F, G, u, F, G', F, G', q0, p _, p _, q _ _ rfl⟩
  | rg =>
    obtain ⟨v, q⟩ := hx
    have q0 := q F
    have h := hy _ _ _ q0
    cases fy with
    | bad => cases hc
    | none => obtain ⟨u, p⟩ := h; exact ⟨v, F, G, u, F, G, F, G, q0, p _ _, p _ _, q0⟩
    | rf b => obtain ⟨u, p⟩ := h; exact ⟨v, F, G, u, F, G, F, G, q0, p _ _ rfl, p _ _ rfl, q0⟩
    | rg => obtain ⟨u, p⟩ := h; exact ⟨v, F, G, u, F, G, F, G, q0, p _, p _, q0⟩
    | wf b' => obtain ⟨u, cs, hb, p⟩ := h; exact ⟨v, F, G, u, _, G, _, G, q0, p _ _ rfl, p _ _ rfl, q _⟩
    | nf => obtain ⟨cs, p⟩ := h; exact ⟨v, F, G, _, _, G, _, G, q0, p _ _, p _ _, q _⟩
    | wg => cases hc
  | wf b =>
    obtain ⟨v, cs, hb, q⟩ := hx
    have q0 := q F G rfl
    have h := hy _ _ _ q0
    cases fy with
    | bad => cases hc
    | none => obtain ⟨u, p⟩ := h; exact ⟨v, _, G, u, _, G, F, G, q0, p _ _, p _ _, q0⟩
    | rf b' =>
      obtain ⟨u, p⟩ := h
      have hne : b ≠ b' := by simpa [fpOk] using hc
      exact ⟨v, _, G, u, _, G, F, G, q0, p _ _ rfl, p _ _ (List.getElem?_set_ne hne).symm, q0⟩
    | rg => obtain ⟨u, p⟩ := h; exact ⟨v, _, G, u, _, G, F, G, q0, p _, p _, q0⟩
    | wf b' =>
      obtain ⟨u, cs', hb', p⟩ := h
      have hne : b ≠ b' := by simpa [fpOk] using hc
      exact ⟨v, _, G, u, _, G, _, G, q0, p _ _ rfl, p _ _ (List.getElem?_set_ne hne).symm, by
        rw [List.set_comm _ _ hne]; exact q _ _ (List.getElem?_set_ne (Ne.symm hne))⟩
    | nf =>
      obtain ⟨cs', p⟩ := h
      obtain ⟨n, h1, h2⟩ := boxNe_ne (by simpa [fpOk] using hc)
      have hq := hby rfl _ _ _ cs' q0 (p _ _) n h1
      refine ⟨v, _, G, _, _, G, F ++ [cs'], G, q0, p _ _, ?_, ?_⟩
      · rw [List.length_set]; exact p _ _
      · rw [← List.set_append_left _ _ hb]; exact q _ _ (app (by rw [List.length_set] at hq; omega))
    | wg => obtain ⟨u, G', p⟩ := h; exact ⟨v, _, G, u, _, G', F, G', q0, p _, p _, q _ _ rfl⟩
  | nf =>
    obtain ⟨cs, q⟩ := hx
    have q0 := q F G
    have h := hy _ _ _ q0
    cases fy with
    | bad => cases hc
    | none => obtain ⟨u, p⟩ := h; exact ⟨_, _, G, u, _, G, F, G, q0, p _ _, p _ _, q0⟩
    | rf b =>
      obtain ⟨u, p⟩ := h
      obtain ⟨n, h1, h2⟩ := boxNe_ne (by simpa [fpOk] using hc)
      have hq := hbx rfl cs q0 n h1
      exact ⟨_, _, G, u, _, G, F, G, q0, p _ _ rfl, p _ _ (app (by omega)).symm, q0⟩
    | rg => obtain ⟨u, p⟩ := h; exact ⟨_, _, G, u, _, G, F, G, q0, p _, p _, q0⟩
    | wf b =>
      obtain ⟨u, cs', hb, p⟩ := h
      obtain ⟨n, h1, h2⟩ := boxNe_ne (by simpa [fpOk] using hc)
      have hq := hbx rfl cs q0 n h1
      have hb' : b < F.length := by simp at hb; omega
      refine ⟨_, _, G, u, _, G, F.set b cs', G, q0, p _ _ rfl, p _ _ (app (by omega)).symm, ?_⟩
      rw [List.set_append_left _ _ hb']
      have := q (F.set b cs') G
      rwa [List.length_set] at this
    | nf => cases hc
    | wg => obtain ⟨u, G', p⟩ := h; exact ⟨_, _, G, u, _, G', F, G', q0, p _, p _, q _ _⟩
  | wg =>
    obtain ⟨v, G1, q⟩ := hx
    have q0 := q F
    have h := hy _ _ _ q0
    cases fy with
    | bad => cases hc
    | none => obtain ⟨u, p⟩ := h; exact ⟨v, F, G1, u, F, G1, F, G, q0, p _ _, p _ _, q0⟩
    | rf b => obtain ⟨u, p⟩ := h; exact ⟨v, F, G1, u, F, G1, F, G, q0, p _ _ rfl, p _ _ rfl, q0⟩
    | rg => cases hc
    | wf b' => obtain ⟨u, cs, hb, p⟩ := h; exact ⟨v, F, G1, u, _, G1, _, G, q0, p _ _ rfl, p _ _ rfl, q _⟩
    | nf => obtain ⟨cs, p⟩ := h; exact ⟨v, F, G1, _, _, G1, _, G, q0, p _ _, p _ _, q _⟩
    | wg => cases hc
end
end Go.LI

/-! A region whose order is drawn: operations that are not ordered stand apart. -/
set_option linter.unusedVariables false
namespace Go.LI
open Go Go.RowKit

section
variable {R : Type} {P : Program} {O : Ora R} {lo : List Nat} {sand : Bool} {all : Array Oper}

/-- One step, carried out or passed over. -/
def StepTo (P : Program) (O : Ora R) (lo : List Nat) (sand : Bool) (all : Array Oper) (o : Oper) (env : List IV) (F : List (List IV)) (G : GH) (v : IV) (F' : List (List IV)) (G' : GH) : Prop :=
  (wantI all o env = some true ∧ OpTo P O lo sand o env F G v F' G') ∨ (wantI all o env = some false ∧ v = undefI ∧ F' = F ∧ G' = G)

theorem StepTo.eq {o : Oper} {env : List IV} {F F' : List (List IV)} {G G' : GH} {v : IV} (h : StepTo P O lo sand all o env F G v F' G') (os : List Oper) (k : List IV → List (List IV) → GH → Option R) :
    opsC P O lo sand all (o :: os) env F G k = opsC P O lo sand all os (putI env o.dst v) F' G' k := by
  rcases h with ⟨hw, h⟩ | ⟨hw, rfl, rfl, rfl⟩
  · rw [opsC_cons, hw]; simp only; rw [h]
  · rw [opsC_cons, hw]
theorem step_run {o : Oper} {env : List IV} {F F' : List (List IV)} {G G' : GH} {v : IV} (hw : wantI all o env = some true) (h : OpTo P O lo sand o env F G v F' G') : StepTo P O lo sand all o env F G v F' G' := .inl ⟨hw, h⟩
theorem step_pass {o : Oper} {env : List IV} (hw : wantI all o env = some false) (F : List (List IV)) (G : GH) : StepTo P O lo sand all o env F G undefI F G := .inr ⟨hw, rfl, rfl, rfl⟩

theorem step_nat (hN : NatO O) {o : Oper} {os : List Oper} {env : List IV} {F : List (List IV)} {G : GH} {k : List IV → List (List IV) → GH → Option R} {r : R} (h : opsC P O lo sand all (o :: os) env F G k = some r) :
    ∃ v F' G', StepTo P O lo sand all o env F G v F' G' := by
  rw [opsC_cons] at h
  cases hw : wantI all o env with
  | none => rw [hw] at h; cases h
  | some b =>
    rw [hw] at h
    cases b
    · exact ⟨_, _, _, step_pass hw F G⟩
    · obtain ⟨v, F1, G1, h1⟩ := op_nat hN h
      exact ⟨v, F1, G1, step_run hw h1⟩

theorem step_cls (hN : NatO O) {o : Oper} {os : List Oper} {env : List IV} {F : List (List IV)} {G : GH} {k : List IV → List (List IV) → GH → Option R} {r : R} (h : opsC P O lo sand all (o :: os) env F G k = some r) :
    ClsG (StepTo P O lo sand all o env) F G (fpW P lo sand all env o) := by
  rw [opsC_cons] at h
  unfold fpW
  cases hw : wantI all o env with
  | none => rw [hw] at h; cases h
  | some b =>
    rw [hw] at h
    cases b
    · exact ⟨undefI, fun F2 G2 => step_pass hw F2 G2⟩
    · exact (op_cls hN h).mono fun F G v F' G' q => step_run hw q

theorem wantI_env {o : Oper} {env env2 : List IV} (h : ∀ t, t ∈ opAddrs all o → env[t]? = env2[t]?) : wantI all o env = wantI all o env2 := by
  unfold wantI
  cases hg : o.guard with
  | none => rfl
  | some jw =>
    obtain ⟨j, want⟩ := jw
    simp only
    cases hd : (all[j]?).bind (·.dst) with
    | none => rfl
    | some d =>
      simp only
      rw [h d (by simp [opAddrs, hg, hd])]
theorem fpOp_env {o : Oper} {env env2 : List IV} (h : ∀ t, t ∈ opAddrs all o → env[t]? = env2[t]?) : fpOp P lo sand env o = fpOp P lo sand env2 o := by
  unfold fpOp
  cases ho : o.op with
  | load t x =>
    simp only
    rw [ev_env (env := env) (env2 := env2) (x := x) (fun t ht => h t (by simp [opAddrs, ho, ht]))]
  | store t x y =>
    simp only
    rw [ev_env (env := env) (env2 := env2) (x := x) (fun t ht => h t (by simp [opAddrs, ho, ht]))]
  | _ => rfl
theorem fpW_env {o : Oper} {env env2 : List IV} (h : ∀ t, t ∈ opAddrs all o → env[t]? = env2[t]?) : fpW P lo sand all env o = fpW P lo sand all env2 o := by
  unfold fpW
  rw [wantI_env h, fpOp_env h]

theorem put_get_ne {env : List IV} {dst : Option Tmp} {v : IV} {t : Nat} (h : ∀ d, dst = some d → d ≠ t) : (putI env dst v)[t]? = env[t]? := by
  cases dst with
  | none => rfl
  | some d => simp [putI, List.getElem?_set_ne (h d rfl)]
theorem put_commI {env : List IV} {d1 d2 : Option Tmp} {v1 v2 : IV} (h : ∀ d, d1 = some d → d2 ≠ some d) : putI (putI env d1 v1) d2 v2 = putI (putI env d2 v2) d1 v1 := by
  cases d1 with
  | none => rfl
  | some d1 =>
    cases d2 with
    | none => rfl
    | some d2 =>
      have := h d1 rfl
      simp only [putI]
      exact List.set_comm _ _ (fun e => this (by rw [e]))

/-- What an operation looks at. -/
theorem step_env {o : Oper} {env env2 : List IV} (h : ∀ t, t ∈ o.looksAt all → env[t]? = env2[t]?) {F F' : List (List IV)} {G G' : GH} {v : IV} (hs : StepTo P O lo sand all o env F G v F' G') :
    StepTo P O lo sand all o env2 F G v F' G' := by
  have hop : ∀ t, Operand.tmp t ∈ o.op.operands → env[t]? = env2[t]? := fun t ht => h t (by
    unfold Oper.looksAt
    refine List.mem_append.2 (.inl (List.mem_filterMap.2 ⟨.tmp t, by simpa using ht, rfl⟩)))
  have hw : wantI all o env = wantI all o env2 := by
    unfold wantI
    cases hg : o.guard with
    | none => rfl
    | some jw =>
      obtain ⟨j, want⟩ := jw
      simp only
      cases hd : (all[j]?).bind (·.dst) with
      | none => rfl
      | some d =>
        simp only
        rw [h d (by simp [Oper.looksAt, hg, hd])]
  rcases hs with ⟨h1, h2⟩ | ⟨h1, h2⟩
  · exact .inl ⟨hw ▸ h1, fun k => by rw [← opC_env hop]; exact h2 k⟩
  · exact .inr ⟨hw ▸ h1, h2⟩

theorem addrs_looks {o : Oper} {t : Tmp} (h : t ∈ opAddrs all o) : t ∈ o.looksAt all := by
  unfold opAddrs at h
  unfold Oper.looksAt
  rcases List.mem_append.1 h with h | h
  · refine List.mem_append.2 (.inl (List.mem_filterMap.2 ⟨.tmp t, ?_, rfl⟩))
    split at h
    · rename_i ty t' ho
      simp at h; subst h
      simp [ho, Op.operands]
    · rename_i ty t' vv ho
      simp at h; subst h
      simp [ho, Op.operands]
    · rename_i c ho
      split at h
      · rename_i t' u' hcc hca
        have hm : Operand.tmp t ∈ c.args.toList := by
          rw [hca]
          simp only [List.mem_cons, List.not_mem_nil, or_false] at h ⊢
          rcases h with h | h
          · exact .inl (by rw [h])
          · exact .inr (by rw [h])
        simp only [ho, Op.operands]
        unfold Call.operands
        rw [Array.toList_append]
        exact List.mem_append.2 (.inr hm)
      · cases h
    · cases h
  · exact List.mem_append.2 (.inr h)

/-- What none of them sets stays as it is. -/
theorem keep_ops (hN : NatO O) (r : R) {d : Nat} : ∀ {os : List Oper} {env E : List IV} {F F' : List (List IV)} {G G' : GH}, OpsTo P O lo sand all os env F G E F' G' → (∀ o ∈ os, o.dst ≠ some d) → E[d]? = env[d]?
  | [], env, E, F, F', G, G', h, _ => by
    classical
    have := h fun e _ _ => if e[d]? = env[d]? then some r else none
    simp only [opsC, if_true] at this
    by_cases hc : E[d]? = env[d]?
    · exact hc
    · rw [if_neg hc] at this; cases this
  | o :: os, env, E, F, F', G, G', h, hd => by
    obtain ⟨v, F1, G1, h1⟩ := step_nat hN (h fun _ _ _ => some r)
    have h2 : OpsTo P O lo sand all os (putI env o.dst v) F1 G1 E F' G' := fun k => by rw [← h1.eq]; exact h k
    rw [keep_ops hN r h2 fun o ho => hd o (by simp [ho])]
    exact put_get_ne fun d' hd' => fun e => hd o (by simp) (by rw [hd', e])

theorem late_spec {x y : Oper} (h : lateOk all x y = true) : (∀ t, t ∈ opAddrs all x → y.dst ≠ some t) ∧ (isAlloc x.op = true → ∀ d, x.dst = some d → y.dst ≠ some d) := by
  unfold lateOk at h
  cases hd : y.dst with
  | none => simp
  | some d =>
    rw [hd] at h
    simp only [Bool.and_eq_true, Bool.not_eq_true', List.contains_eq_mem, decide_eq_false_iff_not] at h
    refine ⟨fun t ht e => ?_, fun ha d' hd' e => ?_⟩
    · injection e with e; subst e; exact h.1 ht
    · injection e with e; subst e
      have := h.2
      rw [ha, hd'] at this
      simp at this
theorem self_spec {x : Oper} (h : selfOk all x = true) : ∀ t, t ∈ opAddrs all x → x.dst ≠ some t := by
  unfold selfOk at h
  cases hd : x.dst with
  | none => simp
  | some d =>
    rw [hd] at h
    simp only [Bool.not_eq_true', List.contains_eq_mem, decide_eq_false_iff_not] at h
    intro t ht e
    injection e with e; subst e; exact h ht

theorem box_is {E : List IV} {o : Oper} {n : Nat} (h : boxOf E o = some n) : isAlloc o.op = true ∧ ∃ d i, o.dst = some d ∧ E[d]? = some (.loc n i) := by
  unfold boxOf at h
  split at h
  · rename_i ha
    split at h
    · rename_i d hd
      split at h
      · rename_i n' i hE
        injection h with h; subst h
        exact ⟨ha, d, i, hd, hE⟩
      · cases h
    · cases h
  · cases h

/-- Two neighbours change places. -/
theorem swap_ops (hN : NatO O) (r : R) {x y : Oper} {rest : List Oper} {env E : List IV} {F F' : List (List IV)} {G G' : GH} (H : OpsTo P O lo sand all (x :: y :: rest) env F G E F' G')
    (hap : x.apart all y = true) (hp : pairOk P lo sand all E x y = true) (hxs : selfOk all x = true) (hys : selfOk all y = true) (hxl : ∀ z ∈ y :: rest, lateOk all x z = true) (hyl : ∀ z ∈ rest, lateOk all y z = true) :
    OpsTo P O lo sand all (y :: x :: rest) env F G E F' G' := by
  obtain ⟨a1, a2, a3⟩ := Oper.apart_spec hap
  have Hs := H fun _ _ _ => some r
  have kx : ∀ t, t ∈ opAddrs all x → env[t]? = E[t]? := fun t ht => (keep_ops hN r H fun o ho => by
    rcases List.mem_cons.1 ho with rfl | ho
    · exact self_spec hxs t ht
    · exact (late_spec (hxl o ho)).1 t ht).symm
  have ky : ∀ t, t ∈ opAddrs all y → env[t]? = E[t]? := fun t ht => (keep_ops hN r H fun o ho => by
    rcases List.mem_cons.1 ho with rfl | ho
    · exact fun e => a1 t e (addrs_looks ht)
    · rcases List.mem_cons.1 ho with rfl | ho
      · exact self_spec hys t ht
      · exact (late_spec (hyl o ho)).1 t ht).symm
  have cx := step_cls hN Hs
  rw [fpW_env kx] at cx
  have yenv : ∀ v t, t ∈ y.looksAt all → (putI env x.dst v)[t]? = env[t]? := fun v t ht => put_get_ne fun d hd e => a1 d hd (e ▸ ht)
  have xenv : ∀ v t, t ∈ x.looksAt all → env[t]? = (putI env y.dst v)[t]? := fun v t ht => (put_get_ne fun d hd e => a3 d hd (e ▸ ht)).symm
  have after : ∀ {v1 F1 G1}, StepTo P O lo sand all x env F G v1 F1 G1 → OpsTo P O lo sand all (y :: rest) (putI env x.dst v1) F1 G1 E F' G' := fun h k => by rw [← h.eq]; exact H k
  have cy : ∀ v1 F1 G1, StepTo P O lo sand all x env F G v1 F1 G1 → ClsG (StepTo P O lo sand all y env) F1 G1 (fpW P lo sand all E y) := fun v1 F1 G1 h1 => by
    have h2 := step_cls hN (after h1 fun _ _ _ => some r)
    have he : fpW P lo sand all (putI env x.dst v1) y = fpW P lo sand all E y := fpW_env fun t ht => by rw [yenv v1 t (addrs_looks ht), ky t ht]
    rw [he] at h2
    exact h2.mono fun _ _ _ _ _ q => step_env (yenv v1) q
  have put_self : ∀ {e : List IV} {d : Nat} {v w : IV}, (putI e (some d) v)[d]? = some w → w = v := fun {e d v w} h => by
    simp only [putI, List.getElem?_set] at h
    split at h
    · split at h
      · injection h with h; exact h.symm
      · cases h
    · contradiction
  obtain ⟨v1, F1, G1, v2, F2, G2, Fa, Ga, s1, s2, s3, s4⟩ := comm2 cx cy hp
    (fun _ cs h1 n hn => by
      obtain ⟨ha, d, i, hd, hE⟩ := box_is hn
      rw [keep_ops hN r (after h1) fun o ho => (late_spec (hxl o ho)).2 ha d hd, hd] at hE
      have := put_self hE
      injection this)
    (fun _ u1 F1 G1 cs h1 h2 n hn => by
      obtain ⟨ha, d, i, hd, hE⟩ := box_is hn
      have h2' : StepTo P O lo sand all y (putI env x.dst u1) F1 G1 (.loc F1.length 0) (F1 ++ [cs]) G1 := step_env (fun t ht => (yenv u1 t ht).symm) h2
      have h3 : OpsTo P O lo sand all rest (putI (putI env x.dst u1) y.dst (.loc F1.length 0)) (F1 ++ [cs]) G1 E F' G' := fun k => by rw [← h2'.eq]; exact after h1 k
      rw [keep_ops hN r h3 fun o ho => (late_spec (hyl o ho)).2 ha d hd, hd] at hE
      have := put_self hE
      injection this)
  intro k
  have t2 : StepTo P O lo sand all y (putI env x.dst v1) F1 G1 v2 F2 G2 := step_env (fun t ht => (yenv v1 t ht).symm) s2
  have t4 : StepTo P O lo sand all x (putI env y.dst v2) Fa Ga v1 F2 G2 := step_env (xenv v2) s4
  rw [s3.eq, t4.eq, ← put_commI fun d hd => a2 d hd, ← t2.eq, ← s1.eq]
  exact H k

/-- One comes to the front. -/
theorem front_ops (hN : NatO O) (r : R) {y : Oper} {post : List Oper} {E : List IV} {F' : List (List IV)} {G' : GH} : ∀ {pre : List Oper} {env : List IV} {F : List (List IV)} {G : GH}, OpsTo P O lo sand all (pre ++ y :: post) env F G E F' G' →
    (∀ x ∈ pre, x.apart all y = true ∧ pairOk P lo sand all E x y = true) → (pre ++ y :: post).Pairwise (fun x z => lateOk all x z = true) → (∀ x ∈ pre ++ y :: post, selfOk all x = true) →
    OpsTo P O lo sand all (y :: (pre ++ post)) env F G E F' G'
  | [], env, F, G, H, _, _, _ => H
  | x :: pre, env, F, G, H, hx, hl, hs => by
    obtain ⟨v, F1, G1, h1⟩ := step_nat hN (H fun _ _ _ => some r)
    have hl2 := List.pairwise_cons.1 hl
    have h2 : OpsTo P O lo sand all (pre ++ y :: post) (putI env x.dst v) F1 G1 E F' G' := fun k => by rw [← h1.eq]; exact H k
    have h3 := front_ops hN r h2 (fun z hz => hx z (by simp [hz])) hl2.2 (fun z hz => hs z (by simp only [List.cons_append, List.mem_cons]; exact .inr hz))
    have h4 : OpsTo P O lo sand all (x :: y :: (pre ++ post)) env F G E F' G' := fun k => by rw [h1.eq]; exact h3 k
    obtain ⟨p1, p2⟩ := hx x (by simp)
    refine swap_ops hN r h4 p1 p2 (hs x (by simp)) (hs y (by simp)) (fun z hz => hl2.1 z ?_) (fun z hz => ?_)
    · rcases List.mem_cons.1 hz with h | h
      · exact List.mem_append.2 (.inr (List.mem_cons.2 (.inl h)))
      · rcases List.mem_append.1 h with h | h
        · exact List.mem_append.2 (.inl h)
        · exact List.mem_append.2 (.inr (List.mem_cons.2 (.inr h)))
    · rcases List.mem_append.1 hz with h | h
      · obtain ⟨q, _⟩ := hx z (by simp [h])
        obtain ⟨b1, b2, b3⟩ := Oper.apart_spec q
        unfold lateOk
        cases hd : z.dst with
        | none => rfl
        | some d =>
          simp only [Bool.and_eq_true, Bool.not_eq_true', List.contains_eq_mem, decide_eq_false_iff_not]
          refine ⟨fun hm => b1 d hd (addrs_looks hm), ?_⟩
          have := b2 d hd
          simp [this]
      · have := (List.pairwise_append.1 hl2.2).2.1
        exact (List.pairwise_cons.1 this).1 z h
end
end Go.LI

/-! A region whose order is drawn, and whose operations stand apart. -/
set_option linter.unusedVariables false
namespace Go.LI
open Go Go.RowKit

theorem foldl_bits {acc : List Nat} {i : Nat} : ∀ {es : List Edge} {m : Nat}, (es.foldl (fun m e => if Region.binds .any e then m ||| (1 <<< e.on) ||| acc.getD e.on 0 else m) m).testBit i = true →
    m.testBit i = true ∨ ∃ e ∈ es, Region.binds .any e = true ∧ (e.on = i ∨ (acc.getD e.on 0).testBit i = true)
  | [], m, h => .inl h
  | e :: es, m, h => by
    simp only [List.foldl_cons] at h
    rcases foldl_bits h with h | ⟨x, hx, h⟩
    · split at h
      · rename_i hb
        simp only [Nat.testBit_or, Bool.or_eq_true] at h
        rcases h with (h | h) | h
        · exact .inl h
        · refine .inr ⟨e, by simp, hb, .inl ?_⟩
          rw [Nat.one_shiftLeft, Nat.testBit_two_pow] at h
          simpa using h
        · exact .inr ⟨e, by simp, hb, .inr h⟩
      · exact .inl h
    · exact .inr ⟨x, by simp [hx], h⟩

theorem ancs_prefix : ∀ (os : List Oper) (acc : List Nat) (j : Nat), j < acc.length → (ancs os acc)[j]? = acc[j]?
  | [], acc, j, h => rfl
  | o :: os, acc, j, h => by
    simp only [ancs]
    rw [ancs_prefix os _ j (by simp; omega), List.getElem?_append_left h]

theorem bit_lt {acc : List Nat} {j i : Nat} (h : (acc.getD j 0).testBit i = true) : j < acc.length := by
  rcases Nat.lt_or_ge j acc.length with h1 | h1
  · exact h1
  · simp [List.getD, List.getElem?_eq_none h1] at h

theorem ancs_spec : ∀ (os : List Oper) (acc : List Nat) (j i : Nat), ((ancs os acc).getD j 0).testBit i = true →
    j < acc.length ∨ (acc.length ≤ j ∧ ∃ o, os[j - acc.length]? = some o ∧ ∃ e ∈ o.after.toList, Region.binds .any e = true ∧ (e.on = i ∨ ((ancs os acc).getD e.on 0).testBit i = true))
  | [], acc, j, i, h => .inl (bit_lt h)
  | o :: os, acc, j, i, h => by
    simp only [ancs] at h ⊢
    rcases Nat.lt_trichotomy j acc.length with hj | hj | hj
    · exact .inl hj
    · refine .inr ⟨by omega, o, by simp [hj], ?_⟩
      have hp := ancs_prefix os (acc ++ [ancM o acc]) j (by simp; omega)
      rw [List.getD, hp, hj] at h
      simp only [List.getElem?_concat_length, Option.getD_some, ancM] at h
      rcases foldl_bits h with h | ⟨e, he, hb, h⟩
      · simp at h
      · refine ⟨e, he, hb, h.imp id fun h => ?_⟩
        have hlt := bit_lt h
        rw [List.getD, ancs_prefix os _ e.on (by simp; omega), List.getElem?_append_left hlt]
        exact h
    · rcases ancs_spec os (acc ++ [ancM o acc]) j i h with h1 | ⟨h1, o', h2, h3⟩
      · simp at h1; omega
      · refine .inr ⟨by omega, o', ?_, h3⟩
        rw [List.length_append, List.length_singleton] at h2
        rw [show j - acc.length = (j - (acc.length + 1)) + 1 by omega, List.getElem?_cons_succ]
        exact h2

theorem anc_edge {ops : Array Oper} {i j : Nat} (h : ((ancs ops.toList []).getD j 0).testBit i = true) :
    ∃ o, ops[j]? = some o ∧ ∃ e ∈ o.after, Region.binds .any e = true ∧ (e.on = i ∨ ((ancs ops.toList []).getD e.on 0).testBit i = true) := by
  rcases ancs_spec ops.toList [] j i h with h | ⟨_, o, h1, e, h2, h3⟩
  · simp at h
  · exact ⟨o, by simpa using h1, e, by simpa using h2, h3⟩

structure DrawD (P : Program) (lo : List Nat) (ops : Array Oper) (E : List IV) : Prop where
  self : ∀ (j : Nat) (y : Oper), ops[j]? = some y → selfOk ops y = true
  edge : ∀ (j : Nat) (y : Oper), ops[j]? = some y → ∀ e ∈ y.after, Region.binds .any e = true → e.on < j
  late : ∀ (i j : Nat) (x y : Oper), ops[i]? = some x → ops[j]? = some y → i < j → lateOk ops x y = true
  pair : ∀ (i j : Nat) (x y : Oper), ops[i]? = some x → ops[j]? = some y → i < j → ((ancs ops.toList []).getD j 0).testBit i = false → x.apart ops y = true ∧ pairOk P lo false ops E x y = true

theorem drawD_spec {P : Program} {lo : List Nat} {ops : Array Oper} {E : List IV} (h : drawD P lo ops E = true) : DrawD P lo ops E := by
  unfold drawD at h
  have H : ∀ (j : Nat) (y : Oper), ops[j]? = some y → (selfOk ops y = true ∧ y.after.toList.all (fun e => !Region.binds .any e || decide (e.on < j)) = true) ∧ (List.range j).all (fun i => match ops[i]? with
        | none => true
        | some x => lateOk ops x y && (((ancs ops.toList []).getD j 0).testBit i || (x.apart ops y && pairOk P lo false ops E x y))) = true := fun j y hy => by
    have := List.all_eq_true.1 h j (List.mem_range.2 (Array.getElem?_eq_some_iff.1 hy).1)
    simp only [hy, Bool.and_eq_true] at this
    exact this
  have H2 : ∀ (i j : Nat) (x y : Oper), ops[i]? = some x → ops[j]? = some y → i < j → lateOk ops x y = true ∧ (((ancs ops.toList []).getD j 0).testBit i = true ∨ (x.apart ops y = true ∧ pairOk P lo false ops E x y = true)) := fun i j x y hx hy hij => by
    have := List.all_eq_true.1 (H j y hy).2 i (List.mem_range.2 hij)
    simp only [hx, Bool.and_eq_true, Bool.or_eq_true] at this
    exact this
  refine ⟨fun j y hy => (H j y hy).1.1, fun j y hy e he hb => ?_, fun i j x y hx hy hij => (H2 i j x y hx hy hij).1, fun i j x y hx hy hij hn => ?_⟩
  · have := List.all_eq_true.1 (H j y hy).1.2 e (by simpa using he)
    simpa [hb] using this
  · rcases (H2 i j x y hx hy hij).2 with h | h
    · rw [hn] at h; cases h
    · exact h

section
variable {R : Type} {P : Program} {O : Ora R} {lo : List Nat} {ops : Array Oper} {E : List IV} {F' : List (List IV)} {G' : GH} {B K : Nat → Prop} {w0 : World}

theorem opsTo_nil (r : R) {env : List IV} {F : List (List IV)} {G : GH} (h : OpsTo P O lo false ops [] env F G E F' G') : env = E ∧ F = F' ∧ G = G' := by
  classical
  have h' : ∀ k : List IV → List (List IV) → GH → Option R, k env F G = k E F' G' := h
  by_cases h1 : env = E ∧ F = F' ∧ G = G'
  · exact h1
  · have := h' fun e f g => if e = E ∧ f = F' ∧ g = G' then some r else none
    simp only [and_self, if_true] at this
    rw [if_neg h1] at this
    cases this

theorem wantI_wanted {o : Oper} {env : List IV} {b : Bool} {m : Map} {a : Act} (h : wantI ops o env = some b) (hE : ERel m env a.tmps) : Region.wanted o (yielded ops a.tmps) = b := by
  unfold wantI at h
  split at h
  · rename_i hg
    injection h with h
    simp [Region.wanted, hg, h]
  · rename_i j want hg
    split at h
    · cases h
    · rename_i d hd
      split at h
      · rename_i c hb
        injection h with h
        simp [Region.wanted, hg, yield_bool hd hb hE, ← h]
      · rename_i hb
        injection h with h
        simp [Region.wanted, hg, yield_undef hd hb hE, ← h]
      · cases h

structure Rest (ops : Array Oper) (listed : Array Bool) (rem : List (Nat × Oper)) : Prop where
  at_ : ∀ p ∈ rem, ops[p.1]? = some p.2
  sorted : rem.Pairwise (fun p q => p.1 < q.1)
  all : ∀ i o, ops[i]? = some o → listed.getD i true = false → (i, o) ∈ rem
  un : ∀ p ∈ rem, listed.getD p.1 true = false
  size : listed.size = ops.size
  down : ∀ i, listed.getD i false = true → ∀ j, ((ancs ops.toList []).getD i 0).testBit j = true → listed.getD j false = true

theorem getD_un {listed : Array Bool} {i : Nat} (h : i < listed.size) (hf : listed.getD i false = false) : listed.getD i true = false := by
  simp [h] at hf ⊢; exact hf

theorem draw_any (hO : GoodO P O) (hN : NatO O) (r : R) (hD : DrawD P lo ops E) {Q : Exit → Act → World → Prop} : ∀ (n : Nat) (rem : List (Nat × Oper)) (listed : Array Bool) (a : Act) (w : World) (env : List IV) (F : List (List IV)) (G : GH) (m : Map),
    rem.length = n → Rest ops listed rem → OpsTo P O lo false ops (rem.map (·.2)) env F G E F' G' → HRel P B K w0 m F G w → ERel m env a.tmps → After P B K w0 m E F' G' a (Q .normal) →
    wpAny P .any ops Q n listed a w
  | 0, rem, listed, a, w, env, F, G, m, hn, hr, H, hR, hE, hQ => by
    have : rem = [] := List.length_eq_zero_iff.1 hn
    subst this
    obtain ⟨rfl, rfl, rfl⟩ := opsTo_nil r H
    refine ⟨List.eq_nil_iff_forall_not_mem.2 fun i hi => ?_, hQ m w a m.le_refl hR hE rfl⟩
    obtain ⟨h1, o, h2, _⟩ := mem_ready.1 hi
    have := hr.all i o h2 h1
    cases this
  | n + 1, rem, listed, a, w, env, F, G, m, hn, hr, H, hR, hE, hQ => by
    refine ⟨fun h0 => ?_, fun i hi => ?_⟩
    · exfalso
      cases rem with
      | nil => simp at hn
      | cons p rem =>
        have hp := hr.at_ p (by simp)
        have hin : p.1 ∈ Region.ready .any ops listed := mem_ready.2 ⟨hr.un p (by simp), p.2, hp, fun e he hb => by
          have hlt := hD.edge _ _ hp e he hb
          have hpz := (Array.getElem?_eq_some_iff.1 hp).1
          cases hl : listed.getD e.on false with
          | true => rfl
          | false =>
            have h1 := hr.all e.on ops[e.on] (Array.getElem?_eq_getElem (by omega)) (getD_un (by rw [hr.size]; omega) hl)
            rcases List.mem_cons.1 h1 with h1 | h1
            · rw [← h1] at hlt; simp at hlt
            · have := (List.pairwise_cons.1 hr.sorted).1 _ h1
              simp at this; omega⟩
        rw [h0] at hin
        cases hin
    · obtain ⟨hun, o, hio, hedges⟩ := mem_ready.1 hi
      obtain ⟨pre, post, hsplit⟩ := List.append_of_mem (hr.all i o hio hun)
      have hsort := hr.sorted
      rw [hsplit] at hsort
      have hanc : ∀ j, ((ancs ops.toList []).getD i 0).testBit j = true → listed.getD j false = true := fun j hb => by
        obtain ⟨o', h1, e, he, hbd, h2⟩ := anc_edge hb
        rw [hio] at h1
        injection h1 with h1
        subst h1
        rcases h2 with h2 | h2
        · rw [← h2]; exact hedges e he hbd
        · exact hr.down e.on (hedges e he hbd) j h2
      -- it comes to the front
      have H' : OpsTo P O lo false ops (o :: (pre ++ post).map (·.2)) env F G E F' G' := by
        rw [hsplit, List.map_append, List.map_cons] at H
        rw [List.map_append]
        refine front_ops hN r H (fun x hx => ?_) ?_ (fun x hx => ?_)
        · obtain ⟨p, hp, rfl⟩ := List.mem_map.1 hx
          have hpr : p ∈ rem := by rw [hsplit]; exact List.mem_append.2 (.inl hp)
          have hlt : p.1 < i := (List.pairwise_append.1 hsort).2.2 p hp (i, o) (by simp)
          refine hD.pair p.1 i p.2 o (hr.at_ p hpr) hio hlt ?_
          cases hb : ((ancs ops.toList []).getD i 0).testBit p.1 with
          | false => rfl
          | true =>
            have h1 := hanc _ hb
            have h2 := getD_both (hr.un p hpr)
            rw [h1] at h2
            cases h2
        · rw [show pre.map (·.2) ++ o :: post.map (·.2) = (pre ++ (i, o) :: post).map (·.2) by simp, List.pairwise_map, ← hsplit]
          exact hr.sorted.imp_of_mem fun {p q} hp hq h => hD.late _ _ _ _ (hr.at_ p hp) (hr.at_ q hq) h
        · rw [show pre.map (·.2) ++ o :: post.map (·.2) = (pre ++ (i, o) :: post).map (·.2) by simp, ← hsplit] at hx
          obtain ⟨p, hp, rfl⟩ := List.mem_map.1 hx
          exact hD.self _ _ (hr.at_ p hp)
      have hi_size : i < listed.size := by rw [hr.size]; exact (Array.getElem?_eq_some_iff.1 hio).1
      have hmem : ∀ p ∈ pre ++ post, p ∈ rem ∧ p.1 ≠ i := fun p hp => by
        rw [hsplit]
        rcases List.mem_append.1 hp with h | h
        · exact ⟨List.mem_append.2 (.inl h), fun e => by
            have : p.1 < i := (List.pairwise_append.1 hsort).2.2 p h (i, o) (by simp)
            omega⟩
        · exact ⟨List.mem_append.2 (.inr (List.mem_cons.2 (.inr h))), fun e => by
            have : i < p.1 := (List.pairwise_cons.1 (List.pairwise_append.1 hsort).2.1).1 p h
            omega⟩
      have hr' : Rest ops (listed.setIfInBounds i true) (pre ++ post) := by
        refine ⟨fun p hp => hr.at_ p (hmem p hp).1, ?_, fun j oj hj hu => ?_, fun p hp => ?_, by simp [hr.size], fun j hj k hk => ?_⟩
        · refine hsort.sublist ?_
          exact List.Sublist.append_left (List.sublist_cons_self _ _) pre
        · by_cases hji : i = j
          · subst hji; simp [hi_size] at hu
          · rw [getD_set_ne true hji] at hu
            have := hr.all j oj hj hu
            rw [hsplit] at this
            rcases List.mem_append.1 this with h | h
            · exact List.mem_append.2 (.inl h)
            · rcases List.mem_cons.1 h with h | h
              · injection h with h; exact absurd h.symm hji
              · exact List.mem_append.2 (.inr h)
        · rw [getD_set_ne true (Ne.symm (hmem p hp).2)]
          exact hr.un p (hmem p hp).1
        · refine getD_set_true ?_
          by_cases hji : i = j
          · subst hji; exact hanc k hk
          · rw [getD_set_ne false hji] at hj
            exact hr.down j hj k hk
      have hlen : (pre ++ post).length = n := by
        rw [hsplit] at hn; simp at hn ⊢; omega
      unfold wpOp
      rw [hio]
      simp only
      have h0 := H' fun _ _ _ => some r
      rw [opsC_cons] at h0
      cases hw : wantI ops o env with
      | none => rw [hw] at h0; cases h0
      | some b =>
        have hwant := wantI_wanted hw hE
        rw [hw] at h0
        cases b
        · rw [hwant]
          simp only [Bool.false_eq_true, if_false]
          have hs : StepTo P O lo false ops o env F G undefI F G := step_pass hw F G
          exact draw_any hO hN r hD n (pre ++ post) _ _ w _ F G m hlen hr' (fun k => by rw [← hs.eq]; exact H' k) hR (hE.put (VRel.undef m) o.dst) fun m2 w2 a2 l q e d => hQ m2 w2 a2 l q e (d.trans (put_defers a _ _))
        · rw [hwant]
          simp only [if_true]
          simp only at h0
          obtain ⟨v, F1, G1, h1⟩ := op_nat hN h0
          have hs : StepTo P O lo false ops o env F G v F1 G1 := step_run hw h1
          classical
          have h2 : opC P O lo false o env F G (fun v' f g => if v' = v ∧ f = F1 ∧ g = G1 then some r else none) = some r := by rw [h1]; simp
          obtain ⟨v', F1', G1', h3, h4⟩ := op_sim hO h2
          split at h3
          · rename_i he
            obtain ⟨rfl, rfl, rfl⟩ := he
            refine .inl (h4 B K w0 m w a hR hE _ Q fun u w' ⟨m', q1, q2, q3⟩ => ?_)
            exact draw_any hO hN r hD n (pre ++ post) _ _ w' _ F1' G1' m' hlen hr' (fun k => by rw [← hs.eq]; exact H' k) q2 ((hE.mono q1).put q3 o.dst) fun m2 w2 a2 l q e d =>
              hQ m2 w2 a2 (Map.le_trans q1 l) q e (d.trans (put_defers a _ _))
          · cases h3

theorem rest_start : Rest ops (Array.replicate ops.size false) ((List.range ops.size).filterMap fun i => (ops[i]?).map fun o => (i, o)) where
  at_ := fun p hp => by
    obtain ⟨i, _, h⟩ := List.mem_filterMap.1 hp
    obtain ⟨o, h1, h2⟩ := Option.map_eq_some_iff.1 h
    subst h2
    exact h1
  sorted := by
    rw [List.pairwise_filterMap]
    refine (List.pairwise_lt_range (n := ops.size)).imp fun {i j} hij p hp q hq => ?_
    obtain ⟨o, h1, h2⟩ := Option.map_eq_some_iff.1 hp
    obtain ⟨o', h3, h4⟩ := Option.map_eq_some_iff.1 hq
    subst h2; subst h4
    exact hij
  all := fun i o ho hu => List.mem_filterMap.2 ⟨i, List.mem_range.2 (Array.getElem?_eq_some_iff.1 ho).1, by simp [ho]⟩
  un := fun p hp => by
    obtain ⟨i, hi, h⟩ := List.mem_filterMap.1 hp
    obtain ⟨o, h1, h2⟩ := Option.map_eq_some_iff.1 h
    subst h2
    have := List.mem_range.1 hi
    simp [this]
  size := by simp
  down := fun i hi => by rw [getD_replicate_false] at hi; cases hi

theorem start_map : ((List.range ops.size).filterMap fun i => (ops[i]?).map fun o => (i, o)).map (·.2) = ops.toList := by
  have key : ∀ (l : List Oper) (n : Nat), ((List.range' n l.length).filterMap fun i => (l[i - n]?).map fun o => (i, o)).map (·.2) = l := by
    intro l
    induction l with
    | nil => intro n; rfl
    | cons o l ih =>
      intro n
      rw [List.length_cons, List.range'_succ, List.filterMap_cons]
      simp only [Nat.sub_self, List.getElem?_cons_zero, Option.map_some, List.map_cons]
      refine congrArg _ (Eq.trans (congrArg _ ?_) (ih (n + 1)))
      have cg : ∀ (is : List Nat), (∀ i ∈ is, n < i) → (is.filterMap fun i => ((o :: l)[i - n]?).map fun o => (i, o)) = is.filterMap fun i => (l[i - (n + 1)]?).map fun o => (i, o) := by
        intro is
        induction is with
        | nil => intro _; rfl
        | cons i is ih =>
          intro h
          have : n < i := h i (by simp)
          rw [List.filterMap_cons, List.filterMap_cons, ih fun j hj => h j (by simp [hj]), show i - n = (i - (n + 1)) + 1 by omega, List.getElem?_cons_succ]
      exact cg _ fun i hi => by have := List.mem_range'_1.1 hi; omega
  have := key ops.toList 0
  rw [← List.range_eq_range'] at this
  simpa using this

theorem draw_region (hm : P.follows .mixedOrders = true) (hO : GoodO P O) (hN : NatO O) {id : Nat} {env : List IV} {F : List (List IV)} {G : GH} {k : List IV → List (List IV) → GH → Option R} {r : R}
    (h : opsC P O lo false ops ops.toList env F G (fun env F G => if drawD P lo ops env = true then k env F G else none) = some r) :
    ∃ env' F' G', k env' F' G' = some r ∧ ∀ (B K : Nat → Prop) (w0 : World) (m : Map) (w : World) (a : Act) (Q : Exit → Act → World → Prop), HRel P B K w0 m F G w → ERel m env a.tmps →
      After P B K w0 m env' F' G' a (Q .normal) → (Code.region id ops true).wp P Q a w := by
  obtain ⟨E, F', G', h1⟩ := ops_nat hN h
  rw [h1] at h
  split at h
  · rename_i hD
    refine ⟨E, F', G', h, fun B K w0 m w a Q hR hE hQ => wp_region_any hm ?_⟩
    refine draw_any hO hN r (drawD_spec hD) ops.size _ _ a _ env F G m ?_ rest_start (by rw [start_map]; exact h1) (hR.grow (below_drawn w _)) hE hQ
    have := congrArg List.length (start_map (ops := ops))
    simpa using this
  · cases h
end
end Go.LI

/-! Regions whose boxes have places of their own; calls that only make memory. -/
set_option linter.unusedVariables false
namespace Go.LI
open Go Go.RowKit

mutual
theorem ivEq_spec : ∀ {a b : IV}, ivEq a b = true → a = b
  | .bool a, b, h => by cases b <;> simp_all [ivEq]
  | .int k a, b, h => by cases b <;> simp_all [ivEq]
  | .float k a, b, h => by cases b <;> simp_all [ivEq]
  | .str a, b, h => by cases b <;> simp_all [ivEq]
  | .ptr a, b, h => by cases b <;> simp_all [ivEq]
  | .loc x y, b, h => by cases b <;> simp_all [ivEq]
  | .slice x y, b, h => by cases b <;> simp_all [ivEq]
  | .func f cs, b, h => by
    cases b with
    | func g ds =>
      simp only [ivEq, Bool.and_eq_true, beq_iff_eq] at h
      rw [h.1, ivsEq_spec h.2]
    | _ => simp [ivEq] at h
  | .nilFunc, b, h => by cases b <;> simp_all [ivEq]
  | .nilIface, b, h => by cases b <;> simp_all [ivEq]
  | .iface t v, b, h => by
    cases b with
    | iface u w =>
      simp only [ivEq, Bool.and_eq_true, beq_iff_eq] at h
      rw [h.1, ivEq_spec h.2]
    | _ => simp [ivEq] at h
  | .agg cs, b, h => by
    cases b with
    | agg ds =>
      have := ivsEq_spec (a := cs) (b := ds) (by simpa [ivEq] using h)
      rw [this]
    | _ => simp [ivEq] at h
  | .tuple cs, b, h => by
    cases b with
    | tuple ds =>
      have := ivsEq_spec (a := cs) (b := ds) (by simpa [ivEq] using h)
      rw [this]
    | _ => simp [ivEq] at h
  | .fo k o, b, h => by cases b <;> simp_all [ivEq]
  | .any, b, h => by cases b <;> simp_all [ivEq]
theorem ivsEq_spec : ∀ {a b : List IV}, ivsEq a b = true → a = b
  | [], b, h => by cases b <;> simp_all [ivsEq]
  | x :: l, b, h => by
    cases b with
    | nil => simp [ivsEq] at h
    | cons y m =>
      simp only [ivsEq, Bool.and_eq_true] at h
      rw [ivEq_spec h.1, ivsEq_spec h.2]
end
mutual
theorem ivEq_refl : ∀ (a : IV), ivEq a a = true
  | .bool a => by simp [ivEq]
  | .int k a => by simp [ivEq]
  | .float k a => by simp [ivEq]
  | .str a => by simp [ivEq]
  | .ptr a => by simp [ivEq]
  | .loc x y => by simp [ivEq]
  | .slice x y => by simp [ivEq]
  | .func f cs => by simp [ivEq, ivsEq_refl cs]
  | .nilFunc => by simp [ivEq]
  | .nilIface => by simp [ivEq]
  | .iface t v => by simp [ivEq, ivEq_refl v]
  | .agg cs => by simp [ivEq, ivsEq_refl cs]
  | .tuple cs => by simp [ivEq, ivsEq_refl cs]
  | .fo k o => by simp [ivEq]
  | .any => by simp [ivEq]
theorem ivsEq_refl : ∀ (a : List IV), ivsEq a a = true
  | [] => by simp [ivsEq]
  | x :: l => by simp [ivsEq, ivEq_refl x, ivsEq_refl l]
end
theorem preG_spec : ∀ {G H : GH}, preG G H = true → ∃ N, H = G ++ N
  | [], H, _ => ⟨H, rfl⟩
  | k :: G, [], h => by simp [preG] at h
  | k :: G, j :: H, h => by
    simp only [preG, Bool.and_eq_true, beq_iff_eq] at h
    obtain ⟨⟨⟨h1, h2⟩, h3⟩, h4⟩ := h
    obtain ⟨N, rfl⟩ := preG_spec h4
    have := ivsEq_spec h1
    cases k; cases j
    simp only at this h2 h3
    subst this; subst h2; subst h3
    exact ⟨N, rfl⟩
section
variable {R : Type} {P : Program} {O : Ora R} {lo : List Nat} {sl gs : Oper → Option Nat} {gb : Nat} {env env2 : List IV} {all : Array Oper}

/-- An operation comes to this. -/
def OpToS (P : Program) (O : Ora R) (lo : List Nat) (sl : Oper → Option Nat) (gs : Oper → Option Nat) (gb : Nat) (o : Oper) (env : List IV) (F : List (List IV)) (G : GH) (v : IV) (F' : List (List IV)) (G' : GH) : Prop :=
  ∀ k : IV → List (List IV) → GH → Option R, opS P O lo sl gs gb o env F G k = k v F' G'

theorem isHole_spec {x : Option (List IV)} (h : isHole x = true) : x = some holeF := by
  unfold isHole at h
  split at h
  · rfl
  · cases h

theorem opS_nat (hN : NatO O) {o : Oper} {F : List (List IV)} {G : GH} {k : IV → List (List IV) → GH → Option R} {r : R} (h : opS P O lo sl gs gb o env F G k = some r) : ∃ v F' G', OpToS P O lo sl gs gb o env F G v F' G' := by
  unfold opS at h
  split at h
  · rename_i s hs
    split at h
    · rename_i t ho
      split at h
      · rename_i z hz
        unfold placeC at h
        split at h
        · rename_i hh
          exact ⟨.loc s 0, F.set s z.cells, G, fun k' => by simp only [opS, hs, ho, hz, placeC]; rw [if_pos hh]⟩
        · cases h
      · cases h
    · rename_i t x ho
      split at h
      · rename_i z hz
        unfold placeC at h
        split at h
        · rename_i hh
          exact ⟨.loc s 0, F.set s z.cells, G, fun k' => by simp only [opS, hs, ho, hz, placeC]; rw [if_pos hh]⟩
        · cases h
      · cases h
    · cases h
  · rename_i hs
    split at h
    · rename_i s hgs
      split at h
      · rename_i hbs
        obtain ⟨v, F', G', h1⟩ := op_nat hN h
        rw [h1] at h
        split at h
        · rename_i b
          split at h
          · rename_i hh
            exact ⟨_, _, _, fun k' => by simp only [opS, hs, hgs]; rw [if_pos hbs, h1]; simp only; rw [if_pos hh]⟩
          · cases h
        · cases h
      · cases h
    rename_i hgs
    split at h
    · rename_i hv
      split at h
      · rename_i hgb
        obtain ⟨v, F', G', h1⟩ := op_nat hN h
        rw [h1] at h
        split at h
        · rename_i hp
          exact ⟨v, F', G', fun k' => by simp only [opS, hs, hgs]; rw [if_pos hv, if_pos hgb, h1, if_pos hp]⟩
        · cases h
      · cases h
    · rename_i hv
      split at h
      · rename_i hob
        obtain ⟨v, F', G', h1⟩ := op_nat hN h
        exact ⟨v, F', G', fun k' => by simp only [opS, hs, hgs]; rw [if_neg hv, if_pos hob, h1]⟩
      · cases h

theorem oldOk_env {op : Op} (h : ∀ t, Operand.tmp t ∈ op.operands → env[t]? = env2[t]?) : oldOk gb op env = oldOk gb op env2 := by
  cases op with
  | load t x => simp only [oldOk]; rw [ev_env (x := x) (env := env) (env2 := env2) fun t ht => h t (by rw [← ht]; simp [Op.operands])]
  | slice t x l hh mx => simp only [oldOk]; rw [ev_env (x := x) (env := env) (env2 := env2) fun t ht => h t (by rw [← ht]; simp [Op.operands])]
  | _ => rfl
/-- An operation looks at its operands alone. -/
theorem opS_env {o : Oper} (h : ∀ t, Operand.tmp t ∈ o.op.operands → env[t]? = env2[t]?) (F : List (List IV)) (G : GH) (k : IV → List (List IV) → GH → Option R) :
    opS P O lo sl gs gb o env F G k = opS P O lo sl gs gb o env2 F G k := by
  unfold opS
  split
  · split
    · rfl
    · rename_i t x ho
      rw [ev_env (x := x) (env := env) (env2 := env2) fun t ht => h t (by rw [ho, ← ht]; simp [Op.operands])]
    · rfl
  · split
    · rw [opC_env h]
    · rw [opC_env h, opC_env h, oldOk_env h]

/-! ### What it touches -/
def ClsS (gb : Nat) (T : List (List IV) → GH → IV → List (List IV) → GH → Prop) (F : List (List IV)) (G : GH) : Fs → Prop
  | .none => ∃ v, ∀ F2 G2, T F2 G2 v F2 G2
  | .rf b => ∃ v, ∀ F2 G2, F2[b]? = F[b]? → T F2 G2 v F2 G2
  | .rg => ∃ v, ∀ F2 N, T F2 (G ++ N) v F2 (G ++ N)
  | .wf b => ∃ v cs, b < F.length ∧ ∀ F2 G2, F2[b]? = F[b]? → T F2 G2 v (F2.set b cs) G2
  | .wg => ∃ v G', ∀ F2, T F2 G v F2 G'
  | .ro => ∃ v, ∀ F2 G2, G2.take gb = G.take gb → T F2 G2 v F2 G2
  | .ng => ∃ v N, gb ≤ G.length ∧ ∀ F2, T F2 G v F2 (G ++ N)
  | .wh s => ∃ v b, gb ≤ s ∧ G[s]? = some holeG ∧ ∀ F2 G2, G2[s]? = G[s]? → T F2 G2 v F2 (G2.set s b)
  | .ap a b => ∃ v k n, n.mode = 1 ∧ ∀ F2 G2, G2.length = G.length → G2[a]? = G[a]? → G2[b]? = G[b]? → T F2 G2 v F2 (G2.set a k ++ [n])
  | .bad => True
theorem ClsS.mono {T T' : List (List IV) → GH → IV → List (List IV) → GH → Prop} (h : ∀ F G v F' G', T F G v F' G' → T' F G v F' G') {F : List (List IV)} {G : GH} : ∀ {f : Fs}, ClsS gb T F G f → ClsS gb T' F G f
  | .none, ⟨v, q⟩ => ⟨v, fun F2 G2 => h _ _ _ _ _ (q F2 G2)⟩
  | .rf _, ⟨v, q⟩ => ⟨v, fun F2 G2 e => h _ _ _ _ _ (q F2 G2 e)⟩
  | .rg, ⟨v, q⟩ => ⟨v, fun F2 N => h _ _ _ _ _ (q F2 N)⟩
  | .wf _, ⟨v, cs, hb, q⟩ => ⟨v, cs, hb, fun F2 G2 e => h _ _ _ _ _ (q F2 G2 e)⟩
  | .wg, ⟨v, G', q⟩ => ⟨v, G', fun F2 => h _ _ _ _ _ (q F2)⟩
  | .ro, ⟨v, q⟩ => ⟨v, fun F2 G2 e => h _ _ _ _ _ (q F2 G2 e)⟩
  | .ng, ⟨v, N, hg, q⟩ => ⟨v, N, hg, fun F2 => h _ _ _ _ _ (q F2)⟩
  | .wh _, ⟨v, b, h1, h2, q⟩ => ⟨v, b, h1, h2, fun F2 G2 e => h _ _ _ _ _ (q F2 G2 e)⟩
  | .ap _ _, ⟨v, k, n, h1, q⟩ => ⟨v, k, n, h1, fun F2 G2 e1 e2 e3 => h _ _ _ _ _ (q F2 G2 e1 e2 e3)⟩
  | .bad, _ => trivial

theorem take_setG {G : GH} {s gb : Nat} {b : Blk} (h : gb ≤ s) : (G.set s b).take gb = G.take gb := by
  refine List.ext_getElem? fun i => ?_
  rw [List.getElem?_take, List.getElem?_take]
  split
  · rw [List.getElem?_set_ne (by omega)]
  · rfl
theorem setG_app {G : GH} {s : Nat} {b n : Blk} (h : s < G.length) : (G ++ [n]).set s b = G.set s b ++ [n] := List.set_append_left s b h
/-- Two steps whose footprints go together. -/
theorem commS {Tx Ty : List (List IV) → GH → IV → List (List IV) → GH → Prop} {F : List (List IV)} {G : GH} {fx fy : Fs} (hx : ClsS gb Tx F G fx)
    (hy : ∀ v1 F1 G1, Tx F G v1 F1 G1 → ClsS gb Ty F1 G1 fy) (hc : fsOk fx fy = true) :
    ∃ v1 F1 G1 v2 F2 G2 Fa Ga, Tx F G v1 F1 G1 ∧ Ty F1 G1 v2 F2 G2 ∧ Ty F G v2 Fa Ga ∧ Tx Fa Ga v1 F2 G2 := by
  cases fx with
  | bad => cases fy <;> cases hc
  | none =>
    obtain ⟨v, q⟩ := hx
    have h := hy _ _ _ (q F G)
    cases fy with
    | bad => cases hc
    | none => obtain ⟨u, p⟩ := h; exact ⟨v, F, G, u, F, G, F, G, q F G, p _ _, p _ _, q _ _⟩
    | rf b => obtain ⟨u, p⟩ := h; exact ⟨v, F, G, u, F, G, F, G, q F G, p _ _ rfl, p _ _ rfl, q _ _⟩
    | rg => obtain ⟨u, p⟩ := h; have p0 := p F []; rw [List.append_nil] at p0; exact ⟨v, F, G, u, F, G, F, G, q F G, p0, p0, q _ _⟩
    | ro => obtain ⟨u, p⟩ := h; exact ⟨v, F, G, u, F, G, F, G, q F G, p _ _ rfl, p _ _ rfl, q _ _⟩
    | wf b => obtain ⟨u, cs, hb, p⟩ := h; exact ⟨v, F, G, u, _, G, _, G, q F G, p _ _ rfl, p _ _ rfl, q _ _⟩
    | wg => obtain ⟨u, G', p⟩ := h; exact ⟨v, F, G, u, F, G', F, G', q F G, p _, p _, q _ _⟩
    | ng => obtain ⟨u, N, hg, p⟩ := h; exact ⟨v, F, G, u, F, _, F, _, q F G, p _, p _, q _ _⟩
    | wh s => obtain ⟨u, b', h1, h2, p⟩ := h; exact ⟨v, F, G, u, F, _, F, _, q F G, p _ _ rfl, p _ _ rfl, q _ _⟩
    | ap a b2 => obtain ⟨u, k, n, h1, p⟩ := h; exact ⟨v, F, G, u, F, _, F, _, q F G, p _ _ rfl rfl rfl, p _ _ rfl rfl rfl, q _ _⟩
  | rf b =>
    obtain ⟨v, q⟩ := hx
    have q0 := q F G rfl
    have h := hy _ _ _ q0
    cases fy with
    | bad => cases hc
    | none => obtain ⟨u, p⟩ := h; exact ⟨v, F, G, u, F, G, F, G, q0, p _ _, p _ _, q0⟩
    | rf b => obtain ⟨u, p⟩ := h; exact ⟨v, F, G, u, F, G, F, G, q0, p _ _ rfl, p _ _ rfl, q0⟩
    | rg => obtain ⟨u, p⟩ := h; have p0 := p F []; rw [List.append_nil] at p0; exact ⟨v, F, G, u, F, G, F, G, q0, p0, p0, q0⟩
    | ro => obtain ⟨u, p⟩ := h; exact ⟨v, F, G, u, F, G, F, G, q0, p _ _ rfl, p _ _ rfl, q0⟩
    | wf b' =>
      obtain ⟨u, cs, hb, p⟩ := h
      have hne : b ≠ b' := by simpa [fsOk] using hc
      exact ⟨v, F, G, u, _, G, _, G, q0, p _ _ rfl, p _ _ rfl, q _ _ (List.getElem?_set_ne (Ne.symm hne))⟩
    | wg => obtain ⟨u, G', p⟩ := h; exact ⟨v, F, G, u, F, G', F, G', q0, p _, p _, q _ _ rfl⟩
    | ng => obtain ⟨u, N, hg, p⟩ := h; exact ⟨v, F, G, u, F, _, F, _, q0, p _, p _, q _ _ rfl⟩
    | wh s => obtain ⟨u, b', h1, h2, p⟩ := h; exact ⟨v, F, G, u, F, _, F, _, q0, p _ _ rfl, p _ _ rfl, q _ _ rfl⟩
    | ap a b2 => obtain ⟨u, k, n, h1, p⟩ := h; exact ⟨v, F, G, u, F, _, F, _, q0, p _ _ rfl rfl rfl, p _ _ rfl rfl rfl, q _ _ rfl⟩
  | rg =>
    obtain ⟨v, q⟩ := hx
    have q0 := q F []
    rw [List.append_nil] at q0
    have h := hy _ _ _ q0
    cases fy with
    | bad => cases hc
    | none => obtain ⟨u, p⟩ := h; exact ⟨v, F, G, u, F, G, F, G, q0, p _ _, p _ _, q0⟩
    | rf b => obtain ⟨u, p⟩ := h; exact ⟨v, F, G, u, F, G, F, G, q0, p _ _ rfl, p _ _ rfl, q0⟩
    | rg => obtain ⟨u, p⟩ := h; have p0 := p F []; rw [List.append_nil] at p0; exact ⟨v, F, G, u, F, G, F, G, q0, p0, p0, q0⟩
    | ro => obtain ⟨u, p⟩ := h; exact ⟨v, F, G, u, F, G, F, G, q0, p _ _ rfl, p _ _ rfl, q0⟩
    | wf b' =>
      obtain ⟨u, cs, hb, p⟩ := h
      have q1 := q (F.set b' cs) []
      rw [List.append_nil] at q1
      exact ⟨v, F, G, u, _, G, _, G, q0, p _ _ rfl, p _ _ rfl, q1⟩
    | wg => cases hc
    | ng => obtain ⟨u, N, hg, p⟩ := h; exact ⟨v, F, G, u, F, _, F, _, q0, p _, p _, q F N⟩
    | wh s => cases hc
    | ap a b2 => cases hc
  | wf b =>
    obtain ⟨v, cs, hb, q⟩ := hx
    have q0 := q F G rfl
    have h := hy _ _ _ q0
    cases fy with
    | bad => cases hc
    | none => obtain ⟨u, p⟩ := h; exact ⟨v, _, G, u, _, G, F, G, q0, p _ _, p _ _, q0⟩
    | rf b' =>
      obtain ⟨u, p⟩ := h
      have hne : b ≠ b' := by simpa [fsOk] using hc
      exact ⟨v, _, G, u, _, G, F, G, q0, p _ _ rfl, p _ _ (List.getElem?_set_ne hne).symm, q0⟩
    | rg =>
      obtain ⟨u, p⟩ := h
      have p0 := p (F.set b cs) []
      have p1 := p F []
      rw [List.append_nil] at p0 p1
      exact ⟨v, _, G, u, _, G, F, G, q0, p0, p1, q0⟩
    | ro => obtain ⟨u, p⟩ := h; exact ⟨v, _, G, u, _, G, F, G, q0, p _ _ rfl, p _ _ rfl, q0⟩
    | wf b' =>
      obtain ⟨u, cs', hb', p⟩ := h
      have hne : b ≠ b' := by simpa [fsOk] using hc
      exact ⟨v, _, G, u, _, G, _, G, q0, p _ _ rfl, p _ _ (List.getElem?_set_ne hne).symm, by
        rw [List.set_comm _ _ hne]; exact q _ _ (List.getElem?_set_ne (Ne.symm hne))⟩
    | wg => obtain ⟨u, G', p⟩ := h; exact ⟨v, _, G, u, _, G', F, G', q0, p _, p _, q _ _ rfl⟩
    | ng => obtain ⟨u, N, hg, p⟩ := h; exact ⟨v, _, G, u, _, _, F, _, q0, p _, p _, q _ _ rfl⟩
    | wh s => obtain ⟨u, b', h1, h2, p⟩ := h; exact ⟨v, _, G, u, _, _, F, _, q0, p _ _ rfl, p _ _ rfl, q _ _ rfl⟩
    | ap a b2 => obtain ⟨u, k, n, h1, p⟩ := h; exact ⟨v, _, G, u, _, _, F, _, q0, p _ _ rfl rfl rfl, p _ _ rfl rfl rfl, q _ _ rfl⟩
  | wg =>
    obtain ⟨v, G1, q⟩ := hx
    have q0 := q F
    have h := hy _ _ _ q0
    cases fy with
    | bad => cases hc
    | none => obtain ⟨u, p⟩ := h; exact ⟨v, F, G1, u, F, G1, F, G, q0, p _ _, p _ _, q0⟩
    | rf b => obtain ⟨u, p⟩ := h; exact ⟨v, F, G1, u, F, G1, F, G, q0, p _ _ rfl, p _ _ rfl, q0⟩
    | rg => cases hc
    | ro => cases hc
    | wf b' => obtain ⟨u, cs, hb, p⟩ := h; exact ⟨v, F, G1, u, _, G1, _, G, q0, p _ _ rfl, p _ _ rfl, q _⟩
    | wg => cases hc
    | ng => cases hc
    | wh s => cases hc
    | ap a b2 => cases hc
  | ro =>
    obtain ⟨v, q⟩ := hx
    have q0 := q F G rfl
    have h := hy _ _ _ q0
    cases fy with
    | bad => cases hc
    | none => obtain ⟨u, p⟩ := h; exact ⟨v, F, G, u, F, G, F, G, q0, p _ _, p _ _, q0⟩
    | rf b => obtain ⟨u, p⟩ := h; exact ⟨v, F, G, u, F, G, F, G, q0, p _ _ rfl, p _ _ rfl, q0⟩
    | rg => obtain ⟨u, p⟩ := h; have p0 := p F []; rw [List.append_nil] at p0; exact ⟨v, F, G, u, F, G, F, G, q0, p0, p0, q0⟩
    | ro => obtain ⟨u, p⟩ := h; exact ⟨v, F, G, u, F, G, F, G, q0, p _ _ rfl, p _ _ rfl, q0⟩
    | wf b' => obtain ⟨u, cs, hb, p⟩ := h; exact ⟨v, F, G, u, _, G, _, G, q0, p _ _ rfl, p _ _ rfl, q _ _ rfl⟩
    | wg => cases hc
    | ng => obtain ⟨u, N, hg, p⟩ := h; exact ⟨v, F, G, u, F, _, F, _, q0, p _, p _, q _ _ (List.take_append_of_le_length hg)⟩
    | wh s => obtain ⟨u, b', h1, h2, p⟩ := h; exact ⟨v, F, G, u, F, _, F, _, q0, p _ _ rfl, p _ _ rfl, q _ _ (take_setG h1)⟩
    | ap a b2 => cases hc
  | ng =>
    obtain ⟨v, N, hg0, q⟩ := hx
    have q0 := q F
    have h := hy _ _ _ q0
    cases fy with
    | bad => cases hc
    | none => obtain ⟨u, p⟩ := h; exact ⟨v, F, _, u, F, _, F, G, q0, p _ _, p _ _, q0⟩
    | rf b => obtain ⟨u, p⟩ := h; exact ⟨v, F, _, u, F, _, F, G, q0, p _ _ rfl, p _ _ rfl, q0⟩
    | rg => cases hc
    | ro => obtain ⟨u, p⟩ := h; exact ⟨v, F, _, u, F, _, F, G, q0, p _ _ rfl, p _ _ (List.take_append_of_le_length hg0).symm, q0⟩
    | wf b' => obtain ⟨u, cs, hb, p⟩ := h; exact ⟨v, F, _, u, _, _, _, G, q0, p _ _ rfl, p _ _ rfl, q _⟩
    | wg => cases hc
    | ng => cases hc
    | wh s => cases hc
    | ap a b2 => cases hc
  | wh s =>
    obtain ⟨v, b, hs1, hs2, q⟩ := hx
    have hsl := (List.getElem?_eq_some_iff.1 hs2).1
    have q0 := q F G rfl
    have h := hy _ _ _ q0
    cases fy with
    | bad => cases hc
    | none => obtain ⟨u, p⟩ := h; exact ⟨v, F, _, u, F, _, F, G, q0, p _ _, p _ _, q0⟩
    | rf b => obtain ⟨u, p⟩ := h; exact ⟨v, F, _, u, F, _, F, G, q0, p _ _ rfl, p _ _ rfl, q0⟩
    | rg => cases hc
    | ro => obtain ⟨u, p⟩ := h; exact ⟨v, F, _, u, F, _, F, G, q0, p _ _ rfl, p _ _ (take_setG hs1).symm, q0⟩
    | wf b' => obtain ⟨u, cs, hb, p⟩ := h; exact ⟨v, F, _, u, _, _, _, G, q0, p _ _ rfl, p _ _ rfl, q _ _ rfl⟩
    | wg => cases hc
    | ng => cases hc
    | wh s' =>
      obtain ⟨u, b', h1, h2, p⟩ := h
      have hne : s ≠ s' := by simpa [fsOk] using hc
      exact ⟨v, F, _, u, F, _, F, _, q0, p _ _ rfl, p F G (List.getElem?_set_ne hne).symm, by rw [List.set_comm _ _ hne]; exact q _ _ (List.getElem?_set_ne (Ne.symm hne))⟩
    | ap a b2 =>
      obtain ⟨u, k, n, h1, p⟩ := h
      have hne : s ≠ a ∧ s ≠ b2 := by simpa [fsOk] using hc
      refine ⟨v, F, _, u, F, _, F, _, q0, p _ _ rfl rfl rfl, p F G (by rw [List.length_set]) (List.getElem?_set_ne hne.1).symm (List.getElem?_set_ne hne.2).symm, ?_⟩
      have := q F (G.set a k ++ [n]) (by rw [List.getElem?_append_left (by rw [List.length_set]; exact hsl), List.getElem?_set_ne (Ne.symm hne.1)])
      rw [setG_app (by rw [List.length_set]; exact hsl), List.set_comm _ _ (Ne.symm hne.1)] at this
      exact this
  | ap a b =>
    obtain ⟨v, k, n, hn1, q⟩ := hx
    have q0 := q F G rfl rfl rfl
    have h := hy _ _ _ q0
    cases fy with
    | bad => cases hc
    | none => obtain ⟨u, p⟩ := h; exact ⟨v, F, _, u, F, _, F, G, q0, p _ _, p _ _, q0⟩
    | rf b => obtain ⟨u, p⟩ := h; exact ⟨v, F, _, u, F, _, F, G, q0, p _ _ rfl, p _ _ rfl, q0⟩
    | rg => cases hc
    | ro => cases hc
    | wf b' => obtain ⟨u, cs, hb, p⟩ := h; exact ⟨v, F, _, u, _, _, _, G, q0, p _ _ rfl, p _ _ rfl, q _ _ rfl rfl rfl⟩
    | wg => cases hc
    | ng => cases hc
    | wh s =>
      obtain ⟨u, b', h1, h2, p⟩ := h
      have hne : s ≠ a ∧ s ≠ b := by simpa [fsOk] using hc
      have hsl : s < G.length := by
        have hl := (List.getElem?_eq_some_iff.1 h2).1
        rw [List.length_append, List.length_set] at hl
        rcases Nat.lt_or_ge s G.length with h3 | h3
        · exact h3
        · exfalso
          have e : s = G.length := by simp at hl; omega
          rw [List.getElem?_append_right (by rw [List.length_set]; exact h3), List.length_set, e, Nat.sub_self] at h2
          simp only [List.getElem?_cons_zero, Option.some.injEq] at h2
          rw [h2] at hn1
          cases hn1
      have hat : (G.set a k ++ [n])[s]? = G[s]? := by rw [List.getElem?_append_left (by rw [List.length_set]; exact hsl), List.getElem?_set_ne (Ne.symm hne.1)]
      refine ⟨v, F, _, u, F, _, F, _, q0, p _ _ rfl, p F G hat.symm, ?_⟩
      have := q F (G.set s b') (by rw [List.length_set]) (List.getElem?_set_ne hne.1) (List.getElem?_set_ne hne.2)
      rw [setG_app (by rw [List.length_set]; exact hsl), List.set_comm _ _ (Ne.symm hne.1)]
      exact this
    | ap a2 b2 => cases hc

/-! ### What is read stands where it stood -/
theorem gld_grow {G : GH} {a : GA} (h : gld G a ≠ none) (N : GH) : gld (G ++ N) a = gld G a := by
  unfold gld at h ⊢
  rcases Nat.lt_or_ge a.b G.length with h1 | h1
  · rw [List.getElem?_append_left h1]
  · rw [List.getElem?_eq_none h1] at h
    exact absurd rfl h
theorem ldLeaf_grow {G : GH} {a : GA} {l : Leaf} {k : IV → Option R} {r : R} (h : ldLeaf G a l k = some r) : ∃ v, ∀ (N : GH) {R' : Type} (k' : IV → Option R'), ldLeaf (G ++ N) a l k' = k' v := by
  have hg : gld G a ≠ none := by
    intro h0
    cases l <;> simp [ldLeaf, ldInt, ldFloat, ldBool, ldStr, ldPtr, ldSlice, h0] at h
  have e : ∀ N, gld (G ++ N) a = gld G a := gld_grow hg
  cases l <;> simp only [ldLeaf] at h ⊢
  case int kd =>
    cases hx : ldInt G kd a with
    | none => rw [hx] at h; cases h
    | some n => exact ⟨.int kd n, fun N R' k' => by rw [show ldInt (G ++ N) kd a = some n by rw [← hx]; simp only [ldInt, e]]⟩
  case float kd =>
    cases hx : ldFloat G kd a with
    | none => rw [hx] at h; cases h
    | some n => exact ⟨.float kd n, fun N R' k' => by rw [show ldFloat (G ++ N) kd a = some n by rw [← hx]; simp only [ldFloat, e]]⟩
  case bool =>
    cases hx : ldBool G a with
    | none => rw [hx] at h; cases h
    | some n => exact ⟨.bool n, fun N R' k' => by rw [show ldBool (G ++ N) a = some n by rw [← hx]; simp only [ldBool, e]]⟩
  case str =>
    cases hx : ldStr G a with
    | none => rw [hx] at h; cases h
    | some n => exact ⟨.str n, fun N R' k' => by rw [show ldStr (G ++ N) a = some n by rw [← hx]; simp only [ldStr, e]]⟩
  case ptr =>
    cases hx : ldPtr G a with
    | none => rw [hx] at h; cases h
    | some n => exact ⟨.ptr n, fun N R' k' => by rw [show ldPtr (G ++ N) a = some n by rw [← hx]; simp only [ldPtr, e]]⟩
  case slice =>
    cases hx : ldSlice G a with
    | none => rw [hx] at h; cases h
    | some n => exact ⟨.slice n.1 n.2, fun N R' k' => by rw [show ldSlice (G ++ N) a = some n by rw [← hx]; simp only [ldSlice, e]]⟩
  case raw =>
    cases hx : gld G a with
    | none => rw [hx] at h; cases h
    | some n => exact ⟨n, fun N R' k' => by rw [e, hx]⟩
theorem ldCells_grow {G : GH} {a : GA} : ∀ {ls : List Leaf} {i : Nat} {k : List IV → Option R} {r : R}, ldCells G a ls i k = some r → ∃ vs, ∀ (N : GH) {R' : Type} (k' : List IV → Option R'), ldCells (G ++ N) a ls i k' = k' vs
  | [], i, k, r, h => ⟨[], fun N R' k' => rfl⟩
  | l :: ls, i, k, r, h => by
    simp only [ldCells] at h
    obtain ⟨v, hv⟩ := ldLeaf_grow h
    have h0 := hv [] fun v => ldCells G a ls (i + 1) fun vs => k (v :: vs)
    rw [List.append_nil] at h0
    rw [h0] at h
    obtain ⟨vs, hvs⟩ := ldCells_grow h
    exact ⟨v :: vs, fun N R' k' => by simp only [ldCells]; rw [hv, hvs]⟩
theorem loadC_grow {t : TypeId} {p : Option GA} {F : List (List IV)} {G : GH} {k : IV → Option R} {r : R} (h : loadC P t (.ptr p) F G k = some r) : ∃ v, ∀ (F2 : List (List IV)) (N : GH) {R' : Type} (k' : IV → Option R'), loadC P t (.ptr p) F2 (G ++ N) k' = k' v := by
  cases p with
  | none => simp [loadC] at h
  | some a =>
    simp only [loadC] at h
    split at h
    · rename_i ha
      split at h
      · rename_i hl
        obtain ⟨vs, hvs⟩ := ldCells_grow h
        exact ⟨.agg vs, fun F2 N R' k' => by simp only [loadC]; rw [if_pos ha, if_pos hl, hvs]⟩
      · cases h
    · rename_i ha
      split at h
      · rename_i l hl
        obtain ⟨v, hv⟩ := ldLeaf_grow h
        exact ⟨v, fun F2 N R' k' => by simp only [loadC]; rw [if_neg ha, hl]; exact hv N k'⟩
      · cases h
theorem ldLeaf_same {G G2 : GH} {a : GA} {l : Leaf} {k : IV → Option R} (e : gld G2 a = gld G a) : ldLeaf G2 a l k = ldLeaf G a l k := by
  cases l <;> simp only [ldLeaf, ldInt, ldFloat, ldBool, ldStr, ldPtr, ldSlice, e]
theorem ldCells_same {G G2 : GH} {a : GA} : ∀ {ls : List Leaf} {i : Nat} {k : List IV → Option R}, G2[a.b]? = G[a.b]? → ldCells G2 a ls i k = ldCells G a ls i k
  | [], i, k, e => rfl
  | l :: ls, i, k, e => by
    simp only [ldCells]
    have eg : gld G2 (a.add i) = gld G (a.add i) := by
      unfold gld
      rw [show (a.add i).b = a.b from rfl, e]
    rw [ldLeaf_same eg]
    congr 1
    funext v
    exact ldCells_same e
theorem loadC_same {t : TypeId} {a : GA} {F : List (List IV)} {G G2 : GH} {k : IV → Option R} (e : G2[a.b]? = G[a.b]?) : loadC P t (.ptr (some a)) F G2 k = loadC P t (.ptr (some a)) F G k := by
  simp only [loadC]
  rw [ldCells_same e]
  have eg : gld G2 a = gld G a := by
    unfold gld
    rw [e]
  split
  · rfl
  · split
    · exact ldLeaf_same eg
    · rfl
theorem take_at {G G2 : GH} {gb b : Nat} (h : G2.take gb = G.take gb) (hb : b < gb) : G2[b]? = G[b]? := by
  have := congrArg (fun l : GH => l[b]?) h
  simpa [List.getElem?_take, hb] using this
theorem rg_load {o : Oper} {t : TypeId} {x : Operand} (ho : o.op = .load t x) {p : Option GA} (hx : ev env x = some (.ptr p)) {F : List (List IV)} {G : GH} {k : IV → List (List IV) → GH → Option R} {r : R} (h : opC P O lo false o env F G k = some r) :
    ∃ v, ∀ F2 N, OpTo P O lo false o env F2 (G ++ N) v F2 (G ++ N) := by
  simp only [opC, ho, hx] at h
  obtain ⟨v, hv⟩ := loadC_grow h
  exact ⟨v, fun F2 N k' => by simp only [opC, ho, hx]; exact hv F2 N _⟩
theorem isHoleG_spec {x : Option Blk} (h : isHoleG x = true) : x = some holeG := by
  unfold isHoleG at h
  split at h
  · rename_i k
    rw [Bool.and_eq_true, Bool.and_eq_true, beq_iff_eq, beq_iff_eq] at h
    obtain ⟨⟨h1, h2⟩, h3⟩ := h
    split at h3
    · rename_i hc
      cases k
      simp only at h1 h2 hc
      subst h1; subst h2; subst hc
      rfl
    · cases h3
  · cases h
theorem gcut_same {G G2 : GH} {a : Option GA} {e : Nat} (h : ∀ p, a = some p → G2[p.b]? = G[p.b]?) : gcut G2 a e = gcut G a e := by
  cases a with
  | none => rfl
  | some p => unfold gcut; simp only; rw [h p rfl]
theorem ro_slice {o : Oper} {t : TypeId} {x : Operand} {l hh mx : Option Operand} (ho : o.op = .slice t x l hh mx) (hob : oldOk gb (.slice t x l hh mx) env = true) {F : List (List IV)} {G : GH} {k : IV → List (List IV) → GH → Option R} {r : R} (h : opC P O lo false o env F G k = some r) :
    ∃ v, ∀ F2 G2, G2.take gb = G.take gb → OpTo P O lo false o env F2 G2 v F2 G2 := by
  simp only [opC, ho] at h
  split at h
  · rename_i x1 hx
    split at h
    · rename_i l1 h1 hl hhi
      split at h
      · rename_i s hu
        cases hd : decide (0 ≤ l1 ∧ l1 ≤ h1 ∧ h1 ≤ (s.length : Int)) with
        | false => rw [hd] at h; cases h
        | true => exact ⟨.str ((s.drop l1.toNat).take (h1.toNat - l1.toNat)), fun F2 G2 _ k' => by simp only [opC, ho, hx, hl, hhi, hu]; rw [hd, cond_true]⟩
      · rename_i e a n hu
        split at h
        · cases h
        · rename_i hc
          cases hd : (decide (0 ≤ l1 ∧ l1 ≤ h1 ∧ h1 ≤ (n : Int)) && gcut G a e) with
          | false => rw [hd] at h; cases h
          | true =>
            refine ⟨.slice (cutA a (l1.toNat * P.cellsOf e)) (h1.toNat - l1.toNat), fun F2 G2 eG k' => ?_⟩
            have hg : gcut G2 a e = gcut G a e := gcut_same fun p hp => by
              subst hp
              refine take_at eG ?_
              simp only [oldOk, hx, oldA] at hob
              exact Nat.le_of_ble_eq_true hob
            simp only [opC, ho, hx, hl, hhi, hu]
            rw [if_neg hc, hg, hd, cond_true]
      · cases h
    · cases h
  · cases h
theorem grd_same {G G2 : GH} {a : GA} {n : Nat} (h : G2[a.b]? = G[a.b]?) : grd G2 a n = grd G a n := by unfold grd; rw [h]
theorem gown_same {G G2 : GH} {b e : Nat} (h : G2[b]? = G[b]?) : gown G2 b e = gown G b e := by unfold gown; rw [h]
/-- An append reads two blocks, strikes one, and makes one. -/
theorem ap_cls {o : Oper} {x : Nat × Nat} (hap : apOf env o.op = some x) {F : List (List IV)} {G : GH} {k : IV → List (List IV) → GH → Option R} {r : R} (h : opC P O lo false o env F G k = some r) :
    ∃ (v : IV) (kb nb : Blk), nb.mode = 1 ∧ ∀ F2 G2, G2.length = G.length → G2[x.1]? = G[x.1]? → G2[x.2]? = G[x.2]? → OpTo P O lo false o env F2 G2 v F2 (G2.set x.1 kb ++ [nb]) := by
  unfold apOf at hap
  split at hap
  · rename_i c ho
    split at hap
    · rename_i t u hcc hca
      split at hap
      · rename_i a n b m ht hu
        injection hap with hap
        subst hap
        have hargs : evs env c.args.toList = some [.slice (some a) n, .slice (some b) m] := by
          rw [hca]
          simp only [evs, ev, ht, hu]
        simp only [opC, ho, hargs, hcc, builtinC] at h
        split at h
        · rename_i t1 u1 a1 n1 x1 hty hl
          injection hl with hl1 hl2
          injection hl2 with hl2 _
          injection hl1 with hla hln
          subst hla; subst hln; subst hl2
          split at h
          · rename_i e hue
            split at h
            · rename_i i z hi hz
              split at h
              · cases h
              · rename_i hcnd
                split at h
                · rename_i b1 m1 e1 hx1 hu1
                  injection hx1 with hxa hxb
                  subst hxa; subst hxb
                  split at h
                  · rename_i new hnew
                    split at h
                    · rename_i a' G' hg
                      unfold gappend at hg
                      split at hg
                      · rename_i hroom
                        split at hg
                        · rename_i hno
                          cases hno
                        rename_i a2 ha2
                        injection ha2 with ha2
                        subst ha2
                        split at hg
                        · rename_i old hown hold
                          injection hg with hg
                          injection hg with hg1 hg2
                          subst hg1
                          subst hg2
                          have hown' := hown
                          unfold gown at hown'
                          obtain ⟨kb, hGa⟩ : ∃ kb, G[a.b]? = some kb := by
                            cases hx : G[a.b]? with
                            | none => rw [hx] at hown'; simp at hown'
                            | some kb => exact ⟨kb, rfl⟩
                          · refine ⟨.slice (some (gaddr G)) (n + m), { kb with mode := 2 }, ⟨old ++ new, e, 1⟩, rfl, fun F2 G2 e1 e2 e3 k' => ?_⟩
                            have q1 : grd G2 b (m * i.size) = some new := by rw [grd_same e3]; exact hnew
                            have q2 : gown G2 a.b e = true := by rw [gown_same e2]; exact hown
                            have q3 : grd G2 a (n * i.size) = some old := by rw [grd_same e2]; exact hold
                            have q4 : gkill G2 a.b = G2.set a.b { kb with mode := 2 } := by unfold gkill; rw [show G2[a.b]? = G[a.b]? from e2, hGa]
                            simp only [opC, ho, hargs, hcc, builtinC, hty, hue, hi, hz]
                            rw [if_neg hcnd]
                            simp only [hu1, q1, gappend, if_pos hroom, q2, q3, q4]
                            have eg : gaddr G2 = gaddr G := by unfold gaddr; rw [e1]
                            rw [eg]
                            rfl
                        · cases hg
                      · cases hg
                    · cases h
                  · cases h
                · rename_i hx1 _
                  cases hx1
                · cases h
            · cases h
          · cases h
        · cases h
      · cases hap
    · cases hap
  · cases hap

theorem opS_cls (hN : NatO O) {o : Oper} {F : List (List IV)} {G : GH} {k : IV → List (List IV) → GH → Option R} {r : R} (h : opS P O lo sl gs gb o env F G k = some r) : ClsS gb (OpToS P O lo sl gs gb o env) F G (fpS P lo sl gs env o) := by
  have place : ∀ {s : Nat} {cs : List IV} {T : List (List IV) → GH → IV → List (List IV) → GH → Prop}, isHole F[s]? = true → (∀ F2 G2, isHole F2[s]? = true → T F2 G2 (.loc s 0) (F2.set s cs) G2) → ClsS gb T F G (.wf s) := by
    intro s cs T hh hT
    refine ⟨.loc s 0, cs, (List.getElem?_eq_some_iff.1 (isHole_spec hh)).1, fun F2 G2 e => hT F2 G2 (by rw [e]; exact hh)⟩
  unfold opS at h
  split at h
  · rename_i s hs
    have e : fpS P lo sl gs env o = .wf s := by simp only [fpS, hs]
    rw [e]
    split at h
    · rename_i t ho
      split at h
      · rename_i z hz
        unfold placeC at h
        split at h
        · rename_i hh
          exact place (cs := z.cells) hh fun F2 G2 h2 k' => by simp only [opS, hs, ho, hz, placeC]; rw [if_pos h2]
        · cases h
      · cases h
    · rename_i t x ho
      split at h
      · rename_i z hz
        unfold placeC at h
        split at h
        · rename_i hh
          exact place (cs := z.cells) hh fun F2 G2 h2 k' => by simp only [opS, hs, ho, hz, placeC]; rw [if_pos h2]
        · cases h
      · cases h
    · cases h
  · rename_i hs
    split at h
    · rename_i s hgs
      have e : fpS P lo sl gs env o = .wh s := by simp only [fpS, hs, hgs]
      rw [e]
      split at h
      case isFalse => cases h
      rename_i hbs
      have hbs' := hbs
      rw [Bool.and_eq_true] at hbs'
      have e2 : fpOp P lo false env o = .wg := by
        unfold fpOp
        cases ho : o.op with
        | buildSlice t n ps => rfl
        | _ => simp [isBS, ho] at hbs'
      have hc := op_cls (sand := false) hN h
      rw [e2] at hc
      obtain ⟨v, G', q⟩ := hc
      rw [q F] at h
      split at h
      · rename_i n b
        split at h
        · rename_i hh
          have hsp := isHoleG_spec hh
          refine ⟨.slice (some ⟨s, 0⟩) n, b, Nat.le_of_ble_eq_true hbs'.2, hsp, fun F2 G2 e k' => ?_⟩
          simp only [opS, hs, hgs]
          rw [if_pos hbs, q F2]
          simp only
          rw [e, if_pos hh]
        · cases h
      · cases h
    rename_i hgs
    split at h
    · rename_i hv
      have e : fpS P lo sl gs env o = .ng := by simp only [fpS, hs, hgs]; rw [if_pos hv]
      rw [e]
      split at h
      case isFalse => cases h
      rename_i hgb
      have hc := op_cls (sand := false) hN h
      have e2 : fpOp P lo false env o = .wg := by
        unfold fpOp
        cases ho : o.op with
        | call c =>
          rw [ho] at hv
          cases hcc : c.callee with
          | value f => simp [hcc]
          | _ => simp [newOp, hcc] at hv
        | makeSlice t l c => rfl
        | buildSlice t n ps => rfl
        | _ => simp [ho, newOp] at hv
      rw [e2] at hc
      obtain ⟨v, G', q⟩ := hc
      have h1 := q F fun v F' G' => if preG G G' = true then k v F' G' else none
      rw [h1] at h
      split at h
      · rename_i hp
        obtain ⟨N, rfl⟩ := preG_spec hp
        exact ⟨v, N, Nat.le_of_ble_eq_true hgb, fun F2 k' => by simp only [opS, hs, hgs]; rw [if_pos hv, if_pos hgb, q F2, if_pos hp]⟩
      · cases h
    · rename_i hv
      split at h
      case isFalse => cases h
      rename_i hob
      have up : ∀ F G v F' G', OpTo P O lo false o env F G v F' G' → OpToS P O lo sl gs gb o env F G v F' G' := fun F G v F' G' q k' => by simp only [opS, hs, hgs]; rw [if_neg hv, if_pos hob]; exact q k'
      have hc := op_cls (sand := false) hN h
      have e : fpS P lo sl gs env o = (match fpOp P lo false env o with | .none => .none | .rf b => .rf b | .wf b => .wf b | .rg => (if isSl o.op then Fs.ro else .rg) | .wg => (match apOf env o.op with | some x => Fs.ap x.1 x.2 | none => .wg) | _ => .bad) := by simp only [fpS, hs, hgs]; rw [if_neg hv]; cases fpOp P lo false env o <;> rfl
      rw [e]
      cases hf : fpOp P lo false env o with
      | none => rw [hf] at hc; obtain ⟨v, q⟩ := hc; exact ⟨v, fun F2 G2 => up _ _ _ _ _ (q F2 G2)⟩
      | rf b => rw [hf] at hc; obtain ⟨v, q⟩ := hc; exact ⟨v, fun F2 G2 e => up _ _ _ _ _ (q F2 G2 e)⟩
      | wf b => rw [hf] at hc; obtain ⟨v, cs, hb, q⟩ := hc; exact ⟨v, cs, hb, fun F2 G2 e => up _ _ _ _ _ (q F2 G2 e)⟩
      | wg =>
        rw [hf] at hc
        simp only
        cases hap : apOf env o.op with
        | none => obtain ⟨v, G', q⟩ := hc; exact ⟨v, G', fun F2 => up _ _ _ _ _ (q F2)⟩
        | some x =>
          obtain ⟨v, kb, nb, h1, h2⟩ := ap_cls hap h
          exact ⟨v, kb, nb, h1, fun F2 G2 e1 e2 e3 => up _ _ _ _ _ (h2 F2 G2 e1 e2 e3)⟩
      | nf => trivial
      | bad => trivial
      | rg =>
        unfold fpOp at hf
        cases ho : o.op with
        | load t x =>
          show ∃ v, ∀ F2 G2, G2.take gb = G.take gb → OpToS P O lo sl gs gb o env F2 G2 v F2 G2
          rw [ho] at hf
          simp only at hf
          split at hf
          · cases hf
          · rename_i p hx
            obtain ⟨v, q⟩ := rg_load ho hx h
            refine ⟨v, fun F2 G2 e => up _ _ _ _ _ ?_⟩
            cases p with
            | none => simp only [opC, ho, hx, loadC] at h; cases h
            | some a =>
              have hb : a.b < gb := by
                rw [ho] at hob
                simp only [oldOk, hx, oldA] at hob
                exact Nat.le_of_ble_eq_true hob
              intro k'
              have h0 := q F2 [] k'
              rw [List.append_nil] at h0
              simp only [opC, ho, hx] at h0 ⊢
              rw [loadC_same (take_at e hb)]
              have h1 : loadC P t (.ptr (some a)) F2 G2 (fun v => k' v F2 G2) = loadC P t (.ptr (some a)) F2 G (fun v => k' v F2 G2) := loadC_same (take_at e hb)
              have h2 := q F2 [] (fun v _ _ => k' v F2 G2)
              rw [List.append_nil] at h2
              simp only [opC, ho, hx] at h2
              exact h2
          · cases hf
        | slice t x l hh mx =>
          show ∃ v, ∀ F2 G2, G2.take gb = G.take gb → OpToS P O lo sl gs gb o env F2 G2 v F2 G2
          obtain ⟨v, q⟩ := ro_slice ho (by rw [ho] at hob; exact hob) h
          exact ⟨v, fun F2 G2 e => up _ _ _ _ _ (q F2 G2 e)⟩
        | store t x y => rw [ho] at hf; simp only at hf; split at hf <;> cases hf
        | alloc t => rw [ho] at hf; simp only at hf; split at hf <;> cases hf
        | box t x => rw [ho] at hf; simp only at hf; split at hf <;> cases hf
        | convert s d x => rw [ho] at hf; simp only at hf; split at hf <;> cases hf
        | call c =>
          rw [ho] at hf
          cases hcc : c.callee with
          | value f => simp [hcc] at hf
          | builtin b => cases b <;> simp [hcc] at hf
          | invoke x n => simp [hcc] at hf
        | _ => rw [ho] at hf; simp at hf

theorem opsS_cons (o : Oper) (os : List Oper) (env : List IV) (F : List (List IV)) (G : GH) (k : List IV → List (List IV) → GH → Option R) :
    opsS P O lo sl gs gb all (o :: os) env F G k = match wantI all o env with
      | some true => opS P O lo sl gs gb o env F G fun v F G => opsS P O lo sl gs gb all os (putI env o.dst v) F G k
      | some false => opsS P O lo sl gs gb all os (putI env o.dst undefI) F G k
      | none => none := rfl
def OpsToS (P : Program) (O : Ora R) (lo : List Nat) (sl : Oper → Option Nat) (gs : Oper → Option Nat) (gb : Nat) (all : Array Oper) (os : List Oper) (env : List IV) (F : List (List IV)) (G : GH) (env' : List IV) (F' : List (List IV)) (G' : GH) : Prop :=
  ∀ k : List IV → List (List IV) → GH → Option R, opsS P O lo sl gs gb all os env F G k = k env' F' G'

theorem HRel.setF {B K : Nat → Prop} {w0 : World} {m : Map} {F : List (List IV)} {G : GH} {w : World} (h : HRel P B K w0 m F G w) {w' : World} {c : Array Value} {t : TypeId} (hg : Grown w w' c t (0, 0)) {cells : List IV} (hc : ARel m cells c) {s : Nat} (hs : F[s]? = some holeF) :
    m.le (m.addF s w.heap.size) ∧ HRel P B K w0 (m.addF s w.heap.size) (F.set s cells) G w' := by
  have hf0 : m.f s = none := by
    cases hm : m.f s with
    | none => rfl
    | some b =>
      exfalso
      obtain ⟨c', t', hf⟩ := h.fblk s _ b hs hm
      obtain ⟨v, _, hv⟩ := hf.cells 0 (.slice none 1) rfl
      cases hv
  have hlt : s < F.length := (List.getElem?_eq_some_iff.1 hs).1
  have hle : m.le (m.addF s w.heap.size) := Map.le_addF hf0
  refine ⟨hle, ?_⟩
  have h' := h.grow hg.below
  have hfm : ∀ i b, (m.addF s w.heap.size).f i = some b → (i = s ∧ b = w.heap.size) ∨ (i ≠ s ∧ m.f i = some b) := by
    intro b e he
    simp only [Map.addF] at he
    split at he
    · rename_i hb; injection he with he; exact .inl ⟨hb, he.symm⟩
    · rename_i hb; exact .inr ⟨hb, he⟩
  have hget : ∀ b, b ≠ s → (F.set s cells)[b]? = F[b]? := fun b hb => List.getElem?_set_ne (Ne.symm hb)
  have hget' : (F.set s cells)[s]? = some cells := by simp [hlt]
  have hold : ∀ i r, m.f i = some r → r < w.heap.size := fun i r hr => by
    have hi : i < F.length := h.fdom _ _ hr
    obtain ⟨c', t', hf⟩ := h.fblk i F[i] r (List.getElem?_eq_getElem hi) hr
    exact lt_of_row hf.row
  refine { bk := h.bk, frame := h'.frame, os := h'.os, tape := h'.tape, output := h'.output, size := h'.size, gdom := h.gdom, fdom := ?_, gblk := ?_, fblk := ?_, ginj := h.ginj, gf := ?_, finj := ?_ }
  · intro b e he
    rw [List.length_set]
    rcases hfm b e he with ⟨rfl, _⟩ | ⟨_, hb⟩
    · exact hlt
    · exact h.fdom _ _ hb
  · intro b k e hk hm he
    obtain ⟨c', t', fr', hgb⟩ := h'.gblk b k e hk hm he
    exact ⟨c', t', fr', { hgb with cells := fun i iv hi => by obtain ⟨v, h1, h2, h3⟩ := hgb.cells i iv hi; exact ⟨v, h1, h2.mono (Map.noF_mono hle), h3⟩ }⟩
  · intro i cs b hi hb
    rcases hfm i b hb with ⟨rfl, rfl⟩ | ⟨hi', hb'⟩
    · rw [hget'] at hi
      injection hi with hi
      subst hi
      refine ⟨c, t, { row := hg.row, size := hc.1.symm, cells := fun i iv hi => ?_, own := fun hK => ?_ }⟩
      · obtain ⟨v, h1, h2⟩ := hc.get hi
        exact ⟨v, h1, h2.mono hle⟩
      · have := (h.frame _ hK).1
        have := h.size
        omega
    · rw [hget i hi'] at hi
      obtain ⟨c', t', hf⟩ := h'.fblk i cs b hi hb'
      exact ⟨c', t', { hf with cells := fun j iv hj => by obtain ⟨v, h1, h2⟩ := hf.cells j iv hj; exact ⟨v, h1, h2.mono hle⟩ }⟩
  · intro b i k e r h1 h2 g1 hr
    rcases hfm i r hr with ⟨rfl, rfl⟩ | ⟨hi', hr'⟩
    · obtain ⟨c', t', fr', hgb⟩ := h.gblk b k e h1 (by omega) g1
      have := lt_of_row hgb.row
      omega
    · exact h.gf b i k e r h1 h2 g1 hr'
  · intro i j r s' hr hs' hne
    rcases hfm i r hr with ⟨rfl, rfl⟩ | ⟨hi', hr'⟩
    · rcases hfm j s' hs' with ⟨rfl, rfl⟩ | ⟨hj', hs''⟩
      · exact absurd rfl hne
      · have := hold j s' hs''; omega
    · rcases hfm j s' hs' with ⟨rfl, rfl⟩ | ⟨hj', hs''⟩
      · have := hold i r hr'; omega
      · exact h.finj i j r s' hr' hs'' hne

theorem HRel.setG {B K : Nat → Prop} {w0 : World} {m : Map} {F : List (List IV)} {G : GH} {w : World} (h : HRel P B K w0 m F G w) {w' : World} {c : Array Value} {t : TypeId} {fr : Nat × Nat} (hg : Grown w w' c t fr) {cells : List IV}
    (hc : ∀ (i : Nat) (iv : IV), cells[i]? = some iv → ∃ v, c[i]? = some v ∧ VRel m.noF iv v ∧ v.oneCell' = true) (hl : cells.length ≤ c.size) (hfr : FrOk c.size fr) {s : Nat} (hs : G[s]? = some holeG) :
    m.le (m.addG s ⟨w.heap.size, 0, c.size, P.cellsOf t, true⟩) ∧ HRel P B K w0 (m.addG s ⟨w.heap.size, 0, c.size, P.cellsOf t, true⟩) F (G.set s ⟨cells, t, 1⟩) w' := by
  have hg0 : m.g s = none := by
    cases hm : m.g s with
    | none => rfl
    | some e =>
      exfalso
      obtain ⟨c', t', fr', hgb⟩ := h.gblk s _ e hs (Nat.zero_le _) hm
      obtain ⟨v, _, hv, _⟩ := hgb.cells 0 (.slice none 1) rfl
      cases hv
  have hlt : s < G.length := (List.getElem?_eq_some_iff.1 hs).1
  have hle : m.le (m.addG s ⟨w.heap.size, 0, c.size, P.cellsOf t, true⟩) := Map.le_addG hg0
  refine ⟨hle, ?_⟩
  have h' := h.grow hg.below
  have hgm : ∀ b e, (m.addG s ⟨w.heap.size, 0, c.size, P.cellsOf t, true⟩).g b = some e → (b = s ∧ e = ⟨w.heap.size, 0, c.size, P.cellsOf t, true⟩) ∨ (b ≠ s ∧ m.g b = some e) := by
    intro b e he
    simp only [Map.addG] at he
    split at he
    · rename_i hb; injection he with he; exact .inl ⟨hb, he.symm⟩
    · rename_i hb; exact .inr ⟨hb, he⟩
  have hget : ∀ b, b ≠ s → (G.set s ⟨cells, t, 1⟩)[b]? = G[b]? := fun b hb => List.getElem?_set_ne (Ne.symm hb)
  have hget' : (G.set s ⟨cells, t, 1⟩)[s]? = some ⟨cells, t, 1⟩ := by simp [hlt]
  have hold : ∀ b k e, G[b]? = some k → k.mode ≤ 1 → m.g b = some e → e.blk < w.heap.size := fun b k e h1 h2 h3 => by
    obtain ⟨c, t, fr, hgb⟩ := h.gblk b k e h1 h2 h3
    exact lt_of_row hgb.row
  refine { bk := h.bk, frame := h'.frame, os := h'.os, tape := h'.tape, output := h'.output, size := h'.size, gdom := ?_, fdom := h.fdom, gblk := ?_, fblk := ?_, ginj := ?_, gf := ?_, finj := h.finj }
  · intro b e he
    rw [List.length_set]
    rcases hgm b e he with ⟨rfl, _⟩ | ⟨_, hb⟩
    · exact hlt
    · exact h.gdom _ _ hb
  · intro b k e hk hm he
    rcases hgm b e he with ⟨rfl, rfl⟩ | ⟨hb, he'⟩
    · rw [hget'] at hk
      injection hk with hk
      subst hk
      refine ⟨c, t, fr, { row := hg.row, fits := by simpa using hl, cells := fun i iv hi => ?_, ro := fun h => by simp at h, esz := fun _ => rfl, rw := fun _ => ⟨fun hK => ?_, rfl, rfl, by simp, hfr⟩ }⟩
      · obtain ⟨v, h1, h2, h3⟩ := hc i iv hi
        exact ⟨v, by simpa using h1, h2.mono (Map.noF_mono hle), h3⟩
      · have h1 : w.heap.size < w0.heap.size := (h.frame _ hK).1
        have := h.size
        omega
    · rw [hget b hb] at hk
      obtain ⟨c', t', fr', hgb⟩ := h'.gblk b k e hk hm he'
      exact ⟨c', t', fr', { hgb with cells := fun i iv hi => by obtain ⟨v, h1, h2, h3⟩ := hgb.cells i iv hi; exact ⟨v, h1, h2.mono (Map.noF_mono hle), h3⟩ }⟩
  · intro i cs b hi hb
    obtain ⟨c', t', hf⟩ := h'.fblk i cs b hi hb
    exact ⟨c', t', { hf with cells := fun j iv hj => by obtain ⟨v, h1, h2⟩ := hf.cells j iv hj; exact ⟨v, h1, h2.mono hle⟩ }⟩
  · intro b1 b2 k1 k2 e1 e2 h1 h2 m1 m2 g1 g2 hne
    rcases hgm b1 e1 g1 with ⟨rfl, rfl⟩ | ⟨hb1, g1'⟩
    · rcases hgm b2 e2 g2 with ⟨rfl, rfl⟩ | ⟨hb2, g2'⟩
      · exact absurd rfl hne
      · rw [hget b2 hb2] at h2
        have := hold b2 k2 e2 h2 (by omega) g2'
        simp; omega
    · rw [hget b1 hb1] at h1
      rcases hgm b2 e2 g2 with ⟨rfl, rfl⟩ | ⟨hb2, g2'⟩
      · have := hold b1 k1 e1 h1 (by omega) g1'
        simp; omega
      · rw [hget b2 hb2] at h2
        exact h.ginj b1 b2 k1 k2 e1 e2 h1 h2 m1 m2 g1' g2' hne
  · intro b i k e r h1 h2 g1 hr
    rcases hgm b e g1 with ⟨rfl, rfl⟩ | ⟨hb1, g1'⟩
    · have hi : i < F.length := h.fdom _ _ hr
      obtain ⟨c', t', hf⟩ := h.fblk i F[i] r (List.getElem?_eq_getElem hi) hr
      have := lt_of_row hf.row
      simp; omega
    · rw [hget b hb1] at h1
      exact h.gf b i k e r h1 h2 g1' hr
theorem HRel.holesG {B K : Nat → Prop} {w0 : World} {m : Map} {F : List (List IV)} {G : GH} {w : World} (h : HRel P B K w0 m F G w) (Y : GH) : HRel P B K w0 m F (G ++ Y) w where
  bk := h.bk
  frame := h.frame
  os := h.os
  tape := h.tape
  output := h.output
  size := h.size
  gdom := fun i e he => by have := h.gdom i e he; rw [List.length_append]; omega
  fdom := h.fdom
  gblk := fun i k e hk hm he => h.gblk i k e (by rw [List.getElem?_append_left (h.gdom i e he)] at hk; exact hk) hm he
  fblk := h.fblk
  ginj := fun b1 b2 k1 k2 e1 e2 h1 h2 m1 m2 g1 g2 hne => h.ginj b1 b2 k1 k2 e1 e2 (by rw [List.getElem?_append_left (h.gdom _ _ g1)] at h1; exact h1) (by rw [List.getElem?_append_left (h.gdom _ _ g2)] at h2; exact h2) m1 m2 g1 g2 hne
  gf := fun b i k e r h1 h2 g1 hr => h.gf b i k e r (by rw [List.getElem?_append_left (h.gdom _ _ g1)] at h1; exact h1) h2 g1 hr
  finj := h.finj
theorem HRel.holes {B K : Nat → Prop} {w0 : World} {m : Map} {F : List (List IV)} {G : GH} {w : World} (h : HRel P B K w0 m F G w) (X : List (List IV)) : HRel P B K w0 m (F ++ X) G w where
  bk := h.bk
  frame := h.frame
  os := h.os
  tape := h.tape
  output := h.output
  size := h.size
  gdom := h.gdom
  fdom := fun k b hb => by have := h.fdom k b hb; rw [List.length_append]; omega
  gblk := h.gblk
  fblk := fun i cs b hi hb => h.fblk i cs b (by rw [List.getElem?_append_left (h.fdom i b hb)] at hi; exact hi) hb
  ginj := h.ginj
  gf := h.gf
  finj := h.finj

theorem opS_sim (hO : GoodO P O) {o : Oper} {F : List (List IV)} {G : GH} {k : IV → List (List IV) → GH → Option R} {r : R} (h : opS P O lo sl gs gb o env F G k = some r) :
    ∃ v F' G', k v F' G' = some r ∧ ∀ (B K : Nat → Prop) (w0 : World) (m : Map) (w : World) (a : Act), HRel P B K w0 m F G w → ERel m env a.tmps →
      OpSim P o a w fun v' w' => ∃ m', m.le m' ∧ HRel P B K w0 m' F' G' w' ∧ VRel m' v v' := by
  unfold opS at h
  split at h
  · rename_i s hs
    split at h
    · rename_i t ho
      split at h
      · rename_i z hz
        unfold placeC at h
        split at h
        · rename_i hh
          refine ⟨_, _, _, h, fun B K w0 m w a hR hE next Q hn => ?_⟩
          obtain ⟨i, zv, h1, h2, h3⟩ := zeroT_some hz
          obtain ⟨p1, p2⟩ := hR.setF (grown_push w zv.cells t) (cells_rel (ofValue_rel h3)) (isHole_spec hh)
          refine wp_of_value (v' := .pointer (some ⟨w.heap.size, 0, none⟩)) (w' := pushRow w zv.cells t) ?_ next Q (hn _ _ ⟨_, p1, p2, .loc _ _ _ (by simp [Map.addF])⟩)
          simp only [execOp, ho]
          refine run_v ?_
          simp only [Instr.alloc, zeroValue, typeInfo, Sem.run_bind, run_program, Result.andThen_ok, h1, h2, Sem.run_pure, newVar, run_newRow]
        · cases h
      · cases h
    · rename_i t x ho
      split at h
      · rename_i z hz
        unfold placeC at h
        split at h
        · rename_i hh
          refine ⟨_, _, _, h, fun B K w0 m w a hR hE next Q hn => ?_⟩
          obtain ⟨p1, p2⟩ := hR.setF (grown_push w (a.eval x).cells t) (cells_rel (ev_rel hE hz)) (isHole_spec hh)
          refine wp_of_value (v' := .pointer (some ⟨w.heap.size, 0, none⟩)) (w' := pushRow w (a.eval x).cells t) ?_ next Q (hn _ _ ⟨_, p1, p2, .loc _ _ _ (by simp [Map.addF])⟩)
          simp only [execOp, ho]
          refine run_v ?_
          simp only [Instr.box, newVar, Sem.run_bind, run_newRow, Result.andThen_ok, Sem.run_pure]
        · cases h
      · cases h
    · cases h
  · split at h
    · rename_i s hgs
      split at h
      case isFalse => cases h
      rename_i hbs
      cases ho : o.op with
      | buildSlice t len ps =>
        simp only [opC, ho] at h
        split at h
        · rename_i e vs hu hv
          split at h
          · rename_i z hz
            split at h
            · rename_i hc
              obtain ⟨q1, q2, q3⟩ := hc
              split at h
              · rename_i cs hcs
                split at h
                · rename_i hn
                  simp only [gnew, List.nil_append] at h
                  split at h
                  · rename_i hh
                    refine ⟨_, _, _, h, fun B K w0 m w a hR hE next Q hnx => ?_⟩
                    simp only [Bool.and_eq_true] at hn
                    obtain ⟨i, zv, z1, z2, z3⟩ := zeroT_some hz
                    have hsz : P.cellsOf e = i.size := by simp [Program.cellsOf, z1]
                    obtain ⟨out', h4, h5⟩ := fill_rel (evParts_rel hE hv) (arep_rel (m := m) (n := len) z3 q2 q3) hcs
                    have hrun : (Instr.buildSlice t len (ps.map fun (i, x) => (i, a.eval x))).run P w = .ok (.slice (some ⟨w.heap.size, 0, none⟩) len len) (pushRow w out' e) := by
                      have h4' : Instr.fill (fun x => some (x * i.size, i.size)) ((Array.range (len * i.size)).map fun x => zv.cells[x % zv.cells.size]!) (ps.map fun (i, x) => (i, a.eval x)).toList = some out' := by
                        rw [← hsz, ← h4]; simp
                      have n1 : ¬ (len * i.size > 2 ^ 24) := by rw [← hsz]; omega
                      simp only [Instr.buildSlice, Sem.run_bind, run_und hu, Result.andThen_ok, run_sizeI z1, if_neg n1]
                      by_cases hz0 : len * i.size = 0
                      · have e1 : (Array.range (len * i.size)) = #[] := by rw [hz0]; rfl
                        rw [e1] at h4'
                        simp only [Array.map_empty] at h4'
                        simp only [hz0, if_true]
                        simp only [show Array.range 0 = #[] from rfl, Array.map_empty, h4', Sem.run_bind, run_newRow, Result.andThen_ok, Sem.run_pure]
                      · simp only [if_neg hz0, Sem.run_bind, run_zero z1 z2, Result.andThen_ok, Sem.run_pure, h4', run_newRow]
                    obtain ⟨p1, p2⟩ := hR.setG (grown_push w out' e) (cellsAt_noF h5 hn.1 hn.2) (by rw [h5.1]; exact Nat.le_refl _) (.inl rfl) (isHoleG_spec hh)
                    refine wp_of_value (v' := .slice (some ⟨w.heap.size, 0, none⟩) len len) (w' := pushRow w out' e) ?_ next Q (hnx _ _ ⟨_, p1, p2, ?_⟩)
                    · simp only [execOp, ho]
                      exact run_v hrun
                    · refine .slice ⟨s, 0⟩ _ _ _ (Map.addG_self _ _ _) (Nat.le_refl _) fun _ => ?_
                      have hl : out'.size = len * P.cellsOf e := by
                        rw [← h5.1, s_buildSlice.fillI_len hcs, rep_len, q2]
                      simp [hl]
                  · cases h
                · cases h
              · cases h
            · cases h
          · cases h
        · cases h
      | _ => rw [isBS, ho] at hbs; simp at hbs
    split at h
    · split at h
      · obtain ⟨v, F', G', h1, h2⟩ := op_sim hO h
        split at h1
        · exact ⟨v, F', G', h1, h2⟩
        · cases h1
      · cases h
    · split at h
      · exact op_sim hO h
      · cases h

theorem opsS_nat (hN : NatO O) {all : Array Oper} : ∀ {os : List Oper} {env : List IV} {F : List (List IV)} {G : GH} {k : List IV → List (List IV) → GH → Option R} {r : R}, opsS P O lo sl gs gb all os env F G k = some r →
    ∃ env' F' G', OpsToS P O lo sl gs gb all os env F G env' F' G'
  | [], env, F, G, k, r, h => ⟨env, F, G, fun k' => rfl⟩
  | o :: os, env, F, G, k, r, h => by
    rw [opsS_cons] at h
    cases hw : wantI all o env with
    | none => rw [hw] at h; cases h
    | some b =>
      rw [hw] at h
      cases b
      · obtain ⟨env', F', G', h1⟩ := opsS_nat hN h
        exact ⟨env', F', G', fun k' => by rw [opsS_cons, hw]; exact h1 k'⟩
      · obtain ⟨v, F1, G1, h1⟩ := opS_nat hN h
        rw [h1] at h
        obtain ⟨env', F', G', h2⟩ := opsS_nat hN h
        exact ⟨env', F', G', fun k' => by rw [opsS_cons, hw]; simp only; rw [h1]; exact h2 k'⟩
/-- One step, carried out or passed over. -/
def StepToS (P : Program) (O : Ora R) (lo : List Nat) (sl : Oper → Option Nat) (gs : Oper → Option Nat) (gb : Nat) (all : Array Oper) (o : Oper) (env : List IV) (F : List (List IV)) (G : GH) (v : IV) (F' : List (List IV)) (G' : GH) : Prop :=
  (wantI all o env = some true ∧ OpToS P O lo sl gs gb o env F G v F' G') ∨ (wantI all o env = some false ∧ v = undefI ∧ F' = F ∧ G' = G)

theorem StepToS.eq {o : Oper} {env : List IV} {F F' : List (List IV)} {G G' : GH} {v : IV} (h : StepToS P O lo sl gs gb all o env F G v F' G') (os : List Oper) (k : List IV → List (List IV) → GH → Option R) :
    opsS P O lo sl gs gb all (o :: os) env F G k = opsS P O lo sl gs gb all os (putI env o.dst v) F' G' k := by
  rcases h with ⟨hw, h⟩ | ⟨hw, rfl, rfl, rfl⟩
  · rw [opsS_cons, hw]; simp only; rw [h]
  · rw [opsS_cons, hw]
theorem step_runS {o : Oper} {env : List IV} {F F' : List (List IV)} {G G' : GH} {v : IV} (hw : wantI all o env = some true) (h : OpToS P O lo sl gs gb o env F G v F' G') : StepToS P O lo sl gs gb all o env F G v F' G' := .inl ⟨hw, h⟩
theorem step_passS {o : Oper} {env : List IV} (hw : wantI all o env = some false) (F : List (List IV)) (G : GH) : StepToS P O lo sl gs gb all o env F G undefI F G := .inr ⟨hw, rfl, rfl, rfl⟩

theorem step_natS (hN : NatO O) {o : Oper} {os : List Oper} {env : List IV} {F : List (List IV)} {G : GH} {k : List IV → List (List IV) → GH → Option R} {r : R} (h : opsS P O lo sl gs gb all (o :: os) env F G k = some r) :
    ∃ v F' G', StepToS P O lo sl gs gb all o env F G v F' G' := by
  rw [opsS_cons] at h
  cases hw : wantI all o env with
  | none => rw [hw] at h; cases h
  | some b =>
    rw [hw] at h
    cases b
    · exact ⟨_, _, _, step_passS hw F G⟩
    · obtain ⟨v, F1, G1, h1⟩ := opS_nat hN h
      exact ⟨v, F1, G1, step_runS hw h1⟩

theorem step_clsS (hN : NatO O) {o : Oper} {os : List Oper} {env : List IV} {F : List (List IV)} {G : GH} {k : List IV → List (List IV) → GH → Option R} {r : R} (h : opsS P O lo sl gs gb all (o :: os) env F G k = some r) :
    ClsS gb (StepToS P O lo sl gs gb all o env) F G (fpSW P lo sl gs all env o) := by
  rw [opsS_cons] at h
  unfold fpSW
  cases hw : wantI all o env with
  | none => rw [hw] at h; cases h
  | some b =>
    rw [hw] at h
    cases b
    · exact ⟨undefI, fun F2 G2 => step_passS hw F2 G2⟩
    · exact (opS_cls hN h).mono fun F G v F' G' q => step_runS hw q

theorem apOf_env {o : Oper} {env env2 : List IV} (h : ∀ t, t ∈ opAddrs all o → env[t]? = env2[t]?) : apOf env o.op = apOf env2 o.op := by
  unfold apOf
  split
  · rename_i c ho
    split
    · rename_i t u hcc hca
      have h1 := h t (by unfold opAddrs; rw [ho]; simp only [hcc, hca]; simp)
      have h2 := h u (by unfold opAddrs; rw [ho]; simp only [hcc, hca]; simp)
      unfold tmpv
      rw [h1, h2]
    · rfl
  · rfl
theorem fpW_envS {o : Oper} {env env2 : List IV} (h : ∀ t, t ∈ opAddrs all o → env[t]? = env2[t]?) : fpSW P lo sl gs all env o = fpSW P lo sl gs all env2 o := by
  unfold fpSW
  rw [wantI_env h]
  unfold fpS
  rw [fpOp_env h, apOf_env h]

/-- What an operation looks at. -/
theorem step_envS {o : Oper} {env env2 : List IV} (h : ∀ t, t ∈ o.looksAt all → env[t]? = env2[t]?) {F F' : List (List IV)} {G G' : GH} {v : IV} (hs : StepToS P O lo sl gs gb all o env F G v F' G') :
    StepToS P O lo sl gs gb all o env2 F G v F' G' := by
  have hop : ∀ t, Operand.tmp t ∈ o.op.operands → env[t]? = env2[t]? := fun t ht => h t (by
    unfold Oper.looksAt
    refine List.mem_append.2 (.inl (List.mem_filterMap.2 ⟨.tmp t, by simpa using ht, rfl⟩)))
  have hw : wantI all o env = wantI all o env2 := by
    unfold wantI
    cases hg : o.guard with
    | none => rfl
    | some jw =>
      obtain ⟨j, want⟩ := jw
      simp only
      cases hd : (all[j]?).bind (·.dst) with
      | none => rfl
      | some d =>
        simp only
        rw [h d (by simp [Oper.looksAt, hg, hd])]
  rcases hs with ⟨h1, h2⟩ | ⟨h1, h2⟩
  · exact .inl ⟨hw ▸ h1, fun k => by rw [← opS_env hop]; exact h2 k⟩
  · exact .inr ⟨hw ▸ h1, h2⟩

/-- What none of them sets stays as it is. -/
theorem keep_opsS (hN : NatO O) (r : R) {d : Nat} : ∀ {os : List Oper} {env E : List IV} {F F' : List (List IV)} {G G' : GH}, OpsToS P O lo sl gs gb all os env F G E F' G' → (∀ o ∈ os, o.dst ≠ some d) → E[d]? = env[d]?
  | [], env, E, F, F', G, G', h, _ => by
    classical
    have := h fun e _ _ => if e[d]? = env[d]? then some r else none
    simp only [opsS, if_true] at this
    by_cases hc : E[d]? = env[d]?
    · exact hc
    · rw [if_neg hc] at this; cases this
  | o :: os, env, E, F, F', G, G', h, hd => by
    obtain ⟨v, F1, G1, h1⟩ := step_natS hN (h fun _ _ _ => some r)
    have h2 : OpsToS P O lo sl gs gb all os (putI env o.dst v) F1 G1 E F' G' := fun k => by rw [← h1.eq]; exact h k
    rw [keep_opsS hN r h2 fun o ho => hd o (by simp [ho])]
    exact put_get_ne fun d' hd' => fun e => hd o (by simp) (by rw [hd', e])

/-- Two neighbours change places. -/
theorem swap_opsS (hN : NatO O) (r : R) {x y : Oper} {rest : List Oper} {env E : List IV} {F F' : List (List IV)} {G G' : GH} (H : OpsToS P O lo sl gs gb all (x :: y :: rest) env F G E F' G')
    (hap : x.apart all y = true) (hp : fsOk (fpSW P lo sl gs all E x) (fpSW P lo sl gs all E y) = true) (hxs : selfOk all x = true) (hys : selfOk all y = true) (hxl : ∀ z ∈ y :: rest, lateOk all x z = true) (hyl : ∀ z ∈ rest, lateOk all y z = true) :
    OpsToS P O lo sl gs gb all (y :: x :: rest) env F G E F' G' := by
  obtain ⟨a1, a2, a3⟩ := Oper.apart_spec hap
  have Hs := H fun _ _ _ => some r
  have kx : ∀ t, t ∈ opAddrs all x → env[t]? = E[t]? := fun t ht => (keep_opsS hN r H fun o ho => by
    rcases List.mem_cons.1 ho with rfl | ho
    · exact self_spec hxs t ht
    · exact (late_spec (hxl o ho)).1 t ht).symm
  have ky : ∀ t, t ∈ opAddrs all y → env[t]? = E[t]? := fun t ht => (keep_opsS hN r H fun o ho => by
    rcases List.mem_cons.1 ho with rfl | ho
    · exact fun e => a1 t e (addrs_looks ht)
    · rcases List.mem_cons.1 ho with rfl | ho
      · exact self_spec hys t ht
      · exact (late_spec (hyl o ho)).1 t ht).symm
  have cx := step_clsS hN Hs
  rw [fpW_envS kx] at cx
  have yenv : ∀ v t, t ∈ y.looksAt all → (putI env x.dst v)[t]? = env[t]? := fun v t ht => put_get_ne fun d hd e => a1 d hd (e ▸ ht)
  have xenv : ∀ v t, t ∈ x.looksAt all → env[t]? = (putI env y.dst v)[t]? := fun v t ht => (put_get_ne fun d hd e => a3 d hd (e ▸ ht)).symm
  have after : ∀ {v1 F1 G1}, StepToS P O lo sl gs gb all x env F G v1 F1 G1 → OpsToS P O lo sl gs gb all (y :: rest) (putI env x.dst v1) F1 G1 E F' G' := fun h k => by rw [← h.eq]; exact H k
  have cy : ∀ v1 F1 G1, StepToS P O lo sl gs gb all x env F G v1 F1 G1 → ClsS gb (StepToS P O lo sl gs gb all y env) F1 G1 (fpSW P lo sl gs all E y) := fun v1 F1 G1 h1 => by
    have h2 := step_clsS hN (after h1 fun _ _ _ => some r)
    have he : fpSW P lo sl gs all (putI env x.dst v1) y = fpSW P lo sl gs all E y := fpW_envS fun t ht => by rw [yenv v1 t (addrs_looks ht), ky t ht]
    rw [he] at h2
    exact h2.mono fun _ _ _ _ _ q => step_envS (yenv v1) q
  obtain ⟨v1, F1, G1, v2, F2, G2, Fa, Ga, s1, s2, s3, s4⟩ := commS cx cy hp
  intro k
  have t2 : StepToS P O lo sl gs gb all y (putI env x.dst v1) F1 G1 v2 F2 G2 := step_envS (fun t ht => (yenv v1 t ht).symm) s2
  have t4 : StepToS P O lo sl gs gb all x (putI env y.dst v2) Fa Ga v1 F2 G2 := step_envS (xenv v2) s4
  rw [s3.eq, t4.eq, ← put_commI fun d hd => a2 d hd, ← t2.eq, ← s1.eq]
  exact H k

/-- One comes to the front. -/
theorem front_opsS (hN : NatO O) (r : R) {y : Oper} {post : List Oper} {E : List IV} {F' : List (List IV)} {G' : GH} : ∀ {pre : List Oper} {env : List IV} {F : List (List IV)} {G : GH}, OpsToS P O lo sl gs gb all (pre ++ y :: post) env F G E F' G' →
    (∀ x ∈ pre, x.apart all y = true ∧ fsOk (fpSW P lo sl gs all E x) (fpSW P lo sl gs all E y) = true) → (pre ++ y :: post).Pairwise (fun x z => lateOk all x z = true) → (∀ x ∈ pre ++ y :: post, selfOk all x = true) →
    OpsToS P O lo sl gs gb all (y :: (pre ++ post)) env F G E F' G'
  | [], env, F, G, H, _, _, _ => H
  | x :: pre, env, F, G, H, hx, hl, hs => by
    obtain ⟨v, F1, G1, h1⟩ := step_natS hN (H fun _ _ _ => some r)
    have hl2 := List.pairwise_cons.1 hl
    have h2 : OpsToS P O lo sl gs gb all (pre ++ y :: post) (putI env x.dst v) F1 G1 E F' G' := fun k => by rw [← h1.eq]; exact H k
    have h3 := front_opsS hN r h2 (fun z hz => hx z (by simp [hz])) hl2.2 (fun z hz => hs z (by simp only [List.cons_append, List.mem_cons]; exact .inr hz))
    have h4 : OpsToS P O lo sl gs gb all (x :: y :: (pre ++ post)) env F G E F' G' := fun k => by rw [h1.eq]; exact h3 k
    obtain ⟨p1, p2⟩ := hx x (by simp)
    refine swap_opsS hN r h4 p1 p2 (hs x (by simp)) (hs y (by simp)) (fun z hz => hl2.1 z ?_) (fun z hz => ?_)
    · rcases List.mem_cons.1 hz with h | h
      · exact List.mem_append.2 (.inr (List.mem_cons.2 (.inl h)))
      · rcases List.mem_append.1 h with h | h
        · exact List.mem_append.2 (.inl h)
        · exact List.mem_append.2 (.inr (List.mem_cons.2 (.inr h)))
    · rcases List.mem_append.1 hz with h | h
      · obtain ⟨q, _⟩ := hx z (by simp [h])
        obtain ⟨b1, b2, b3⟩ := Oper.apart_spec q
        unfold lateOk
        cases hd : z.dst with
        | none => rfl
        | some d =>
          simp only [Bool.and_eq_true, Bool.not_eq_true', List.contains_eq_mem, decide_eq_false_iff_not]
          refine ⟨fun hm => b1 d hd (addrs_looks hm), ?_⟩
          have := b2 d hd
          simp [this]
      · have := (List.pairwise_append.1 hl2.2).2.1
        exact (List.pairwise_cons.1 this).1 z h
end
structure DrawN (P : Program) (lo : List Nat) (sl gs : Oper → Option Nat) (ops : Array Oper) (E : List IV) : Prop where
  self : ∀ (j : Nat) (y : Oper), ops[j]? = some y → selfOk ops y = true
  edge : ∀ (j : Nat) (y : Oper), ops[j]? = some y → ∀ e ∈ y.after, Region.binds .any e = true → e.on < j
  late : ∀ (i j : Nat) (x y : Oper), ops[i]? = some x → ops[j]? = some y → i < j → lateOk ops x y = true
  pair : ∀ (i j : Nat) (x y : Oper), ops[i]? = some x → ops[j]? = some y → i < j → ((ancs ops.toList []).getD j 0).testBit i = false → x.apart ops y = true ∧ fsOk (fpSW P lo sl gs ops E x) (fpSW P lo sl gs ops E y) = true

theorem drawN_spec {P : Program} {lo : List Nat} {sl gs : Oper → Option Nat} {gb : Nat} {ops : Array Oper} {E : List IV} (h : drawN P lo sl gs ops E = true) : DrawN P lo sl gs ops E := by
  unfold drawN at h
  have H : ∀ (j : Nat) (y : Oper), ops[j]? = some y → (selfOk ops y = true ∧ y.after.toList.all (fun e => !Region.binds .any e || decide (e.on < j)) = true) ∧ (List.range j).all (fun i => match ops[i]? with
        | none => true
        | some x => lateOk ops x y && (((ancs ops.toList []).getD j 0).testBit i || (x.apart ops y && fsOk (fpSW P lo sl gs ops E x) (fpSW P lo sl gs ops E y)))) = true := fun j y hy => by
    have := List.all_eq_true.1 h j (List.mem_range.2 (Array.getElem?_eq_some_iff.1 hy).1)
    simp only [hy, Bool.and_eq_true] at this
    exact this
  have H2 : ∀ (i j : Nat) (x y : Oper), ops[i]? = some x → ops[j]? = some y → i < j → lateOk ops x y = true ∧ (((ancs ops.toList []).getD j 0).testBit i = true ∨ (x.apart ops y = true ∧ fsOk (fpSW P lo sl gs ops E x) (fpSW P lo sl gs ops E y) = true)) := fun i j x y hx hy hij => by
    have := List.all_eq_true.1 (H j y hy).2 i (List.mem_range.2 hij)
    simp only [hx, Bool.and_eq_true, Bool.or_eq_true] at this
    exact this
  refine ⟨fun j y hy => (H j y hy).1.1, fun j y hy e he hb => ?_, fun i j x y hx hy hij => (H2 i j x y hx hy hij).1, fun i j x y hx hy hij hn => ?_⟩
  · have := List.all_eq_true.1 (H j y hy).1.2 e (by simpa using he)
    simpa [hb] using this
  · rcases (H2 i j x y hx hy hij).2 with h | h
    · rw [hn] at h; cases h
    · exact h

section
variable {R : Type} {P : Program} {O : Ora R} {lo : List Nat} {sl gs : Oper → Option Nat} {gb : Nat} {ops : Array Oper} {E : List IV} {F' : List (List IV)} {G' : GH} {B K : Nat → Prop} {w0 : World}
theorem opsTo_nilS (r : R) {env : List IV} {F : List (List IV)} {G : GH} (h : OpsToS P O lo sl gs gb ops [] env F G E F' G') : env = E ∧ F = F' ∧ G = G' := by
  classical
  have h' : ∀ k : List IV → List (List IV) → GH → Option R, k env F G = k E F' G' := h
  by_cases h1 : env = E ∧ F = F' ∧ G = G'
  · exact h1
  · have := h' fun e f g => if e = E ∧ f = F' ∧ g = G' then some r else none
    simp only [and_self, if_true] at this
    rw [if_neg h1] at this
    cases this

theorem draw_anyS (hO : GoodO P O) (hN : NatO O) (r : R) (hD : DrawN P lo sl gs ops E) {Q : Exit → Act → World → Prop} : ∀ (n : Nat) (rem : List (Nat × Oper)) (listed : Array Bool) (a : Act) (w : World) (env : List IV) (F : List (List IV)) (G : GH) (m : Map),
    rem.length = n → Rest ops listed rem → OpsToS P O lo sl gs gb ops (rem.map (·.2)) env F G E F' G' → HRel P B K w0 m F G w → ERel m env a.tmps → After P B K w0 m E F' G' a (Q .normal) →
    wpAny P .any ops Q n listed a w
  | 0, rem, listed, a, w, env, F, G, m, hn, hr, H, hR, hE, hQ => by
    have : rem = [] := List.length_eq_zero_iff.1 hn
    subst this
    obtain ⟨rfl, rfl, rfl⟩ := opsTo_nilS r H
    refine ⟨List.eq_nil_iff_forall_not_mem.2 fun i hi => ?_, hQ m w a m.le_refl hR hE rfl⟩
    obtain ⟨h1, o, h2, _⟩ := mem_ready.1 hi
    have := hr.all i o h2 h1
    cases this
  | n + 1, rem, listed, a, w, env, F, G, m, hn, hr, H, hR, hE, hQ => by
    refine ⟨fun h0 => ?_, fun i hi => ?_⟩
    · exfalso
      cases rem with
      | nil => simp at hn
      | cons p rem =>
        have hp := hr.at_ p (by simp)
        have hin : p.1 ∈ Region.ready .any ops listed := mem_ready.2 ⟨hr.un p (by simp), p.2, hp, fun e he hb => by
          have hlt := hD.edge _ _ hp e he hb
          have hpz := (Array.getElem?_eq_some_iff.1 hp).1
          cases hl : listed.getD e.on false with
          | true => rfl
          | false =>
            have h1 := hr.all e.on ops[e.on] (Array.getElem?_eq_getElem (by omega)) (getD_un (by rw [hr.size]; omega) hl)
            rcases List.mem_cons.1 h1 with h1 | h1
            · rw [← h1] at hlt; simp at hlt
            · have := (List.pairwise_cons.1 hr.sorted).1 _ h1
              simp at this; omega⟩
        rw [h0] at hin
        cases hin
    · obtain ⟨hun, o, hio, hedges⟩ := mem_ready.1 hi
      obtain ⟨pre, post, hsplit⟩ := List.append_of_mem (hr.all i o hio hun)
      have hsort := hr.sorted
      rw [hsplit] at hsort
      have hanc : ∀ j, ((ancs ops.toList []).getD i 0).testBit j = true → listed.getD j false = true := fun j hb => by
        obtain ⟨o', h1, e, he, hbd, h2⟩ := anc_edge hb
        rw [hio] at h1
        injection h1 with h1
        subst h1
        rcases h2 with h2 | h2
        · rw [← h2]; exact hedges e he hbd
        · exact hr.down e.on (hedges e he hbd) j h2
      -- it comes to the front
      have H' : OpsToS P O lo sl gs gb ops (o :: (pre ++ post).map (·.2)) env F G E F' G' := by
        rw [hsplit, List.map_append, List.map_cons] at H
        rw [List.map_append]
        refine front_opsS hN r H (fun x hx => ?_) ?_ (fun x hx => ?_)
        · obtain ⟨p, hp, rfl⟩ := List.mem_map.1 hx
          have hpr : p ∈ rem := by rw [hsplit]; exact List.mem_append.2 (.inl hp)
          have hlt : p.1 < i := (List.pairwise_append.1 hsort).2.2 p hp (i, o) (by simp)
          refine hD.pair p.1 i p.2 o (hr.at_ p hpr) hio hlt ?_
          cases hb : ((ancs ops.toList []).getD i 0).testBit p.1 with
          | false => rfl
          | true =>
            have h1 := hanc _ hb
            have h2 := getD_both (hr.un p hpr)
            rw [h1] at h2
            cases h2
        · rw [show pre.map (·.2) ++ o :: post.map (·.2) = (pre ++ (i, o) :: post).map (·.2) by simp, List.pairwise_map, ← hsplit]
          exact hr.sorted.imp_of_mem fun {p q} hp hq h => hD.late _ _ _ _ (hr.at_ p hp) (hr.at_ q hq) h
        · rw [show pre.map (·.2) ++ o :: post.map (·.2) = (pre ++ (i, o) :: post).map (·.2) by simp, ← hsplit] at hx
          obtain ⟨p, hp, rfl⟩ := List.mem_map.1 hx
          exact hD.self _ _ (hr.at_ p hp)
      have hi_size : i < listed.size := by rw [hr.size]; exact (Array.getElem?_eq_some_iff.1 hio).1
      have hmem : ∀ p ∈ pre ++ post, p ∈ rem ∧ p.1 ≠ i := fun p hp => by
        rw [hsplit]
        rcases List.mem_append.1 hp with h | h
        · exact ⟨List.mem_append.2 (.inl h), fun e => by
            have : p.1 < i := (List.pairwise_append.1 hsort).2.2 p h (i, o) (by simp)
            omega⟩
        · exact ⟨List.mem_append.2 (.inr (List.mem_cons.2 (.inr h))), fun e => by
            have : i < p.1 := (List.pairwise_cons.1 (List.pairwise_append.1 hsort).2.1).1 p h
            omega⟩
      have hr' : Rest ops (listed.setIfInBounds i true) (pre ++ post) := by
        refine ⟨fun p hp => hr.at_ p (hmem p hp).1, ?_, fun j oj hj hu => ?_, fun p hp => ?_, by simp [hr.size], fun j hj k hk => ?_⟩
        · refine hsort.sublist ?_
          exact List.Sublist.append_left (List.sublist_cons_self _ _) pre
        · by_cases hji : i = j
          · subst hji; simp [hi_size] at hu
          · rw [getD_set_ne true hji] at hu
            have := hr.all j oj hj hu
            rw [hsplit] at this
            rcases List.mem_append.1 this with h | h
            · exact List.mem_append.2 (.inl h)
            · rcases List.mem_cons.1 h with h | h
              · injection h with h; exact absurd h.symm hji
              · exact List.mem_append.2 (.inr h)
        · rw [getD_set_ne true (Ne.symm (hmem p hp).2)]
          exact hr.un p (hmem p hp).1
        · refine getD_set_true ?_
          by_cases hji : i = j
          · subst hji; exact hanc k hk
          · rw [getD_set_ne false hji] at hj
            exact hr.down j hj k hk
      have hlen : (pre ++ post).length = n := by
        rw [hsplit] at hn; simp at hn ⊢; omega
      unfold wpOp
      rw [hio]
      simp only
      have h0 := H' fun _ _ _ => some r
      rw [opsS_cons] at h0
      cases hw : wantI ops o env with
      | none => rw [hw] at h0; cases h0
      | some b =>
        have hwant := wantI_wanted hw hE
        rw [hw] at h0
        cases b
        · rw [hwant]
          simp only [Bool.false_eq_true, if_false]
          have hs : StepToS P O lo sl gs gb ops o env F G undefI F G := step_passS hw F G
          exact draw_anyS hO hN r hD n (pre ++ post) _ _ w _ F G m hlen hr' (fun k => by rw [← hs.eq]; exact H' k) hR (hE.put (VRel.undef m) o.dst) fun m2 w2 a2 l q e d => hQ m2 w2 a2 l q e (d.trans (put_defers a _ _))
        · rw [hwant]
          simp only [if_true]
          simp only at h0
          obtain ⟨v, F1, G1, h1⟩ := opS_nat hN h0
          have hs : StepToS P O lo sl gs gb ops o env F G v F1 G1 := step_runS hw h1
          classical
          have h2 : opS P O lo sl gs gb o env F G (fun v' f g => if v' = v ∧ f = F1 ∧ g = G1 then some r else none) = some r := by rw [h1]; simp
          obtain ⟨v', F1', G1', h3, h4⟩ := opS_sim hO h2
          split at h3
          · rename_i he
            obtain ⟨rfl, rfl, rfl⟩ := he
            refine .inl (h4 B K w0 m w a hR hE _ Q fun u w' ⟨m', q1, q2, q3⟩ => ?_)
            exact draw_anyS hO hN r hD n (pre ++ post) _ _ w' _ F1' G1' m' hlen hr' (fun k => by rw [← hs.eq]; exact H' k) q2 ((hE.mono q1).put q3 o.dst) fun m2 w2 a2 l q e d =>
              hQ m2 w2 a2 (Map.le_trans q1 l) q e (d.trans (put_defers a _ _))
          · cases h3


theorem draw_regionS (hm : P.follows .mixedOrders = true) (hO : GoodO P O) (hN : NatO O) {id : Nat} {env : List IV} {F X : List (List IV)} {G Y : GH} {k : List IV → List (List IV) → GH → Option R} {r : R}
    (h : opsS P O lo sl gs gb ops ops.toList env (F ++ X) (G ++ Y) (fun env F G => if drawN P lo sl gs ops env = true then k env F G else none) = some r) :
    ∃ env' F' G', k env' F' G' = some r ∧ ∀ (B K : Nat → Prop) (w0 : World) (m : Map) (w : World) (a : Act) (Q : Exit → Act → World → Prop), HRel P B K w0 m F G w → ERel m env a.tmps →
      After P B K w0 m env' F' G' a (Q .normal) → (Code.region id ops true).wp P Q a w := by
  obtain ⟨E, F', G', h1⟩ := opsS_nat hN h
  rw [h1] at h
  split at h
  · rename_i hD
    refine ⟨E, F', G', h, fun B K w0 m w a Q hR hE hQ => wp_region_any hm ?_⟩
    refine draw_anyS hO hN r (drawN_spec (gb := gb) hD) ops.size _ _ a _ env (F ++ X) (G ++ Y) m ?_ rest_start (by rw [start_map]; exact h1) (((hR.grow (below_drawn w _)).holes X).holesG Y) hE hQ
    have := congrArg List.length (start_map (ops := ops))
    simpa using this
  · cases h
end
end Go.LI

/-! What code comes to does not hang on what follows. -/
set_option linter.unusedVariables false
namespace Go.LI
open Go Go.RowKit

section
variable {R : Type} {P : Program} {O : Ora R} {lo : List Nat}

theorem storeC_nat {t : TypeId} {x v : IV} {F : List (List IV)} {G : GH} {k : List (List IV) → GH → Option R} {r : R} (h : storeC P t x v F G k = some r) : ∃ F' G', ∀ k' : List (List IV) → GH → Option R, storeC P t x v F G k' = k' F' G' := by
  rw [storeC_param] at h
  cases hs : storeC P t x v F G (fun F G => some (F, G)) with
  | none => rw [hs] at h; cases h
  | some p => exact ⟨p.1, p.2, fun k' => by rw [storeC_param, hs]; rfl⟩

theorem region_nat (hN : NatO O) {fuel id : Nat} {ops : Array Oper} {draw : Bool} {env : List IV} {F : List (List IV)} {G : GH} {k : Ex → List IV → List (List IV) → GH → Option R} {r : R} (h : codeC P O lo fuel (.region id ops draw) env F G k = some r) :
    ∃ env' F' G', ∀ k' : Ex → List IV → List (List IV) → GH → Option R, codeC P O lo fuel (.region id ops draw) env F G k' = k' .normal env' F' G' := by
  simp only [codeC] at h
  cases draw
  · simp only [Bool.false_eq_true, if_false] at h
    obtain ⟨env', F', G', h1⟩ := ops_nat hN h
    exact ⟨env', F', G', fun k' => by simp only [codeC, Bool.false_eq_true, if_false]; exact h1 _⟩
  · simp only [if_true] at h
    by_cases hmk : lo.contains (nMark + id) = true
    · rw [if_pos hmk] at h
      obtain ⟨env1, F1, G1, h1⟩ := opsS_nat hN h
      rw [h1] at h
      split at h
      · rename_i hD
        exact ⟨env1, F1, G1, fun k' => by
          simp only [codeC, if_true]
          rw [if_pos hmk, h1, if_pos hD]⟩
      · cases h
    rw [if_neg hmk] at h
    split at h
    · rename_i hd
      obtain ⟨env1, F1, G1, h1⟩ := ops_nat hN h
      rw [h1] at h
      obtain ⟨env2, F2, G2, h2⟩ := ops_nat hN h
      exact ⟨env2, F2, G2, fun k' => by simp only [codeC, if_true]; rw [if_neg hmk, if_pos hd, h1, h2]⟩
    · rename_i hd
      split at h
      · rename_i hs
        split at h
        · rename_i t x v ty pos after guard hop
          split at h
          · rename_i b i hx
            obtain ⟨env1, F1, G1, h1⟩ := ops_nat hN h
            rw [h1] at h
            split at h
            · rename_i b' i' v' hx1 hv1
              split at h
              · rename_i hbi
                obtain ⟨F2, G2, h2⟩ := storeC_nat h
                rw [h2] at h
                obtain ⟨env3, F3, G3, h3⟩ := ops_nat hN h
                exact ⟨env3, F2, G2, fun k' => by
                  simp only [codeC, if_true]
                  rw [if_neg hmk, if_neg hd, if_pos hs, hop]
                  simp only
                  rw [hx]
                  simp only
                  rw [h1, hx1, hv1]
                  simp only
                  rw [if_pos hbi, h2, h3]⟩
              · cases h
            · cases h
          · cases h
        · cases h
      · rename_i hs
        obtain ⟨env1, F1, G1, h1⟩ := ops_nat hN h
        rw [h1] at h
        split at h
        · rename_i hD
          exact ⟨env1, F1, G1, fun k' => by
            simp only [codeC, if_true]
            rw [if_neg hmk, if_neg hd, if_neg hs, h1, if_pos hD]⟩
        · cases h

/-- So code comes to its end. -/
def CodeTo (P : Program) (O : Ora R) (lo : List Nat) (fuel : Nat) (c : Code) (env : List IV) (F : List (List IV)) (G : GH) : Prop :=
  ∃ e env' F' G', ∀ k : Ex → List IV → List (List IV) → GH → Option R, codeC P O lo fuel c env F G k = k e env' F' G'

theorem stepN_some {n : Nat} {x : Option R} {r : R} (h : stepN n x = some r) : ∃ m, n = m + 1 ∧ x = some r := by
  cases n with
  | zero => cases h
  | succ m => exact ⟨m, rfl, h⟩

theorem code_nat (hN : NatO O) {fuel : Nat} : ∀ (c : Code) {env : List IV} {F : List (List IV)} {G : GH} {k : Ex → List IV → List (List IV) → GH → Option R} {r : R}, codeC P O lo fuel c env F G k = some r → CodeTo P O lo fuel c env F G
  | .skip, env, F, G, k, r, h => ⟨.normal, env, F, G, fun k' => rfl⟩
  | .region id ops draw, env, F, G, k, r, h => by
    obtain ⟨env', F', G', h1⟩ := region_nat hN h
    exact ⟨.normal, env', F', G', h1⟩
  | .seq x y, env, F, G, k, r, h => by
    simp only [codeC] at h
    by_cases hc : cutS x y = true
    · rw [if_pos hc] at h
      cases hmq : maskQ lo (4 * headId y + 2)
      · rw [hmq, cond_false] at h
        obtain ⟨n, rfl, h⟩ := stepN_some h
        obtain ⟨e, env1, F1, G1, h1⟩ := code_nat hN x h
        rw [h1] at h
        cases e with
        | normal =>
          obtain ⟨e2, env2, F2, G2, h2⟩ := code_nat hN y h
          exact ⟨e2, env2, F2, G2, fun k' => by simp only [codeC]; rw [if_pos hc, hmq, cond_false]; simp only [stepN]; rw [h1]; exact h2 k'⟩
        | exit id => exact ⟨.exit id, env1, F1, G1, fun k' => by simp only [codeC]; rw [if_pos hc, hmq, cond_false]; simp only [stepN]; rw [h1]⟩
        | ret => exact ⟨.ret, env1, F1, G1, fun k' => by simp only [codeC]; rw [if_pos hc, hmq, cond_false]; simp only [stepN]; rw [h1]⟩
      · rw [hmq, cond_true] at h
        obtain ⟨n, rfl, h⟩ := stepN_some h
        obtain ⟨e, env1, F1, G1, h1⟩ := code_nat hN x h
        rw [h1] at h
        simp only [kpD] at h
        cases e with
        | normal =>
          obtain ⟨e2, env2, F2, G2, h2⟩ := code_nat hN y h
          exact ⟨e2, env2, F2, G2, fun k' => by simp only [codeC]; rw [if_pos hc, hmq, cond_true]; simp only [stepN]; rw [h1]; simp only [kpD]; exact h2 k'⟩
        | exit id => exact ⟨.exit id, _, _, G1, fun k' => by simp only [codeC]; rw [if_pos hc, hmq, cond_true]; simp only [stepN]; rw [h1]; rfl⟩
        | ret => exact ⟨.ret, _, _, G1, fun k' => by simp only [codeC]; rw [if_pos hc, hmq, cond_true]; simp only [stepN]; rw [h1]; rfl⟩
    · rw [if_neg hc] at h
      obtain ⟨e, env1, F1, G1, h1⟩ := code_nat hN x h
      rw [h1] at h
      cases e with
      | normal =>
        obtain ⟨e2, env2, F2, G2, h2⟩ := code_nat hN y h
        exact ⟨e2, env2, F2, G2, fun k' => by simp only [codeC]; rw [if_neg hc, h1]; exact h2 k'⟩
      | exit id => exact ⟨.exit id, env1, F1, G1, fun k' => by simp only [codeC]; rw [if_neg hc, h1]⟩
      | ret => exact ⟨.ret, env1, F1, G1, fun k' => by simp only [codeC]; rw [if_neg hc, h1]⟩
  | .cond c x y, env, F, G, k, r, h => by
    simp only [codeC] at h
    split at h
    · rename_i t ht
      cases t
      · obtain ⟨e, env1, F1, G1, h1⟩ := code_nat hN y h
        exact ⟨e, env1, F1, G1, fun k' => by simp only [codeC]; rw [ht]; exact h1 k'⟩
      · obtain ⟨e, env1, F1, G1, h1⟩ := code_nat hN x h
        exact ⟨e, env1, F1, G1, fun k' => by simp only [codeC]; rw [ht]; exact h1 k'⟩
    · cases h
  | .block id c, env, F, G, k, r, h => by
    simp only [codeC] at h
    obtain ⟨e, env1, F1, G1, h1⟩ := code_nat hN c h
    cases e with
    | normal => exact ⟨.normal, env1, F1, G1, fun k' => by simp only [codeC]; rw [h1]⟩
    | exit j =>
      by_cases hj : j = id
      · exact ⟨.normal, env1, F1, G1, fun k' => by simp only [codeC]; rw [h1]; simp only; rw [if_pos hj]⟩
      · exact ⟨.exit j, env1, F1, G1, fun k' => by simp only [codeC]; rw [h1]; simp only; rw [if_neg hj]⟩
    | ret => exact ⟨.ret, env1, F1, G1, fun k' => by simp only [codeC]; rw [h1]⟩
  | .loop c, env, F, G, k, r, h => by
    simp only [codeC] at h
    cases hmq : maskQ lo (4 * headId c)
    · rw [hmq, cond_false] at h
      have key : ∀ (n : Nat) {env : List IV} {F : List (List IV)} {G : GH}, loopN (fun env F G k => codeC P O lo fuel c env F G k) n env F G k = some r →
          ∃ e env' F' G', ∀ k' : Ex → List IV → List (List IV) → GH → Option R, loopN (fun env F G k => codeC P O lo fuel c env F G k) n env F G k' = k' e env' F' G' := by
        intro n
        induction n with
        | zero => intro env F G h; simp [loopN] at h
        | succ n ih =>
          intro env F G h
          simp only [loopN] at h
          obtain ⟨e, env1, F1, G1, h1⟩ := code_nat hN c h
          rw [h1] at h
          cases e with
          | normal =>
            obtain ⟨e2, env2, F2, G2, h2⟩ := ih h
            exact ⟨e2, env2, F2, G2, fun k' => by simp only [loopN]; rw [h1]; exact h2 k'⟩
          | exit j => exact ⟨.exit j, env1, F1, G1, fun k' => by simp only [loopN]; rw [h1]⟩
          | ret => exact ⟨.ret, env1, F1, G1, fun k' => by simp only [loopN]; rw [h1]⟩
      obtain ⟨e, env1, F1, G1, h1⟩ := key fuel h
      exact ⟨e, env1, F1, G1, fun k' => by simp only [codeC]; rw [hmq, cond_false]; exact h1 k'⟩
    · rw [hmq, cond_true] at h
      have key : ∀ (n : Nat) {env : List IV} {F : List (List IV)} {G : GH}, loopN (fun env F G k => codeC P O lo fuel c env F G (kpD lo (4 * headId c) F.length k)) n env F G k = some r →
          ∃ e env' F' G', ∀ k' : Ex → List IV → List (List IV) → GH → Option R, loopN (fun env F G k => codeC P O lo fuel c env F G (kpD lo (4 * headId c) F.length k)) n env F G k' = k' e env' F' G' := by
        intro n
        induction n with
        | zero => intro env F G h; simp [loopN] at h
        | succ n ih =>
          intro env F G h
          simp only [loopN] at h
          obtain ⟨e, env1, F1, G1, h1⟩ := code_nat hN c h
          rw [h1] at h
          simp only [kpD] at h
          cases e with
          | normal =>
            obtain ⟨e2, env2, F2, G2, h2⟩ := ih h
            exact ⟨e2, env2, F2, G2, fun k' => by simp only [loopN]; rw [h1]; simp only [kpD]; exact h2 k'⟩
          | exit j => exact ⟨.exit j, _, _, G1, fun k' => by simp only [loopN]; rw [h1]; rfl⟩
          | ret => exact ⟨.ret, _, _, G1, fun k' => by simp only [loopN]; rw [h1]; rfl⟩
      obtain ⟨e, env1, F1, G1, h1⟩ := key fuel h
      exact ⟨e, env1, F1, G1, fun k' => by simp only [codeC]; rw [hmq, cond_true]; exact h1 k'⟩
  | .exit id, env, F, G, k, r, h => ⟨.exit id, env, F, G, fun k' => rfl⟩
  | .ret, env, F, G, k, r, h => ⟨.ret, env, F, G, fun k' => rfl⟩
  | .rangeFunc _ _ _ _, env, F, G, k, r, h => by simp [codeC] at h
  | .scope _, env, F, G, k, r, h => by simp [codeC] at h
  | .label _, env, F, G, k, r, h => by simp [codeC] at h
  | .goto _, env, F, G, k, r, h => by simp [codeC] at h
  | .refuse _, env, F, G, k, r, h => by simp [codeC] at h

theorem resL_nat {env : List IV} {F : List (List IV)} {G : GH} : ∀ {rs : List ResultVar} {k : List IV → Option R} {r : R}, resL P env F G rs k = some r → ∃ vs, ∀ k' : List IV → Option R, resL P env F G rs k' = k' vs
  | [], k, r, h => ⟨[], fun k' => rfl⟩
  | .tmp t :: rs, k, r, h => by
    simp only [resL] at h
    split at h
    · rename_i v hv
      obtain ⟨vs, h1⟩ := resL_nat h
      exact ⟨v :: vs, fun k' => by simp only [resL]; rw [hv]; exact h1 _⟩
    · cases h
  | .cell a t :: rs, k, r, h => by
    simp only [resL] at h
    split at h
    · rename_i x hx
      rw [loadC_param] at h
      cases hl : loadC P t x F G some with
      | none => rw [hl] at h; cases h
      | some v =>
        rw [hl] at h
        obtain ⟨vs, h1⟩ := resL_nat h
        exact ⟨v :: vs, fun k' => by simp only [resL]; rw [hx]; simp only; rw [loadC_param, hl]; exact h1 _⟩
    · cases h

theorem resC_nat {fn : Func} {env : List IV} {F : List (List IV)} {G : GH} {k : IV → GH → Option R} {r : R} (h : resC P fn env F G k = some r) : ∃ v, ∀ k' : IV → GH → Option R, resC P fn env F G k' = k' v G := by
  unfold resC at h
  obtain ⟨vs, h1⟩ := resL_nat h
  rw [h1] at h
  split at h
  · rename_i v
    split at h
    · rename_i hn
      exact ⟨v, fun k' => by unfold resC; rw [h1]; simp only; rw [if_pos hn]⟩
    · cases h
  · rename_i hne
    split at h
    · rename_i hn
      refine ⟨.tuple vs, fun k' => ?_⟩
      unfold resC
      rw [h1]
      split
      · rename_i v; exact absurd rfl (hne v)
      · rw [if_pos hn]
    · cases h

theorem extern_nat {fn : Func} {args : List IV} {G : GH} {k : IV → GH → Option R} {r : R} (h : externC fn args G k = some r) : ∃ v, ∀ k' : IV → GH → Option R, externC fn args G k' = k' v G := by
  have key : ∀ k' : IV → GH → Option R, externC fn args G k' = (externC fn args G fun v _ => some v).bind fun v => k' v G := by
    intro k'
    have ib : ∀ (c : Prop) [Decidable c] (x y : Option R) (x' y' : Option IV), x = x'.bind (fun v => k' v G) → y = y'.bind (fun v => k' v G) → (if c then x else y) = (if c then x' else y').bind (fun v => k' v G) := by
      intro c _ x y x' y' h1 h2
      split <;> assumption
    unfold externC externS
    repeat' first
      | rfl
      | refine ib _ _ _ _ _ ?_ ?_
      | split
  rw [key] at h
  cases hx : externC fn args G fun v _ => some v with
  | none => rw [hx] at h; cases h
  | some v => exact ⟨v, fun k' => by rw [key, hx]; rfl⟩

theorem body_nat (hN : NatO O) {fuel : Nat} {fn : Func} {args : List IV} {G : GH} {k : IV → GH → Option R} {r : R} (h : bodyC P O lo fuel fn args G k = some r) : ∃ v G', ∀ k' : IV → GH → Option R, bodyC P O lo fuel fn args G k' = k' v G' := by
  unfold bodyC at h
  split at h
  · rename_i hb
    obtain ⟨v, h1⟩ := extern_nat h
    exact ⟨v, G, fun k' => by unfold bodyC; rw [hb]; exact h1 k'⟩
  · rename_i c hc
    obtain ⟨e, env', F', G', h1⟩ := code_nat hN c h
    rw [h1] at h
    cases e with
    | exit id => cases h
    | normal =>
      obtain ⟨v, h2⟩ := resC_nat h
      exact ⟨v, G', fun k' => by unfold bodyC; rw [hc]; simp only; rw [h1]; exact h2 k'⟩
    | ret =>
      obtain ⟨v, h2⟩ := resC_nat h
      exact ⟨v, G', fun k' => by unfold bodyC; rw [hc]; simp only; rw [h1]; exact h2 k'⟩

end
end Go.LI

/-! Functions without a Go body: what the model says of them. -/
set_option linter.unusedVariables false
namespace Go.LI
open Go Go.RowKit

section
variable {R : Type} {P : Program} {B K : Nat → Prop} {w0 : World} {m : Map} {G : GH} {w : World} {r : R} {fn : Func}

theorem find_f64bits (h : fn.name = "math.Float64bits") (ho : fn.origin = "") : Extern.findNext fn = none ∧ Extern.find fn = some Extern.MathFloatBits.float64bits := by
  unfold Extern.findNext Extern.find
  rw [h, ho]
  exact ⟨by kernel_rfl, by kernel_rfl⟩
theorem find_f64from (h : fn.name = "math.Float64frombits") (ho : fn.origin = "") : Extern.findNext fn = none ∧ Extern.find fn = some Extern.MathFloatBits.float64frombits := by
  unfold Extern.findNext Extern.find
  rw [h, ho]
  exact ⟨by kernel_rfl, by kernel_rfl⟩
theorem find_f32bits (h : fn.name = "math.Float32bits") (ho : fn.origin = "") : Extern.findNext fn = none ∧ Extern.find fn = some Extern.MathFloatBits.float32bits := by
  unfold Extern.findNext Extern.find
  rw [h, ho]
  exact ⟨by kernel_rfl, by kernel_rfl⟩
theorem find_f32from (h : fn.name = "math.Float32frombits") (ho : fn.origin = "") : Extern.findNext fn = none ∧ Extern.find fn = some Extern.MathFloatBits.float32frombits := by
  unfold Extern.findNext Extern.find
  rw [h, ho]
  exact ⟨by kernel_rfl, by kernel_rfl⟩
theorem find_add64 (h : fn.name = "math/bits.Add64") (ho : fn.origin = "") : Extern.findNext fn = none ∧ Extern.find fn = some (fun args => do
    let (x, y, c) ← Extern.MathBitsCarry.three "Add64" args
    pure (Extern.MathBitsCarry.pair ((x + y + c) % Extern.MathBitsCarry.m64) ((x + y + c) / Extern.MathBitsCarry.m64))) := by
  unfold Extern.findNext Extern.find
  rw [h, ho]
  exact ⟨by kernel_rfl, by kernel_rfl⟩
theorem find_sub64 (h : fn.name = "math/bits.Sub64") (ho : fn.origin = "") : Extern.findNext fn = none ∧ Extern.find fn = some (fun args => do
    let (x, y, b) ← Extern.MathBitsCarry.three "Sub64" args
    pure (Extern.MathBitsCarry.pair ((x + Extern.MathBitsCarry.m64 - y - b) % Extern.MathBitsCarry.m64) (if x < y + b then 1 else 0))) := by
  unfold Extern.findNext Extern.find
  rw [h, ho]
  exact ⟨by kernel_rfl, by kernel_rfl⟩
theorem find_floor (h : fn.name = "math.archFloor") (ho : fn.origin = "") : Extern.findNext fn = none ∧ Extern.find fn = some (Extern.MathFloor.toIntegral "math.archFloor" .down) := by
  unfold Extern.findNext Extern.find
  rw [h, ho]
  exact ⟨by kernel_rfl, by kernel_rfl⟩
theorem find_index (h : fn.name = "internal/bytealg.IndexByteString") (ho : fn.origin = "") : Extern.findNext fn = none ∧ Extern.find fn = some Extern.BytealgIndexByte.indexByte := by
  unfold Extern.findNext Extern.find
  rw [h, ho]
  exact ⟨by kernel_rfl, by kernel_rfl⟩
theorem find_indexS (h : fn.name = "internal/bytealg.IndexByte") (ho : fn.origin = "") : Extern.findNext fn = none ∧ Extern.find fn = some Extern.BytealgIndexByte.indexByte := by
  unfold Extern.findNext Extern.find
  rw [h, ho]
  exact ⟨by kernel_rfl, by kernel_rfl⟩
theorem find_count (h : fn.name = "internal/bytealg.CountString") (ho : fn.origin = "") : Extern.findNext fn = none ∧ Extern.find fn = some Extern.BytealgCount.count := by
  unfold Extern.findNext Extern.find
  rw [h, ho]
  exact ⟨by kernel_rfl, by kernel_rfl⟩

/-- Such a call, in the model. -/
theorem run_extern {f : FuncId} {args' : Array Value} {e : Array Value → Sem Value} {v' : Value} (hf : P.funcs[f]? = some fn) (hn : (fn.name == "runtime.NumGoroutine") = false) (hb : fn.body = none)
    (hx : Extern.findNext fn = none ∧ Extern.find fn = some e) (hr : (e args').run P w = .ok v' w) : (callFunc f args').run P w = .ok (.value v') w := by
  have hn' : ¬ fn.name = "runtime.NumGoroutine" := by simpa using hn
  simp [callFunc, hf, hn', hb, hx.1, hx.2, hr]

theorem arel1 {a : IV} {args' : Array Value} (h : ARel m [a] args') : ∃ x, args' = #[x] ∧ VRel m a x := by
  obtain ⟨hs, hv⟩ := h
  obtain ⟨l⟩ := args'
  match l, hs with
  | [x], _ => exact ⟨x, rfl, hv 0 a x rfl rfl⟩
theorem arel2 {a b : IV} {args' : Array Value} (h : ARel m [a, b] args') : ∃ x y, args' = #[x, y] ∧ VRel m a x ∧ VRel m b y := by
  obtain ⟨hs, hv⟩ := h
  obtain ⟨l⟩ := args'
  match l, hs with
  | [x, y], _ => exact ⟨x, y, rfl, hv 0 a x rfl rfl, hv 1 b y rfl rfl⟩
theorem arel3 {a b c : IV} {args' : Array Value} (h : ARel m [a, b, c] args') : ∃ x y z, args' = #[x, y, z] ∧ VRel m a x ∧ VRel m b y ∧ VRel m c z := by
  obtain ⟨hs, hv⟩ := h
  obtain ⟨l⟩ := args'
  match l, hs with
  | [x, y, z], _ => exact ⟨x, y, z, rfl, hv 0 a x rfl rfl, hv 1 b y rfl rfl, hv 2 c z rfl rfl⟩

theorem vrel_pair (m : Map) (a b : Int) : VRel m (.tuple [.int .u64 a, .int .u64 b]) (.tuple #[.int .u64 a, .int .u64 b]) := .tuple _ _ rfl fun i iv v h1 h2 => by
  match i with
  | 0 => simp at h1 h2; subst h1; subst h2; exact .int _ _
  | 1 => simp at h1 h2; subst h1; subst h2; exact .int _ _
  | i + 2 => simp at h1

/-- What an extern gives the model's call gives. -/
def ExOut (P : Program) (fn : Func) (args : List IV) (G : GH) (k : IV → GH → Option R) (r : R) : Prop :=
  ∃ v, k v G = some r ∧ noLoc v = true ∧ ∃ e, (Extern.findNext fn = none ∧ Extern.find fn = some e) ∧ ∀ (m : Map) (w : World) (args' : Array Value), ARel m args args' → MemOk P m [] G w → ∃ v', (e args').run P w = .ok v' w ∧ VRel m v v'

theorem run_three (name : String) (kx ky kc : IntKind) (x y c : Int) (hc : ¬ c.toNat > 1) (w : World) : (Extern.MathBitsCarry.three name #[.int kx x, .int ky y, .int kc c]).run P w = .ok (x.toNat, y.toNat, c.toNat) w := by
  have e : Extern.MathBitsCarry.three name #[.int kx x, .int ky y, .int kc c] = (if c.toNat > 1 then ((unsupported (.noEntry ("extern/math/bits." ++ name ++ ": a carry that is neither 0 nor 1")) : Sem PUnit) >>= fun _ => pure (x.toNat, y.toNat, c.toNat)) else pure (x.toNat, y.toNat, c.toNat)) := rfl
  rw [e, if_neg hc]
  rfl

/-- The floor of what is no NaN. -/
def floorF (x : Nat) (d : Ieee.Datum) : Sem Value :=
  match d with
  | .nan s t =>
    if FloatKind.f64.format.quiet t = t then pure (.float .f64 x) else
      choose (.extern "math.Floor,Ceil,Trunc,RoundToEven.signallingNaN kept" 2) >>= fun kept => pure (.float .f64 (if kept == 1 then x else FloatKind.f64.encode (.nan s (FloatKind.f64.format.quiet t))))
  | d => pure (.float .f64 (FloatKind.f64.encode (d.integral .down)))
theorem run_floor {x : Nat} (hd : ∀ s t, FloatKind.f64.decode x = .nan s t → False) (w : World) : (Extern.MathFloor.toIntegral "math.archFloor" .down #[.float .f64 x]).run P w = .ok (.float .f64 (FloatKind.f64.encode ((FloatKind.f64.decode x).integral .down))) w := by
  have e : Extern.MathFloor.toIntegral "math.archFloor" .down #[.float .f64 x] = floorF x (FloatKind.f64.decode x) := rfl
  rw [e]
  cases h : FloatKind.f64.decode x with
  | nan s t => exact (hd s t h).elim
  | number s m i => rfl
  | infinity s => rfl

theorem externS_out (ho : fn.origin = "") {args : List IV} {k : IV → GH → Option R} (h : externS fn args G k = some r) : ExOut P fn args G k r := by
  unfold externS at h
  split at h
  · rename_i hn
    split at h
    · rename_i a n c
      split at h
      · rename_i l hl
        refine ⟨_, h, rfl, _, find_indexS hn ho, fun m w args' hA hM => ?_⟩
        obtain ⟨x, y, rfl, hx, hy⟩ := arel2 hA
        cases hy
        cases a with
        | none =>
          simp only [bytesS] at hl
          split at hl
          · rename_i h0
            injection hl with hl
            subst hl
            cases hx
            exact ⟨_, Go.Lib.run_indexByteNil w _ _ _, .int _ _⟩
          · cases hl
        | some ga =>
          simp only [bytesS] at hl
          cases hg : grd G ga n with
          | none => rw [hg] at hl; cases hl
          | some cs =>
            rw [hg] at hl
            obtain ⟨ns, e1, e2⟩ := asBytes_some hl
            subst e1
            cases hx with
            | slice _ en _ cc he hnc hrw =>
              obtain ⟨l', g1, g2, g3, g4⟩ := grd_cells hM hg he
              have hlen : ns.length = n := by have := (grd_some hg).1; simpa using this
              have h4 := ints_rel (by rw [g1]; exact hlen.symm) g3
              refine ⟨_, Go.Lib.run_indexByteSlice w _ _ n cc ns hlen (fun i hi => ?_) _, ?_⟩
              · refine g4 i _ ?_
                rw [h4, List.getElem?_map, List.getElem?_eq_getElem (by omega)]
                simp [List.getD, List.getElem?_eq_getElem (by omega : i < ns.length)]
              · rw [show l = Go.Lib.bytesOf ns from e2]; exact .int _ _
            | sliceE _ a' =>
              have h0 : ns = [] := by
                have := (grd_some hg).1
                simpa using this
              subst h0
              rw [e2]
              exact ⟨_, Go.Lib.run_indexByteString (P := P) .empty c w, .int _ _⟩
      · cases h
    · cases h
  · cases h

theorem extern_out {args : List IV} {k : IV → GH → Option R} (h : externC fn args G k = some r) : ExOut P fn args G k r := by
  unfold externC at h
  split at h
  · rename_i ho
    split at h
    · rename_i hn
      split at h
      · exact ⟨_, h, rfl, _, find_f64bits hn ho, fun m w args' hA hM => by
          obtain ⟨x, rfl, hx⟩ := arel1 hA
          cases hx
          exact ⟨_, rfl, .int _ _⟩⟩
      · cases h
    split at h
    · rename_i hn
      split at h
      · exact ⟨_, h, rfl, _, find_f64from hn ho, fun m w args' hA hM => by
          obtain ⟨x, rfl, hx⟩ := arel1 hA
          cases hx
          exact ⟨_, rfl, .float _ _⟩⟩
      · cases h
    split at h
    · rename_i hn
      split at h
      · exact ⟨_, h, rfl, _, find_f32bits hn ho, fun m w args' hA hM => by
          obtain ⟨x, rfl, hx⟩ := arel1 hA
          cases hx
          exact ⟨_, rfl, .int _ _⟩⟩
      · cases h
    split at h
    · rename_i hn
      split at h
      · exact ⟨_, h, rfl, _, find_f32from hn ho, fun m w args' hA hM => by
          obtain ⟨x, rfl, hx⟩ := arel1 hA
          cases hx
          exact ⟨_, rfl, .float _ _⟩⟩
      · cases h
    split at h
    · rename_i hn
      split at h
      · split at h
        · cases h
        · rename_i hc
          exact ⟨_, h, rfl, _, find_add64 hn ho, fun m w args' hA hM => by
            obtain ⟨x, y, z, rfl, hx, hy, hz⟩ := arel3 hA
            cases hx; cases hy; cases hz
            refine ⟨_, ?_, vrel_pair m _ _⟩
            simp only [Sem.run_bind, run_three _ _ _ _ _ _ _ hc, Result.andThen_ok, Sem.run_pure]
            rfl⟩
      · cases h
    split at h
    · rename_i hn
      split at h
      · split at h
        · cases h
        · rename_i hc
          exact ⟨_, h, rfl, _, find_sub64 hn ho, fun m w args' hA hM => by
            obtain ⟨x, y, z, rfl, hx, hy, hz⟩ := arel3 hA
            cases hx; cases hy; cases hz
            refine ⟨_, ?_, vrel_pair m _ _⟩
            simp only [Sem.run_bind, run_three _ _ _ _ _ _ _ hc, Result.andThen_ok, Sem.run_pure]
            rfl⟩
      · cases h
    split at h
    · rename_i hn
      split at h
      · split at h
        · cases h
        · rename_i d hd
          exact ⟨_, h, rfl, _, find_floor hn ho, fun m w args' hA hM => by
            obtain ⟨x, rfl, hx⟩ := arel1 hA
            cases hx
            exact ⟨_, run_floor hd w, .float _ _⟩⟩
      · cases h
    split at h
    · rename_i hn
      split at h
      · exact ⟨_, h, rfl, _, find_index hn ho, fun m w args' hA hM => by
          obtain ⟨x, y, rfl, hx, hy⟩ := arel2 hA
          cases hx; cases hy
          exact ⟨_, Go.Lib.run_indexByteString _ _ w, .int _ _⟩⟩
      · cases h
    split at h
    · rename_i hn
      split at h
      · exact ⟨_, h, rfl, _, find_count hn ho, fun m w args' hA hM => by
          obtain ⟨x, y, rfl, hx, hy⟩ := arel2 hA
          cases hx; cases hy
          exact ⟨_, Go.Lib.run_countString _ _ w, .int _ _⟩⟩
      · cases h
    · exact externS_out ho h
  · cases h

theorem extern_sim {f : FuncId} (hf : P.funcs[f]? = some fn) (hn : (fn.name == "runtime.NumGoroutine") = false) (hb : fn.body = none) {args : List IV} {k : IV → GH → Option R} (h : externC fn args G k = some r) :
    ∃ v G', k v G' = some r ∧ noLoc v = true ∧ ∀ (B K : Nat → Prop) (w0 : World) (m : Map) (w : World) (args' : Array Value), (∀ i, m.f i = none) → ARel m args args' → HRel P B K w0 m [] G w →
      CallSim P f args' w fun v' w' => ∃ m', m.le m' ∧ (∀ i, m'.f i = none) ∧ HRel P B K w0 m' [] G' w' ∧ VRel m' v v' := by
  obtain ⟨v, h1, h2, e, h3, h4⟩ := extern_out (P := P) h
  refine ⟨v, G, h1, h2, fun B K w0 m w args' hmf hA hR => ?_⟩
  obtain ⟨v', q1, q2⟩ := h4 m w args' hA hR.mem
  exact .inr ⟨v', run_extern hf hn hb h3 q1, m, m.le_refl, hmf, hR, q2⟩
end
end Go.LI

/-! A region whose order is drawn, in which one operation writes a local variable and the others read alone. -/
set_option linter.unusedVariables false
namespace Go.LI
open Go Go.RowKit

section
variable {P : Program} {ops : Array Oper} {md : Region.Mode} {D : Bool → World} {s : Nat}

/-- In this world the operation comes to this value, and leaves that world. -/
def RunsTo (P : Program) (o : Oper) (a : Act) (w : World) (v : Value) (w' : World) : Prop :=
  (execOp a.eval o).run P w = .ok (.value v) w' ∨ ((execOp a.eval o).run P w = .ok .skip w' ∧ v = Go.undef)

/-- Whether or not the one that writes (number s) has come up. -/
def YO (P : Program) (D : Bool → World) (s : Nat) (i : Nat) (o : Oper) (v : Value) (a : Act) : Prop :=
  ∀ d, (i = s → d = false) → RunsTo P o a (D d) v (D (d || decide (i = s)))

def qO (P : Program) (ops : Array Oper) (D : Bool → World) (s : Nat) (i : Nat) (K : Act → Prop) (a : Act) : Prop := ∃ o v, ops[i]? = some o ∧ YO P D s i o v a ∧ K (a.put o.dst v)

def wpAnyO (P : Program) (md : Region.Mode) (ops : Array Oper) (D : Bool → World) (s : Nat) (L : Act → Prop) : Nat → Array Bool → Act → Prop
  | 0, listed, a => Region.ready md ops listed = [] ∧ listed.getD s false = true ∧ L a
  | f + 1, listed, a => Region.ready md ops listed ≠ [] ∧ ∀ i ∈ Region.ready md ops listed, qO P ops D s i (wpAnyO P md ops D s L f (listed.setIfInBounds i true)) a

theorem qO_mono {i : Nat} {K K' : Act → Prop} {a : Act} (h : ∀ a, K a → K' a) (hh : qO P ops D s i K a) : qO P ops D s i K' a := by
  obtain ⟨o, v, h1, h2, h3⟩ := hh
  exact ⟨o, v, h1, h2, h _ h3⟩

theorem getD_set_self {listed : Array Bool} {i : Nat} (h : i < listed.size) : (listed.setIfInBounds i true).getD i false = true := by
  simp [h]

theorem wpAny_of_O {L : Act → Prop} {Q' : Exit → Act → World → Prop} (hg : ∀ (i : Nat) (o : Oper), ops[i]? = some o → o.guard = none) (hQ : ∀ a, L a → Q' .normal a (D true)) :
    ∀ (f : Nat) (listed : Array Bool) (a : Act), wpAnyO P md ops D s L f listed a → wpAny P md ops Q' f listed a (D (listed.getD s false))
  | 0, listed, a, h => ⟨h.1, by rw [h.2.1]; exact hQ a h.2.2⟩
  | f + 1, listed, a, h => by
    refine ⟨fun h0 => absurd h0 h.1, fun i hi => ?_⟩
    obtain ⟨o, v, h1, h2, h3⟩ := h.2 i hi
    have hun := (mem_ready.1 hi).1
    have hd : i = s → listed.getD s false = false := fun h => by subst h; exact getD_both hun
    have hw : (listed.getD s false || decide (i = s)) = (listed.setIfInBounds i true).getD s false := by
      by_cases his : i = s
      · subst his
        have hlt : i < listed.size := by
          rcases Nat.lt_or_ge i listed.size with h | h
          · exact h
          · simp [Array.getElem?_eq_none h] at hun
        rw [getD_set_self hlt]
        simp
      · rw [getD_set_ne false his]
        simp [his]
    have ih := wpAny_of_O hg hQ f _ _ h3
    rw [← hw] at ih
    unfold wpOp
    rw [h1]
    have hwant : Region.wanted o (yielded ops a.tmps) = true := by simp [Region.wanted, hg i o h1]
    simp only [hwant, if_true]
    refine .inl ?_
    unfold Oper.wp
    rcases h2 _ hd with h4 | ⟨h4, rfl⟩
    · rw [h4, Oper.upon_value]; exact ih
    · rw [h4, Oper.upon_skip]; exact ih

theorem qO_put {i j : Nat} {oi oj : Oper} {v : Value} (hj : ops[j]? = some oj) (hap : oi.apart ops oj = true)
    (hsi : ∀ cs b, oi.op ≠ .select cs b) (hsj : ∀ cs b, oj.op ≠ .select cs b) {K : Act → Prop} {a : Act} (hy : YO P D s i oi v a) (h : qO P ops D s j K (a.put oi.dst v)) :
    qO P ops D s j (fun a' => YO P D s i oi v a' ∧ K (a'.put oi.dst v)) a := by
  obtain ⟨h1, h2, h3⟩ := Oper.apart_spec hap
  obtain ⟨o, u, q1, q2, q3⟩ := h
  rw [hj] at q1
  injection q1 with q1
  subst q1
  refine ⟨oj, u, hj, fun d hd => ?_, fun d hd => ?_, by rw [← Act.put_comm a v u h2]; exact q3⟩
  · have := q2 d hd
    unfold RunsTo at *
    rwa [execOp_put oj hsj a oi.dst v h1] at this
  · have := hy d hd
    unfold RunsTo at *
    rwa [execOp_put oi hsi a oj.dst u h3]

theorem wpAnyO_first {L : Act → Prop} {i : Nat} {oi : Oper} {v : Value} (hi : ops[i]? = some oi) (hsel : ∀ (j : Nat) (o : Oper) cs b, ops[j]? = some o → o.op ≠ .select cs b) :
    ∀ (fuel : Nat) (listed : Array Bool) (a : Act),
      (∀ j oj, ops[j]? = some oj → j ≠ i → listed.getD j true = false → (∀ e ∈ oj.after, Region.binds md e = true → e.on ≠ i) → oi.apart ops oj = true) →
      i ∈ Region.ready md ops listed → YO P D s i oi v a →
      wpAnyO P md ops D s L fuel (listed.setIfInBounds i true) (a.put oi.dst v) → wpAnyO P md ops D s L (fuel + 1) listed a := by
  intro fuel
  induction fuel with
  | zero =>
    intro listed a _ hr hy H
    refine ⟨fun h => (by rw [h] at hr; cases hr), fun j hj => ?_⟩
    by_cases hji : j = i
    · subst hji; exact ⟨oi, v, hi, hy, H⟩
    · have := ready_mono hj hji
      rw [H.1] at this
      cases this
  | succ fuel ih =>
    intro listed a hfree hr hy H
    have hun := (mem_ready.1 hr).1
    refine ⟨fun h => (by rw [h] at hr; cases hr), fun j hj => ?_⟩
    by_cases hji : j = i
    · subst hji; exact ⟨oi, v, hi, hy, H⟩
    · have h1 := H.2 j (ready_mono hj hji)
      obtain ⟨hjun, oj, hoj, hall⟩ := mem_ready.1 hj
      have hnot : ∀ e ∈ oj.after, Region.binds md e = true → e.on ≠ i := fun e he hb heq => by
        have h1 := hall e he hb
        rw [heq, getD_both hun] at h1
        cases h1
      have h2 := qO_put hoj (hfree j oj hoj hji hjun hnot) (fun cs b => hsel i oi cs b hi) (fun cs b => hsel j oj cs b hoj) hy h1
      have hfree' : ∀ k ok, ops[k]? = some ok → k ≠ i → (listed.setIfInBounds j true).getD k true = false → (∀ e ∈ ok.after, Region.binds md e = true → e.on ≠ i) → oi.apart ops ok = true := fun k ok hk hki hun hno => by
        refine hfree k ok hk hki ?_ hno
        by_cases hjk : j = k
        · subst hjk; exact hjun
        · rw [getD_set_ne true hjk] at hun; exact hun
      refine qO_mono (fun a' h3 => ih (listed.setIfInBounds j true) a' hfree' (ready_mono hr (Ne.symm hji)) h3.1 ?_) h2
      rw [Array.setIfInBounds_comm _ _ hji]
      exact h3.2

/-- The lexical walk. -/
def lexO (P : Program) (D : Bool → World) (s : Nat) (L : Act → Prop) : List Oper → Nat → Act → Prop
  | [], _, a => L a
  | o :: l, k, a => ∃ v, YO P D s k o v a ∧ lexO P D s L l (k + 1) (a.put o.dst v)

theorem lexO_append {L : Act → Prop} : ∀ (l1 l2 : List Oper) (k : Nat) (a : Act), lexO P D s (fun a' => lexO P D s L l2 (k + l1.length) a') l1 k a → lexO P D s L (l1 ++ l2) k a
  | [], l2, k, a, h => h
  | o :: l1, l2, k, a, h => by
    obtain ⟨v, h1, h2⟩ := h
    refine ⟨v, h1, lexO_append l1 l2 (k + 1) _ ?_⟩
    rw [show k + 1 + l1.length = k + (o :: l1).length by simp; omega]
    exact h2

theorem wpAnyO_lex {L : Act → Prop} (hs : Region.noSelect ops = true) : ∀ (l : List Oper) (k : Nat) (listed : Array Bool) (a : Act), (∀ j, l[j]? = ops[k + j]?) → listed.size = ops.size → (s < k → listed.getD s false = true) → s < k + l.length →
    Region.lexFrom md ops l.length k listed = true → lexO P D s L l k a → wpAnyO P md ops D s L l.length listed a
  | [], k, listed, a, hl, hz, hk, hlt, hB, h => ⟨by simpa [Region.lexFrom] using hB, hk (by simpa using hlt), h⟩
  | o :: l, k, listed, a, hl, hz, hk, hlt, hB, h => by
    have h0 : ops[k]? = some o := by simpa using (hl 0).symm
    simp only [List.length_cons, Region.lexFrom, Bool.and_eq_true] at hB
    obtain ⟨⟨hr, hf⟩, hB'⟩ := hB
    obtain ⟨v, hy, hK⟩ := h
    have hkz : k < listed.size := by rw [hz]; exact (Array.getElem?_eq_some_iff.1 h0).1
    refine wpAnyO_first h0 (Region.noSelect_spec hs) l.length listed a (Region.free_spec h0 hf) (by simpa using hr) hy
      (wpAnyO_lex hs l (k + 1) _ _ (fun j => by have := hl (j + 1); simpa [Nat.add_assoc, Nat.add_comm 1 j] using this) (by simpa using hz) (fun hsk => ?_) (by simp at hlt; omega) hB' hK)
    by_cases hks : k = s
    · subst hks; exact getD_set_self hkz
    · rw [getD_set_ne false hks]; exact hk (by omega)

theorem wp_region_store {id : Nat} {Q : Exit → Act → World → Prop} {a : Act} {w : World} (hm : P.follows .mixedOrders = true) (hB : Region.lexB .any ops = true) (hg : ∀ (i : Nat) (o : Oper), ops[i]? = some o → o.guard = none)
    (hs : s < ops.size) (hD : D false = { w with drawn := w.drawn + 1 }) (h : lexO P D s (fun a' => Q .normal a' (D true)) ops.toList 0 a) : (Code.region id ops true).wp P Q a w := by
  simp only [Region.lexB, Bool.and_eq_true] at hB
  have H := wpAnyO_lex (md := .any) hB.1 ops.toList 0 (Array.replicate ops.size false) a (by simp) (by simp) (by omega) (by simpa using hs) (by simpa using hB.2) h
  refine wp_region_any hm ?_
  have := wpAny_of_O (Q' := Q) hg (fun a h => h) _ _ _ H
  rw [getD_replicate_false, hD] at this
  simpa using this
end

section
variable {R : Type} {P : Program} {B K : Nat → Prop} {w0 : World} {m : Map} {F : List (List IV)} {G : GH} {w : World} {O : Ora R} {lo : List Nat} {o : Oper} {env : List IV} {a : Act} {r : R}

/-- Two worlds that are one but for a row. -/
structure ButRow (w w' : World) (b : Nat) : Prop where
  os : w'.os = w.os
  tape : w'.tape = w.tape
  output : w'.output = w.output
  other : ∀ i, i ≠ b → w'.heap[i]? = w.heap[i]?

/-- An operation without a guard that neither makes nor writes memory, nor calls: it comes to one value in both worlds. -/
theorem lone_sim {k : IV → List (List IV) → GH → Option R} (hl : loneOp o.op = true) (h : opC P O lo true o env F G k = some r) :
    ∃ v, k v F G = some r ∧ ∀ (m : Map) (w : World) (a : Act), MemOk P m F G w → ERel m env a.tmps →
      ∃ v', VRel m v v' ∧ ∀ w' : World, Vis m F G w w' → w'.os = w.os → w'.tape = w.tape → w'.output = w.output → RunsTo P o a w' v' w' := by
  have hc : isCall o.op = false := by cases ho : o.op <;> rw [ho] at hl <;> first | rfl | (simp [loneOp] at hl)
  have hq : quietOp o.op = true := by cases ho : o.op <;> rw [ho] at hl <;> first | rfl | (simp [loneOp] at hl)
  have hcm : convMakes P o.op = false := by cases ho : o.op <;> rw [ho] at hl <;> first | rfl | (simp [loneOp] at hl)
  rw [opC_qparam (O' := fun _ _ _ _ => none) env F G k hc hq hcm] at h
  cases hx : opC P (fun _ _ _ _ => none) lo true o env F G (fun v _ _ => some v) with
  | none => rw [hx] at h; cases h
  | some v =>
    rw [hx] at h
    refine ⟨v, h, fun m w a hM hE => ?_⟩
    -- what does not look at memory: over an empty one
    have still : QuietOk P m o a { w with heap := #[] } F G (fun v _ _ => some v) v → ∃ v', VRel m v v' ∧ ∀ w' : World, Vis m F G w w' → w'.os = w.os → w'.tape = w.tape → w'.output = w.output → RunsTo P o a w' v' w' := by
      rintro ⟨v1, v', q1, q2, q3⟩
      injection q3 with q3
      subst q3
      exact ⟨v', q2, fun w' _ h1 h2 h3 => .inl (q1 w' ⟨h1, h2, h3, Nat.zero_le _, fun k hk => absurd hk (Nat.not_lt_zero k)⟩)⟩
    cases ho : o.op with
    | move x => exact still (q_move (.inl ho) hx hE)
    | assign x => exact still (q_move (.inr ho) hx hE)
    | pick c x y => exact still (q_pick ho hx hE)
    | build t ps => exact still (q_build ho hx hE)
    | nilCheck x => exact still (q_nilCheck ho hx hE)
    | binOp op t x y yt => exact still (q_binOp (by simp) ho hx hE)
    | unOp op t x => exact still (q_unOp ho hx hE)
    | makeInterface t x => exact still (q_makeInterface ho hx hE)
    | fieldAddr t x f => exact still (q_fieldAddr ho hx hE)
    | field t x f => exact still (q_field ho hx hE)
    | indexAddr t x y => exact still (q_indexAddr ho hx hE)
    | index t x y => exact still (q_index ho hx hE)
    | extract x i => exact still (q_extract ho hx hE)
    | load t x =>
      simp only [opC, ho] at hx
      split at hx
      · rename_i vx hvx
        obtain ⟨ad, v1, v', q1, q2, q3, q4⟩ := load_rel hM hx (ev_rel hE hvx)
        injection q4 with q4
        subst q4
        refine ⟨v', q3, fun w' hV _ _ _ => .inl ?_⟩
        simp only [execOp, ho]
        refine run_v ?_
        simp [Instr.loadAt, q1, Instr.sureAddr, q2 w' hV]
      · cases hx
    | _ => rw [ho] at hl; simp [loneOp] at hl

theorem Vis.self (m : Map) (F : List (List IV)) (G : GH) (w : World) : Vis m F G w w := ⟨fun _ _ _ _ _ => rfl, fun _ _ _ _ _ _ _ _ => rfl⟩

theorem lone_ops_sim {all : Array Oper} : ∀ {os : List Oper} {env : List IV} {k : List IV → List (List IV) → GH → Option R} {r : R}, (∀ o ∈ os, loneOp o.op = true ∧ o.guard = none) → opsC P O lo true all os env F G k = some r →
    ∃ env', k env' F G = some r ∧ ∀ (m : Map) (w : World) (a : Act), MemOk P m F G w → ERel m env a.tmps → ∃ a', ERel m env' a'.tmps ∧ a'.defers = a.defers ∧
      ∀ (D : Bool → World) (s n : Nat) (L : Act → Prop), D false = w → Vis m F G w (D true) → (D true).os = w.os → (D true).tape = w.tape → (D true).output = w.output → (s < n ∨ n + os.length ≤ s) → L a' → lexO P D s L os n a
  | [], env, k, r, _, h => ⟨env, h, fun m w a _ hE => ⟨a, hE, rfl, fun D s n L _ _ _ _ _ _ hL => hL⟩⟩
  | o :: os, env, k, r, hl, h => by
    obtain ⟨hlo, hg⟩ := hl o (by simp)
    simp only [opsC, hg] at h
    obtain ⟨v, h1, h2⟩ := lone_sim hlo h
    obtain ⟨env', h3, h4⟩ := lone_ops_sim (fun x hx => hl x (by simp [hx])) h1
    refine ⟨env', h3, fun m w a hM hE => ?_⟩
    obtain ⟨v', p1, p2⟩ := h2 m w a hM hE
    obtain ⟨a', e1, e2, e3⟩ := h4 m w _ hM (hE.put p1 o.dst)
    refine ⟨a', e1, e2.trans (put_defers a _ _), fun D s n L hD hV q1 q2 q3 hs hL => ?_⟩
    have hne : n ≠ s := by simp only [List.length_cons] at hs; omega
    refine ⟨v', fun d _ => ?_, e3 D s (n + 1) L hD hV q1 q2 q3 (by simp only [List.length_cons] at hs; omega) hL⟩
    rw [show (d || decide (n = s)) = d by simp [hne]]
    cases d
    · rw [hD]; exact p2 w (Vis.self m F G w) rfl rfl rfl
    · exact p2 _ hV q1 q2 q3

/-- A local variable is written: only its row turns. -/
theorem store_loc {b i : Nat} (h0 : HRel P B K w0 m F G w) {t : TypeId} {v : IV} {vx vv : Value} {k : List (List IV) → GH → Option R} {r : R} (h : storeC P t (.loc b i) v F G k = some r) (hx : VRel m (.loc b i) vx) (hv : VRel m v vv) :
    ∃ w' F' q, (Instr.storeAt t vx vv).run P w = .ok () w' ∧ HRel P B K w0 m F' G w' ∧ k F' G = some r ∧ m.f b = some q ∧ ButRow w w' q := by
  unfold storeC at h
  split at h
  · rename_i hc
    obtain ⟨hlen, hcell, hz⟩ := hc
    have hcr := cells_rel hv
    have hL : LRel m v.cells vv.cells.toList := ⟨by have := hcr.1; simpa using this, fun i iv v a b => hcr.2 i iv v a (by simpa using b)⟩
    obtain ⟨ii, hii, hs⟩ := cellsT_pos hz
    have hrun : ∀ ad w', (storeCells ad vv.cells.toList).run P w = .ok () w' → (Instr.storeAt t (.pointer (some ad)) vv).run P w = .ok () w' := by
      intro ad w' hw
      have : vv.cells.size = ii.size := by rw [hs, ← hlen]; exact hcr.1.symm
      simp only [Instr.storeAt, Instr.sureAddr, storeVar, Sem.run_bind, Sem.run_pure, Result.andThen_ok, run_sizeI hii, this, ne_eq, not_true_eq_false, if_false]
      exact hw
    simp only at h
    split at h
    · rename_i cs hcs
      split at h
      · rename_i hl
        cases hx with
        | loc _ _ q hq =>
          obtain ⟨c, t', hf⟩ := h0.fblk _ _ _ hcs hq
          obtain ⟨w', hw1, hw2⟩ := run_setCells (P := P) q i t' (0, 0) vv.cells.toList 0 c w hf.row (by have := hL.1; have := hf.size; omega) (fun x _ => by omega) (one_of_rel hL hcell)
          refine ⟨w', _, q, hrun _ w' hw1, ?_, h, hq, ⟨hw2.os, hw2.tape, hw2.output, hw2.other⟩⟩
          refine h0.writeF hcs hq hf hw2 ⟨by rw [splice_len hl, setAll_size, hf.size], ?_⟩
          have := splice_rel (b0 := 0) (Q := fun iv v => VRel m iv v) hl (by rw [hf.size]; omega) hL.1 (fun i iv hi => by rw [Nat.zero_add]; exact hf.cells i iv hi) hL.2
          intro j iv v hj hjv
          obtain ⟨v', h1, h2⟩ := this j iv hj
          rw [Nat.add_zero] at hjv
          rw [Nat.zero_add, Nat.zero_add] at h1
          rw [h1] at hjv
          injection hjv with hjv
          rw [← hjv]; exact h2
      · cases h
    · cases h
  · cases h

/-- With one box hidden all that is to be read stands apart from it. -/
theorem vis_hidden {b q : Nat} (h : HRel P B K w0 m F G w) {cs : List IV} (hcs : F[b]? = some cs) (hq : m.f b = some q) {w' : World} (hb : ButRow w w' q) : Vis m (F.set b []) G w w' where
  g := fun a iv e hg he => by
    refine hb.other _ fun hc => ?_
    obtain ⟨c, t, hf⟩ := h.fblk _ _ _ hcs hq
    unfold gld at hg
    split at hg
    · rename_i k hk
      split at hg
      · rename_i hmo
        obtain ⟨c1, t1, fr, hgb⟩ := h.gblk _ _ _ hk hmo he
        by_cases h1 : k.mode = 1
        · exact h.gf _ _ _ _ _ hk h1 he hq hc
        · exact hf.own (h.bk _ (hc ▸ hgb.ro (by omega)))
      · cases hg
    · cases hg
  f := fun i ds r o iv hi hr ho => by
    refine hb.other _ fun hc => ?_
    by_cases hib : b = i
    · subst hib
      rw [List.getElem?_set_self (List.getElem?_eq_some_iff.1 hcs).1] at hi
      injection hi with hi
      subst hi
      simp at ho
    · exact h.finj i b r q hr hq (Ne.symm hib) hc

theorem memok_hidden {b : Nat} (h : MemOk P m F G w) : MemOk P m (F.set b []) G w where
  g := h.g
  z := h.z
  f := fun i cs r hi hr => by
    by_cases hib : b = i
    · subst hib
      have hlt : b < F.length := by have := (List.getElem?_eq_some_iff.1 hi).1; simpa using this
      rw [List.getElem?_set_self hlt] at hi
      injection hi with hi
      subst hi
      exact ⟨(h.f b F[b] r (List.getElem?_eq_getElem hlt) hr).1, fun o iv ho => by simp at ho⟩
    · rw [List.getElem?_set_ne hib] at hi
      exact h.f i cs r hi hr

theorem loneN_all : ∀ (os : List Oper), ∀ o ∈ os.take (loneN os), loneOp o.op = true
  | [], o, h => by simp at h
  | x :: os, o, h => by
    simp only [loneN] at h
    split at h
    · rename_i hq
      simp only [List.take_succ_cons, List.mem_cons] at h
      rcases h with rfl | h
      · exact hq
      · exact loneN_all os o h
    · simp at h

theorem store_region (hm : P.follows .mixedOrders = true) {id : Nat} {ops : Array Oper} {k : Ex → List IV → List (List IV) → GH → Option R} (hds : drawS ops = true)
    (h : (match ops.toList[loneN ops.toList]? with
        | some ⟨none, .store t x v, _, _, _, _⟩ => match ev env x with
          | some (.loc b i) => opsC P O lo true ops (ops.toList.take (loneN ops.toList)) env (F.set b []) G fun env _ _ => match ev env x, ev env v with
            | some (.loc b' i'), some v => if b' = b ∧ i' = i then storeC P t (.loc b i) v F G fun F' G' =>
                opsC P O lo true ops (ops.toList.drop (loneN ops.toList + 1)) env (F.set b []) G fun env _ _ => k .normal env F' G'
              else none
            | _, _ => none
          | _ => none
        | _ => none) = some r) :
    ∃ env' F' G', k .normal env' F' G' = some r ∧ ∀ (B K : Nat → Prop) (w0 : World) (m : Map) (w : World) (a : Act) (Q : Exit → Act → World → Prop), HRel P B K w0 m F G w → ERel m env a.tmps →
      After P B K w0 m env' F' G' a (Q .normal) → (Code.region id ops true).wp P Q a w := by
  simp only [drawS, Bool.and_eq_true, decide_eq_true_eq] at hds
  obtain ⟨⟨⟨⟨hn, hpost⟩, hguard⟩, hB⟩, _⟩ := hds
  have hg : ∀ o ∈ ops.toList, o.guard = none := fun o ho => by have := List.all_eq_true.1 hguard o ho; simpa using this
  have hpre : ∀ o ∈ ops.toList.take (loneN ops.toList), loneOp o.op = true ∧ o.guard = none := fun o ho => ⟨loneN_all _ o ho, hg o (List.mem_of_mem_take ho)⟩
  have hpo : ∀ o ∈ ops.toList.drop (loneN ops.toList + 1), loneOp o.op = true ∧ o.guard = none := fun o ho => ⟨List.all_eq_true.1 hpost o ho, hg o (List.mem_of_mem_drop ho)⟩
  split at h
  · rename_i t x v ty pos after guard hop
    split at h
    · rename_i b i hx
      obtain ⟨env1, h1, h2⟩ := lone_ops_sim hpre h
      split at h1
      · rename_i b' i' v' hx1 hv1
        split at h1
        · rename_i hbi
          obtain ⟨rfl, rfl⟩ := hbi
          rw [storeC_param] at h1
          cases hst : storeC P t (.loc b' i') v' F G (fun F G => some (F, G)) with
          | none => rw [hst] at h1; cases h1
          | some p =>
            obtain ⟨F', G'⟩ := p
            rw [hst] at h1
            simp only [Option.bind_some] at h1
            obtain ⟨env2, h3, h4⟩ := lone_ops_sim hpo h1
            refine ⟨env2, F', G', h3, fun B K w0 m w a Q hR hE hQ => ?_⟩
            have hRa : HRel P B K w0 m F G { w with drawn := w.drawn + 1 } := hR.grow (below_drawn w _)
            obtain ⟨a1, e1, d1, L1⟩ := h2 m _ a (memok_hidden hRa.mem) hE
            obtain ⟨w1, F1, q, s1, s2, s3, s4, s5⟩ := store_loc hRa hst (ev_rel e1 hx1) (ev_rel e1 hv1)
            injection s3 with s3
            injection s3 with s3 s3'
            subst s3; subst s3'
            obtain ⟨a2, e2, d2, L2⟩ := h4 m _ a1 (memok_hidden hRa.mem) e1
            have hFb : ∃ cs, F[b']? = some cs := ⟨_, List.getElem?_eq_getElem (hRa.fdom _ _ s4)⟩
            obtain ⟨cs, hcs⟩ := hFb
            have hV : Vis m (F.set b' []) G { w with drawn := w.drawn + 1 } w1 := vis_hidden hRa hcs s4 s5
            have hlist : ops.toList = ops.toList.take (loneN ops.toList) ++ (⟨none, .store t x v, ty, pos, after, guard⟩ :: ops.toList.drop (loneN ops.toList + 1)) := by
              obtain ⟨hlt, heq⟩ := List.getElem?_eq_some_iff.1 hop
              rw [← heq, ← List.drop_eq_getElem_cons hlt, List.take_append_drop]
            have hlen : (ops.toList.take (loneN ops.toList)).length = loneN ops.toList := by simp; omega
            refine wp_region_store (D := fun d => if d then w1 else { w with drawn := w.drawn + 1 }) (s := loneN ops.toList) hm hB (fun i o ho => hg o (List.mem_of_getElem? (by simpa using ho))) hn rfl ?_
            have key := lexO_append (P := P) (D := fun d => if d then w1 else { w with drawn := w.drawn + 1 }) (s := loneN ops.toList) (L := fun a' => Q .normal a' w1) _ _ 0 a
              (L1 (fun d => if d then w1 else { w with drawn := w.drawn + 1 }) (loneN ops.toList) 0
                (fun a' => lexO P (fun d => if d then w1 else { w with drawn := w.drawn + 1 }) (loneN ops.toList) (fun a' => Q .normal a' w1) (⟨none, .store t x v, ty, pos, after, guard⟩ :: ops.toList.drop (loneN ops.toList + 1)) (0 + (ops.toList.take (loneN ops.toList)).length) a') rfl hV s5.os s5.tape s5.output (.inr (by rw [hlen]; omega)) (by
                  refine ⟨Go.undef, fun d hd => ?_, ?_⟩
                  · have hd' : d = false := hd (by rw [hlen]; omega)
                    subst hd'
                    rw [show (false || decide (0 + (ops.toList.take (loneN ops.toList)).length = loneN ops.toList)) = true by rw [hlen]; simp]
                    refine .inr ⟨?_, rfl⟩
                    have s1' : (Instr.storeAt t (a1.eval x) (a1.eval v)).run P ((fun d : Bool => if d = true then w1 else { w with drawn := w.drawn + 1 }) false) = .ok () w1 := s1
                    simp only [execOp, Sem.run_bind, s1', Result.andThen_ok, Sem.run_pure, if_true]
                  · refine L2 _ _ _ _ rfl hV s5.os s5.tape s5.output (.inl (by rw [hlen]; omega)) ?_
                    exact hQ m w1 a2 m.le_refl s2 e2 (d2.trans d1)))
            rw [← hlist] at key
            exact key
        · cases h1
      · cases h1
    · cases h
  · cases h
end
end Go.LI

/-! Regions, code, bodies. -/
namespace Go.LI
open Go Go.RowKit

section
variable {R : Type} {P : Program} {B K : Nat → Prop} {w0 : World} {m : Map} {F : List (List IV)} {G : GH} {w : World} {O : Ora R} {lo : List Nat} {o : Oper} {env : List IV} {a : Act} {r : R}

/-- One quiet operation, in each world that has only grown. -/
theorem quiet_sim (hO : GoodO P O) {k : IV → List (List IV) → GH → Option R} (hq : quietOp o.op = true) (hcm : convMakes P o.op = false) (h : opC P O lo true o env F G k = some r) :
    ∃ v, k v F G = some r ∧ ∀ (B K : Nat → Prop) (w0 : World) (m : Map) (w : World) (a : Act), HRel P B K w0 m F G w → ERel m env a.tmps →
      ∃ v', VRel m v v' ∧ ∀ w', Below w.heap.size w w' → o.quietAt P a (Below w.heap.size w) w' v' := by
  by_cases hc : isCall o.op = true
  · cases ho : o.op with
    | call c =>
      rw [ho] at hc
      cases hcc : c.callee with
      | value f =>
        simp only [opC, ho, hcc] at h
        split at h
        · rename_i args hargs
          split at h
          · rename_i fid caps hf
            split at h
            · rename_i hnl
              simp only [if_true] at h
              simp only [Bool.and_eq_true] at hnl
              obtain ⟨v, h1, h2⟩ := call_quiet hO h (noLocs_append hnl.1 hnl.2)
              refine ⟨v, h1, fun B K w0 m w a hR hE => ?_⟩
              have hA := evs_arel hE hargs
              have hfr := ev_rel hE hf
              generalize hfv : a.eval f = fv at hfr
              cases hfr with
              | func _ _ cs' hs hcs =>
                have hAA : ARel m (args ++ caps) (c.args.map a.eval ++ cs') := hA.append ⟨hs, hcs⟩
                obtain ⟨v', q1, q2⟩ := h2 B K w0 m w _ hAA hR
                refine ⟨v', q1, fun w' hw' => ?_⟩
                unfold Oper.quietAt
                rw [run_invoke w' ho hcc hfv rfl]
                rcases q2 w' hw' with ⟨p1, p2⟩ | p1
                · rw [p1]; exact ⟨rfl, p2⟩
                · rw [p1]; exact ⟨rfl, rfl⟩
            · cases h
          · cases h
        · cases h
      | builtin b => simp [isCall, hcc] at hc
      | invoke x n => simp [isCall, hcc] at hc
    | _ => rw [ho] at hc; simp [isCall] at hc
  · have hc' : isCall o.op = false := by simpa using hc
    rw [opC_qparam (O' := fun _ _ _ _ => none) env F G k hc' hq hcm] at h
    cases hx : opC P (fun _ _ _ _ => none) lo true o env F G (fun v _ _ => some v) with
    | none => rw [hx] at h; cases h
    | some v =>
      rw [hx] at h
      refine ⟨v, h, fun B K w0 m w a hR hE => ?_⟩
      obtain ⟨v1, v', h1, h2, h3⟩ := q_all (by simp) hR.mem hq hcm hc' hx hE
      injection h3 with h3
      subst h3
      refine ⟨v', h2, fun w' hw' => ?_⟩
      unfold Oper.quietAt
      rw [h1 w' hw']
      exact ⟨rfl, rfl⟩

/-- Nothing but quiet operations. -/
def QuietAll (P : Program) (os : List Oper) : Prop := ∀ o ∈ os, quietOp o.op = true ∧ convMakes P o.op = false

theorem quiet_ops_sim (hO : GoodO P O) {all : Array Oper} : ∀ {os : List Oper} {env : List IV} {k : List IV → List (List IV) → GH → Option R} {r : R}, QuietAll P os → opsC P O lo true all os env F G k = some r →
    ∃ env', k env' F G = some r ∧ ∀ (B K : Nat → Prop) (w0 : World) (m : Map) (w : World) (a : Act) (T : Act → Prop), HRel P B K w0 m F G w → ERel m env a.tmps →
      (∀ a', ERel m env' a'.tmps → a'.defers = a.defers → T a') → wpQuiet P all (Below w.heap.size w) T os a
  | [], env, k, r, _, h => ⟨env, h, fun B K w0 m w a T hR hE hT => hT a hE rfl⟩
  | o :: os, env, k, r, hqa, h => by
    obtain ⟨hq, hcm⟩ := hqa o (by simp)
    have hqa' : QuietAll P os := fun x hx => hqa x (by simp [hx])
    have run : ∀ {env1 : List IV}, (opC P O lo true o env1 F G fun v F G => opsC P O lo true all os (putI env1 o.dst v) F G k) = some r →
        ∃ env', k env' F G = some r ∧ ∀ (B K : Nat → Prop) (w0 : World) (m : Map) (w : World) (a : Act) (T : Act → Prop), HRel P B K w0 m F G w → ERel m env1 a.tmps → Region.wanted o (yielded all a.tmps) = true →
          (∀ a', ERel m env' a'.tmps → a'.defers = a.defers → T a') → wpQuiet P all (Below w.heap.size w) T (o :: os) a := by
      intro env1 h
      obtain ⟨v, h1, h2⟩ := quiet_sim hO hq hcm h
      obtain ⟨env', h3, h4⟩ := quiet_ops_sim hO hqa' h1
      refine ⟨env', h3, fun B K w0 m w a T hR hE hw hT => ?_⟩
      obtain ⟨v', q1, q2⟩ := h2 B K w0 m w a hR hE
      simp only [wpQuiet, hw, if_true]
      refine ⟨v', q2, ?_⟩
      exact h4 B K w0 m w _ T hR (hE.put q1 o.dst) fun a' e d => hT a' e (d.trans (put_defers a _ _))
    have pass : ∀ {env1 : List IV}, opsC P O lo true all os (putI env1 o.dst undefI) F G k = some r →
        ∃ env', k env' F G = some r ∧ ∀ (B K : Nat → Prop) (w0 : World) (m : Map) (w : World) (a : Act) (T : Act → Prop), HRel P B K w0 m F G w → ERel m env1 a.tmps → Region.wanted o (yielded all a.tmps) = false →
          (∀ a', ERel m env' a'.tmps → a'.defers = a.defers → T a') → wpQuiet P all (Below w.heap.size w) T (o :: os) a := by
      intro env1 h
      obtain ⟨env', h3, h4⟩ := quiet_ops_sim hO hqa' h
      refine ⟨env', h3, fun B K w0 m w a T hR hE hw hT => ?_⟩
      simp only [wpQuiet, hw, Bool.false_eq_true, if_false]
      exact h4 B K w0 m w _ T hR (hE.put (VRel.undef m) o.dst) fun a' e d => hT a' e (d.trans (put_defers a _ _))
    simp only [opsC] at h
    split at h
    · rename_i hg
      obtain ⟨env', h1, h2⟩ := run h
      exact ⟨env', h1, fun B K w0 m w a T hR hE hT => h2 B K w0 m w a T hR hE (by simp [Region.wanted, hg]) hT⟩
    · rename_i j want hg
      split at h
      · cases h
      · rename_i d hd
        split at h
        · rename_i b hb
          have hsame : env.set d (.bool b) = env := set_same hb
          cases b
          · simp only [cond_false] at h
            rw [hsame] at h
            split at h
            · rename_i hw
              obtain ⟨env', h1, h2⟩ := pass h
              exact ⟨env', h1, fun B K w0 m w a T hR hE hT => h2 B K w0 m w a T hR hE (by simp [Region.wanted, hg, yield_bool hd hb hE, hw]) hT⟩
            · rename_i hw
              obtain ⟨env', h1, h2⟩ := run h
              exact ⟨env', h1, fun B K w0 m w a T hR hE hT => h2 B K w0 m w a T hR hE (by simp [Region.wanted, hg, yield_bool hd hb hE]; simpa using hw) hT⟩
          · simp only [cond_true] at h
            rw [hsame] at h
            split at h
            · rename_i hw
              obtain ⟨env', h1, h2⟩ := run h
              exact ⟨env', h1, fun B K w0 m w a T hR hE hT => h2 B K w0 m w a T hR hE (by simp [Region.wanted, hg, yield_bool hd hb hE, hw]) hT⟩
            · rename_i hw
              obtain ⟨env', h1, h2⟩ := pass h
              exact ⟨env', h1, fun B K w0 m w a T hR hE hT => h2 B K w0 m w a T hR hE (by simp [Region.wanted, hg, yield_bool hd hb hE]; simpa using hw) hT⟩
        · rename_i hb
          obtain ⟨env', h1, h2⟩ := pass h
          exact ⟨env', h1, fun B K w0 m w a T hR hE hT => h2 B K w0 m w a T hR hE (by simp [Region.wanted, hg, yield_undef hd hb hE]) hT⟩
        · cases h

theorem quietN_all : ∀ (os : List Oper), ∀ o ∈ os.take (quietN os), quietOp o.op = true
  | [], o, h => by simp at h
  | x :: os, o, h => by
    simp only [quietN] at h
    split at h
    · rename_i hq
      simp only [List.take_succ_cons, List.mem_cons] at h
      rcases h with rfl | h
      · exact hq
      · exact quietN_all os o h
    · simp at h

def toExit : Ex → Exit
  | .normal => .normal
  | .exit id => .exit id
  | .ret => .ret

theorem region_sim (hm : P.follows .mixedOrders = true) (hO : GoodO P O) (hN : NatO O) {id : Nat} {ops : Array Oper} {draw : Bool} {fuel : Nat} {k : Ex → List IV → List (List IV) → GH → Option R} (h : codeC P O lo fuel (.region id ops draw) env F G k = some r) :
    ∃ env' F' G', k .normal env' F' G' = some r ∧ ∀ (B K : Nat → Prop) (w0 : World) (m : Map) (w : World) (a : Act) (Q : Exit → Act → World → Prop), HRel P B K w0 m F G w → ERel m env a.tmps →
      After P B K w0 m env' F' G' a (Q .normal) → (Code.region id ops draw).wp P Q a w := by
  simp only [codeC] at h
  cases draw
  · simp only [Bool.false_eq_true, if_false] at h
    obtain ⟨env', F', G', h1, h2⟩ := ops_sim hO h
    exact ⟨env', F', G', h1, fun B K w0 m w a Q hR hE hQ => wp_region_list (h2 B K w0 m w a Q hR hE hQ)⟩
  · simp only [if_true] at h
    by_cases hmk : lo.contains (nMark + id) = true
    · rw [if_pos hmk] at h
      rw [padG_eq] at h
      exact draw_regionS hm hO hN h
    rw [if_neg hmk] at h
    split at h
    · rename_i hd
      replace hd : drawOk P ops = true := (Bool.and_eq_true _ _ ▸ hd).1
      simp only [drawOk] at hd
      simp only [Bool.and_eq_true] at hd
      obtain ⟨hd1, hd2⟩ := hd
      have hqa : QuietAll P (ops.toList.take (quietN ops.toList)) := fun o ho =>
        ⟨quietN_all _ o ho, by have := List.all_eq_true.1 hd1 o ho; simpa using this⟩
      obtain ⟨env1, h1, h2⟩ := quiet_ops_sim hO hqa h
      obtain ⟨env', F', G', h3, h4⟩ := ops_sim hO h1
      refine ⟨env', F', G', h3, fun B K w0 m w a Q hR hE hQ => ?_⟩
      have tail : ∀ a', ERel m env1 a'.tmps → a'.defers = a.defers → ∀ w', Below w.heap.size w w' → wpList P ops Q (ops.toList.drop (quietN ops.toList)) a' w' := by
        intro a' he hdf w' hw'
        exact h4 B K w0 m w' a' Q (hR.grow hw') he fun m2 w2 a2 l r2 e2 d2 => hQ m2 w2 a2 l r2 e2 (d2.trans hdf)
      have hC : Below w.heap.size w { w with drawn := w.drawn + 1 } := below_drawn w _
      split at hd2
      · rename_i hn
        refine wp_region_quiet (C := Below w.heap.size w) hm hd2 hC ?_
        have ht : ops.toList.take (quietN ops.toList) = ops.toList := List.take_of_length_le (by rw [hn, Array.length_toList]; exact Nat.le_refl _)
        have hdr : ops.toList.drop (quietN ops.toList) = [] := List.drop_eq_nil_of_le (by rw [hn, Array.length_toList]; exact Nat.le_refl _)
        rw [ht] at h2
        refine h2 B K w0 m w a _ hR hE fun a' he hdf w' hw' => ?_
        have := tail a' he hdf w' hw'
        rw [hdr] at this
        exact this
      · exact wp_region_quiet_tail (C := Below w.heap.size w) _ hm hd2 hC (h2 B K w0 m w a _ hR hE tail)
    · split at h
      · rename_i hds
        exact store_region hm hds h
      · exact draw_region hm hO hN h

/-! ### A round's own variables -/
def Map.cut (m : Map) (n : Nat) : Map := { m with f := fun k => if k < n then m.f k else none }
theorem VRel.cut {m : Map} {n : Nat} {iv : IV} {v : Value} (h : VRel m iv v) (hl : locOk n iv = true) : VRel (m.cut n) iv v := by
  by_cases hn : noLoc iv = true
  · exact VRel.mono (m := m.noF) (m' := m.cut n) ⟨fun _ _ x => x, fun _ _ x => nomatch x⟩ (h.noF hn)
  · cases iv with
    | loc b i =>
      cases h with
      | loc _ _ q hq => exact .loc b i q (by simp only [Map.cut]; rw [if_pos (by simpa [locOk] using hl)]; exact hq)
    | _ => exact absurd hl hn
theorem drop_rel {m1 : Map} {F1 : List (List IV)} {G1 : GH} {w1 : World} {env1 : List IV} {tmps : Array Value} (hR : HRel P B K w0 m F G w) (l : m.le m1) (r1 : HRel P B K w0 m1 F1 G1 w1) (e1 : ERel m1 env1 tmps) :
    ∃ m2, m.le m2 ∧ HRel P B K w0 m2 (dropF F.length env1 F1) G1 w1 ∧ ERel m2 env1 tmps := by
  unfold dropF
  cases Nat.ble F1.length F.length with
  | true => exact ⟨m1, l, r1, e1⟩
  | false =>
    rw [cond_false]
    cases hok : env1.all (locOk F.length) && (F1.take F.length).all (fun cs => cs.all (locOk F.length)) with
    | false => exact ⟨m1, l, r1, e1⟩
    | true =>
      rw [cond_true]
      simp only [Bool.and_eq_true] at hok
      have cf : ∀ {k b : Nat}, (m1.cut F.length).f k = some b → k < F.length ∧ m1.f k = some b := fun {k b} h => by
        simp only [Map.cut] at h
        split at h
        · rename_i hk; exact ⟨hk, h⟩
        · cases h
      refine ⟨m1.cut F.length, ⟨l.1, fun k b h => ?_⟩, ?_, e1.1, fun i iv v a b hn => (e1.2 i iv v a b hn).cut (List.all_eq_true.1 hok.1 iv (List.mem_of_getElem? a))⟩
      · simp only [Map.cut]
        rw [if_pos (hR.fdom k b h)]
        exact l.2 k b h
      · exact
          { bk := r1.bk, frame := r1.frame, os := r1.os, tape := r1.tape, output := r1.output, size := r1.size, gdom := r1.gdom
            fdom := fun k b h => by
              obtain ⟨h1, h2⟩ := cf h
              have := r1.fdom k b h2
              rw [List.length_take]; omega
            gblk := fun b k e hk hm he => by
              obtain ⟨c, t, fr, hg⟩ := r1.gblk b k e hk hm he
              exact ⟨c, t, fr, { row := hg.row, fits := hg.fits, cells := hg.cells, ro := hg.ro, esz := hg.esz, rw := hg.rw }⟩
            fblk := fun i cs b hi hb => by
              obtain ⟨h1, h2⟩ := cf hb
              have hi' : F1[i]? = some cs := by rw [List.getElem?_take_of_lt h1] at hi; exact hi
              obtain ⟨c, t, hf⟩ := r1.fblk i cs b hi' h2
              refine ⟨c, t, { row := hf.row, size := hf.size, own := hf.own, cells := fun j iv hj => ?_ }⟩
              obtain ⟨v, h3, h4⟩ := hf.cells j iv hj
              exact ⟨v, h3, h4.cut (List.all_eq_true.1 (List.all_eq_true.1 hok.2 cs (List.mem_of_getElem? hi)) iv (List.mem_of_getElem? hj))⟩
            ginj := r1.ginj
            gf := fun b i k e r hb hm he hr => r1.gf b i k e r hb hm he (cf hr).2
            finj := fun i j r s hr hs hij => r1.finj i j r s (cf hr).2 (cf hs).2 hij }

/-- Code. -/
def CodeOut (P : Program) (c : Code) (env : List IV) (F : List (List IV)) (G : GH) (k : Ex → List IV → List (List IV) → GH → Option R) (r : R) : Prop :=
  ∃ e env' F' G', k e env' F' G' = some r ∧ ∀ (B K : Nat → Prop) (w0 : World) (m : Map) (w : World) (a : Act) (Q : Exit → Act → World → Prop), HRel P B K w0 m F G w → ERel m env a.tmps →
    After P B K w0 m env' F' G' a (Q (toExit e)) → c.wp P Q a w

theorem After.le {T : Act → World → Prop} {m m1 : Map} {a a1 : Act} {env' : List IV} {F' : List (List IV)} {G' : GH} (h : After P B K w0 m env' F' G' a T) (hl : m.le m1) (hd : a1.defers = a.defers) : After P B K w0 m1 env' F' G' a1 T :=
  fun m2 w2 a2 l r e d => h m2 w2 a2 (Map.le_trans hl l) r e (d.trans hd)

theorem step_out {R : Type} {n : Nat} {x : Option R} {r : R} (h : stepN n x = some r) : x = some r := by
  cases n with
  | zero => cases h
  | succ n => exact h

theorem code_sim (hm : P.follows .mixedOrders = true) (hO : GoodO P O) (hN : NatO O) {fuel : Nat} : ∀ (c : Code) {env : List IV} {F : List (List IV)} {G : GH} {k : Ex → List IV → List (List IV) → GH → Option R} {r : R}, codeC P O lo fuel c env F G k = some r → CodeOut P c env F G k r
  | .skip, env, F, G, k, r, h => ⟨.normal, env, F, G, h, fun B K w0 m w a Q hR hE hQ => wp_skip (hQ m w a m.le_refl hR hE rfl)⟩
  | .region id ops draw, env, F, G, k, r, h => by
    obtain ⟨env', F', G', h1, h2⟩ := region_sim hm hO hN h
    exact ⟨.normal, env', F', G', h1, h2⟩
  | .seq x y, env, F, G, k, r, h => by
    simp only [codeC] at h
    split at h
    · cases hmq : maskQ lo (4 * headId y + 2)
      · rw [hmq, cond_false] at h
        replace h := step_out h
        obtain ⟨e, env1, F1, G1, h1, h2⟩ := code_sim hm hO hN x h
        cases e with
        | normal =>
          simp only at h1
          obtain ⟨e', env2, F2, G2, h3, h4⟩ := code_sim hm hO hN y h1
          refine ⟨e', env2, F2, G2, h3, fun B K w0 m w a Q hR hE hQ => wp_seq (h2 B K w0 m w a _ hR hE fun m1 w1 a1 l r1 e1 d1 => ?_)⟩
          exact h4 B K w0 m1 w1 a1 Q r1 e1 (hQ.le l d1)
        | exit id => exact ⟨_, env1, F1, G1, h1, fun B K w0 m w a Q hR hE hQ => wp_seq (h2 B K w0 m w a _ hR hE hQ)⟩
        | ret => exact ⟨_, env1, F1, G1, h1, fun B K w0 m w a Q hR hE hQ => wp_seq (h2 B K w0 m w a _ hR hE hQ)⟩
      · rw [hmq, cond_true] at h
        replace h := step_out h
        obtain ⟨e, env1, F1, G1, h1, h2⟩ := code_sim hm hO hN x h
        have drop := fun {B K : Nat → Prop} {w0 : World} {m m1 : Map} {w w1 : World} {tmps : Array Value} (hR : HRel P B K w0 m F G w) (l : m.le m1) (r1 : HRel P B K w0 m1 F1 G1 w1) (e1 : ERel m1 env1 tmps) =>
          drop_rel hR l r1 (e1.keepE lo (4 * headId y + 3) e)
        cases e with
        | normal =>
          simp only [kpD] at h1
          obtain ⟨e', env2, F2, G2, h3, h4⟩ := code_sim hm hO hN y h1
          refine ⟨e', env2, F2, G2, h3, fun B K w0 m w a Q hR hE hQ => wp_seq (h2 B K w0 m w a _ hR (hE.keep lo _) fun m1 w1 a1 l r1 e1 d1 => ?_)⟩
          obtain ⟨m2, l2, r2, e2⟩ := drop hR l r1 e1
          exact h4 B K w0 m2 w1 a1 Q r2 e2 (hQ.le l2 d1)
        | exit id => exact ⟨_, _, _, G1, h1, fun B K w0 m w a Q hR hE hQ => wp_seq (h2 B K w0 m w a _ hR (hE.keep lo _) fun m1 w1 a1 l r1 e1 d1 => by
            obtain ⟨m2, l2, r2, e2⟩ := drop hR l r1 e1
            exact hQ m2 w1 a1 l2 r2 e2 d1)⟩
        | ret => exact ⟨_, _, _, G1, h1, fun B K w0 m w a Q hR hE hQ => wp_seq (h2 B K w0 m w a _ hR (hE.keep lo _) fun m1 w1 a1 l r1 e1 d1 => by
            obtain ⟨m2, l2, r2, e2⟩ := drop hR l r1 e1
            exact hQ m2 w1 a1 l2 r2 e2 d1)⟩
    · obtain ⟨e, env1, F1, G1, h1, h2⟩ := code_sim hm hO hN x h
      cases e with
      | normal =>
        simp only at h1
        obtain ⟨e', env2, F2, G2, h3, h4⟩ := code_sim hm hO hN y h1
        refine ⟨e', env2, F2, G2, h3, fun B K w0 m w a Q hR hE hQ => wp_seq (h2 B K w0 m w a _ hR hE fun m1 w1 a1 l r1 e1 d1 => ?_)⟩
        exact h4 B K w0 m1 w1 a1 Q r1 e1 (hQ.le l d1)
      | exit id => exact ⟨_, env1, F1, G1, h1, fun B K w0 m w a Q hR hE hQ => wp_seq (h2 B K w0 m w a _ hR hE hQ)⟩
      | ret => exact ⟨_, env1, F1, G1, h1, fun B K w0 m w a Q hR hE hQ => wp_seq (h2 B K w0 m w a _ hR hE hQ)⟩
  | .cond c x y, env, F, G, k, r, h => by
    simp only [codeC] at h
    split at h
    · rename_i t ht
      have hc : ∀ {m : Map} {a : Act}, ERel m env a.tmps → a.eval c = .bool t := by
        intro m a hE
        have hb := ev_rel hE ht
        generalize a.eval c = cv at hb
        cases hb
        rfl
      cases t
      · obtain ⟨e, env1, F1, G1, h1, h2⟩ := code_sim hm hO hN y h
        exact ⟨e, env1, F1, G1, h1, fun B K w0 m w a Q hR hE hQ => wp_cond_false (hc hE) (h2 B K w0 m w a Q hR hE hQ)⟩
      · obtain ⟨e, env1, F1, G1, h1, h2⟩ := code_sim hm hO hN x h
        exact ⟨e, env1, F1, G1, h1, fun B K w0 m w a Q hR hE hQ => wp_cond_true (hc hE) (h2 B K w0 m w a Q hR hE hQ)⟩
    · cases h
  | .block id c, env, F, G, k, r, h => by
    simp only [codeC] at h
    obtain ⟨e, env1, F1, G1, h1, h2⟩ := code_sim hm hO hN c h
    cases e with
    | normal => exact ⟨_, env1, F1, G1, h1, fun B K w0 m w a Q hR hE hQ => wp_block (h2 B K w0 m w a _ hR hE hQ)⟩
    | exit j =>
      simp only at h1
      by_cases hj : j = id
      · rw [if_pos hj] at h1
        exact ⟨_, env1, F1, G1, h1, fun B K w0 m w a Q hR hE hQ => wp_block (h2 B K w0 m w a _ hR hE fun m1 w1 a1 l r1 e1 d1 => by
          simp only [toExit, Exit.inBlock, hj, if_true]; exact hQ m1 w1 a1 l r1 e1 d1)⟩
      · rw [if_neg hj] at h1
        exact ⟨_, env1, F1, G1, h1, fun B K w0 m w a Q hR hE hQ => wp_block (h2 B K w0 m w a _ hR hE fun m1 w1 a1 l r1 e1 d1 => by
          simp only [toExit, Exit.inBlock, hj, if_false]; exact hQ m1 w1 a1 l r1 e1 d1)⟩
    | ret => exact ⟨_, env1, F1, G1, h1, fun B K w0 m w a Q hR hE hQ => wp_block (h2 B K w0 m w a _ hR hE hQ)⟩
  | .loop c, env, F, G, k, r, h => by
    simp only [codeC] at h
    cases hmq : maskQ lo (4 * headId c)
    · rw [hmq, cond_false] at h
      have key : ∀ (n : Nat) {env : List IV} {F : List (List IV)} {G : GH}, loopN (fun env F G k => codeC P O lo fuel c env F G k) n env F G k = some r →
          ∃ e env' F' G', k e env' F' G' = some r ∧ ∀ (B K : Nat → Prop) (w0 : World) (m : Map) (w : World) (a : Act) (Q : Exit → Act → World → Prop), HRel P B K w0 m F G w → ERel m env a.tmps →
            After P B K w0 m env' F' G' a (Q (toExit e)) → Code.rounds P c Q n a w := by
        intro n
        induction n with
        | zero => intro env F G h; simp [loopN] at h
        | succ n ih =>
          intro env F G h
          simp only [loopN] at h
          obtain ⟨e, env1, F1, G1, h1, h2⟩ := code_sim hm hO hN c h
          cases e with
          | normal =>
            simp only at h1
            obtain ⟨e', env2, F2, G2, h3, h4⟩ := ih h1
            refine ⟨e', env2, F2, G2, h3, fun B K w0 m w a Q hR hE hQ => ?_⟩
            rw [rounds_succ]
            exact h2 B K w0 m w a _ hR hE fun m1 w1 a1 l r1 e1 d1 => h4 B K w0 m1 w1 a1 Q r1 e1 (hQ.le l d1)
          | exit j => exact ⟨_, _, F1, G1, h1, fun B K w0 m w a Q hR hE hQ => by rw [rounds_succ]; exact h2 B K w0 m w a _ hR hE hQ⟩
          | ret => exact ⟨_, _, F1, G1, h1, fun B K w0 m w a Q hR hE hQ => by rw [rounds_succ]; exact h2 B K w0 m w a _ hR hE hQ⟩
      obtain ⟨e, env1, F1, G1, h1, h2⟩ := key fuel h
      exact ⟨e, env1, F1, G1, h1, fun B K w0 m w a Q hR hE hQ => wp_loop_rounds fuel (h2 B K w0 m w a Q hR hE hQ)⟩
    · rw [hmq, cond_true] at h
      have key : ∀ (n : Nat) {env : List IV} {F : List (List IV)} {G : GH}, loopN (fun env F G k => codeC P O lo fuel c env F G (kpD lo (4 * headId c) F.length k)) n env F G k = some r →
          ∃ e env' F' G', k e env' F' G' = some r ∧ ∀ (B K : Nat → Prop) (w0 : World) (m : Map) (w : World) (a : Act) (Q : Exit → Act → World → Prop), HRel P B K w0 m F G w → ERel m env a.tmps →
            After P B K w0 m env' F' G' a (Q (toExit e)) → Code.rounds P c Q n a w := by
        intro n
        induction n with
        | zero => intro env F G h; simp [loopN] at h
        | succ n ih =>
          intro env F G h
          simp only [loopN] at h
          obtain ⟨e, env1, F1, G1, h1, h2⟩ := code_sim hm hO hN c h
          have drop := fun {B K : Nat → Prop} {w0 : World} {m m1 : Map} {w w1 : World} {tmps : Array Value} (hR : HRel P B K w0 m F G w) (l : m.le m1) (r1 : HRel P B K w0 m1 F1 G1 w1) (e1 : ERel m1 env1 tmps) =>
            drop_rel hR l r1 (e1.keepE lo (4 * headId c) e)
          cases e with
          | normal =>
            simp only [kpD] at h1
            obtain ⟨e', env2, F2, G2, h3, h4⟩ := ih h1
            refine ⟨e', env2, F2, G2, h3, fun B K w0 m w a Q hR hE hQ => ?_⟩
            rw [rounds_succ]
            exact h2 B K w0 m w a _ hR hE fun m1 w1 a1 l r1 e1 d1 => by
              obtain ⟨m2, l2, r2, e2⟩ := drop hR l r1 e1
              exact h4 B K w0 m2 w1 a1 Q r2 e2 (hQ.le l2 d1)
          | exit j => exact ⟨_, _, _, G1, h1, fun B K w0 m w a Q hR hE hQ => by
              rw [rounds_succ]
              exact h2 B K w0 m w a _ hR hE fun m1 w1 a1 l r1 e1 d1 => by
                obtain ⟨m2, l2, r2, e2⟩ := drop hR l r1 e1
                exact hQ m2 w1 a1 l2 r2 e2 d1⟩
          | ret => exact ⟨_, _, _, G1, h1, fun B K w0 m w a Q hR hE hQ => by
              rw [rounds_succ]
              exact h2 B K w0 m w a _ hR hE fun m1 w1 a1 l r1 e1 d1 => by
                obtain ⟨m2, l2, r2, e2⟩ := drop hR l r1 e1
                exact hQ m2 w1 a1 l2 r2 e2 d1⟩
      obtain ⟨e, env1, F1, G1, h1, h2⟩ := key fuel h
      exact ⟨e, env1, F1, G1, h1, fun B K w0 m w a Q hR hE hQ => wp_loop_rounds fuel (h2 B K w0 m w a Q hR (hE.keep lo _) hQ)⟩
  | .exit id, env, F, G, k, r, h => ⟨.exit id, env, F, G, h, fun B K w0 m w a Q hR hE hQ => wp_exit (hQ m w a m.le_refl hR hE rfl)⟩
  | .ret, env, F, G, k, r, h => ⟨.ret, env, F, G, h, fun B K w0 m w a Q hR hE hQ => wp_ret (hQ m w a m.le_refl hR hE rfl)⟩
  | .rangeFunc _ _ _ _, env, F, G, k, r, h => by simp [codeC] at h
  | .scope _, env, F, G, k, r, h => by simp [codeC] at h
  | .label _, env, F, G, k, r, h => by simp [codeC] at h
  | .goto _, env, F, G, k, r, h => by simp [codeC] at h
  | .refuse _, env, F, G, k, r, h => by simp [codeC] at h

/-! ### Bodies -/
theorem loadC_out {R : Type} {t : TypeId} {x : IV} {k : IV → Option R} {r : R} (h : loadC P t x F G k = some r) : ∃ v, k v = some r ∧ loadC P t x F G some = some v := by
  rw [loadC_param] at h
  cases hv : loadC P t x F G some with
  | none => rw [hv] at h; cases h
  | some v => rw [hv] at h; exact ⟨v, h, rfl⟩

def resF (tmps : Array Value) : ResultVar → Sem Value
  | .tmp t => pure (tmps.getD t Go.undef)
  | .cell a t => do loadVar t (← asAddr (tmps.getD a Go.undef))
theorem results_eq (fn : Func) (tmps : Array Value) : results fn tmps = (do let vs ← fn.results.mapM (resF tmps); pure (if h : vs.size = 1 then vs[0] else .tuple vs)) := by
  unfold results
  congr 1
theorem run_asAddr (ad : Addr) : (asAddr (.pointer (some ad))).run P w = .ok ad w := rfl

theorem res_sim : ∀ (rs : List ResultVar) {k : List IV → Option R} {r : R}, resL P env F G rs k = some r →
    ∃ vs, k vs = some r ∧ ∀ (m : Map) (w : World) (tmps : Array Value), MemOk P m F G w → ERel m env tmps →
      ∃ vs' : List Value, (rs.mapM (resF tmps)).run P w = .ok vs' w ∧ LRel m vs vs'
  | [], k, r, h => ⟨[], h, fun m w tmps hM hE => ⟨[], rfl, rfl, fun i iv v h => by simp at h⟩⟩
  | .tmp t :: rs, k, r, h => by
    simp only [resL] at h
    split at h
    · rename_i v hv
      obtain ⟨vs, h1, h2⟩ := res_sim rs h
      refine ⟨v :: vs, h1, fun m w tmps hM hE => ?_⟩
      obtain ⟨vs', h3, h4⟩ := h2 m w tmps hM hE
      obtain ⟨v', hv', hr⟩ := hE.getv hv
      refine ⟨v' :: vs', ?_, by simp [h4.1], fun i iv x a b => ?_⟩
      · rw [List.mapM_cons]
        simp only [Sem.run_bind, resF, Sem.run_pure, Result.andThen_ok, getD_of hv']
        rw [h3]; rfl
      · cases i with
        | zero => simp at a b; subst a; subst b; exact hr
        | succ i => exact h4.2 i iv x (by simpa using a) (by simpa using b)
    · cases h
  | .cell c t :: rs, k, r, h => by
    simp only [resL] at h
    split at h
    · rename_i x hx
      obtain ⟨v, h0, hl⟩ := loadC_out h
      obtain ⟨vs, h1, h2⟩ := res_sim rs h0
      refine ⟨v :: vs, h1, fun m w tmps hM hE => ?_⟩
      obtain ⟨vs', h3, h4⟩ := h2 m w tmps hM hE
      obtain ⟨x', hx', hr⟩ := hE.getv hx
      obtain ⟨ad, v1, v', q1, q2, q3, q4⟩ := load_rel hM hl hr
      injection q4 with q4
      subst q4
      refine ⟨v' :: vs', ?_, by simp [h4.1], fun i iv y a b => ?_⟩
      · rw [List.mapM_cons]
        have hc : (resF tmps (.cell c t)).run P w = .ok v' w := by
          simp only [resF, getD_of hx', q1, Sem.run_bind, run_asAddr, Result.andThen_ok, q2 w ⟨fun _ _ _ _ _ => rfl, fun _ _ _ _ _ _ _ _ => rfl⟩]
        simp only [Sem.run_bind, hc, h3, Result.andThen_ok, Sem.run_pure]
      · cases i with
        | zero => simp at a b; subst a; subst b; exact q3
        | succ i => exact h4.2 i iv y (by simpa using a) (by simpa using b)
    · cases h

theorem arel_start {m : Map} {args : List IV} {args' : Array Value} (hA : ARel m args args') (n : Nat) : ARel m (args ++ List.replicate (n - args.length) undefI) (args' ++ Array.replicate (n - args'.size) Go.undef) := by
  have hs := hA.1
  refine hA.append ⟨by simp [hs], fun i iv v a b => ?_⟩
  have h1 : iv = undefI := by
    have := List.mem_of_getElem? a
    exact (List.mem_replicate.1 this).2
  have h2 : v = Go.undef := by
    have := Array.mem_of_getElem? b
    exact (Array.mem_replicate.1 this).2
  rw [h1, h2]; exact VRel.undef m

/-- The locals are dropped. -/
theorem HRel.dropF (h : HRel P B K w0 m F G w) : HRel P B K w0 m.noF [] G w :=
  { bk := h.bk, frame := h.frame, os := h.os, tape := h.tape, output := h.output, size := h.size, gdom := h.gdom, fdom := fun k b hb => by cases hb
    gblk := fun b k e hk hm he => by
      obtain ⟨c, t, fr, hg⟩ := h.gblk b k e hk hm he
      exact ⟨c, t, fr, { row := hg.row, fits := hg.fits, cells := hg.cells, ro := hg.ro, esz := hg.esz, rw := hg.rw }⟩
    fblk := fun i cs b hi => by simp at hi
    ginj := h.ginj
    gf := fun b i k e r _ _ _ hr => by cases hr
    finj := fun i j r s hr => by cases hr }

/-- A function whose body the interpreter takes. -/
theorem body_sim (hm : P.follows .mixedOrders = true) (hO : GoodO P O) (hN : NatO O) {f : FuncId} {fn : Func} (hf : P.funcs[f]? = some fn) (hn : (fn.name == "runtime.NumGoroutine") = false) {fuel : Nat} {args : List IV} {k : IV → GH → Option R}
    (h : bodyC P O lo fuel fn args G k = some r) :
    ∃ v G', k v G' = some r ∧ noLoc v = true ∧ ∀ (B K : Nat → Prop) (w0 : World) (m : Map) (w : World) (args' : Array Value), (∀ i, m.f i = none) → ARel m args args' → HRel P B K w0 m [] G w →
      CallSim P f args' w fun v' w' => ∃ m', m.le m' ∧ (∀ i, m'.f i = none) ∧ HRel P B K w0 m' [] G' w' ∧ VRel m' v v' := by
  unfold bodyC at h
  split at h
  · rename_i hb
    exact extern_sim hf hn hb h
  · rename_i c hc
    obtain ⟨e, env', F', G', h1, h2⟩ := code_sim hm hO hN c h
    have fin : ∀ {e : Ex}, (e = .normal ∨ e = .ret) → resC P fn env' F' G' k = some r → (∀ (B K : Nat → Prop) (w0 : World) (m : Map) (w : World) (a : Act) (Q : Exit → Act → World → Prop), HRel P B K w0 m [] G w → ERel m (args ++ List.replicate (fn.ntmps - args.length) undefI) a.tmps →
        After P B K w0 m env' F' G' a (Q (toExit e)) → c.wp P Q a w) →
        ∃ v G', k v G' = some r ∧ noLoc v = true ∧ ∀ (B K : Nat → Prop) (w0 : World) (m : Map) (w : World) (args' : Array Value), (∀ i, m.f i = none) → ARel m args args' → HRel P B K w0 m [] G w →
          CallSim P f args' w fun v' w' => ∃ m', m.le m' ∧ (∀ i, m'.f i = none) ∧ HRel P B K w0 m' [] G' w' ∧ VRel m' v v' := by
      intro e he h1 h2
      unfold resC at h1
      obtain ⟨vs, h3, h4⟩ := res_sim _ h1
      -- what comes back
      have out : ∃ v, k v G' = some r ∧ noLoc v = true ∧ ∀ (m : Map) (w : World) (tmps : Array Value), MemOk P m F' G' w → ERel m env' tmps → ∃ v', (results fn tmps).run P w = .ok v' w ∧ VRel m v v' := by
        have hres : ∀ (tmps : Array Value) (w : World) (vs' : List Value), (fn.results.toList.mapM (resF tmps)).run P w = .ok vs' w →
            (results fn tmps).run P w = .ok (if h : vs'.toArray.size = 1 then vs'.toArray[0] else .tuple vs'.toArray) w := by
          intro tmps w vs' hvs
          rw [results_eq, Sem.run_bind, Array.mapM_eq_mapM_toList, Sem.run_map, hvs]
          rfl
        by_cases hl : ∃ v, vs = [v]
        · obtain ⟨v, rfl⟩ := hl
          simp only at h3
          split at h3
          · rename_i hnl
            refine ⟨v, h3, hnl, fun m w tmps hM hE => ?_⟩
            obtain ⟨vs', h5, h6⟩ := h4 m w tmps hM hE
            have hlen : vs'.length = 1 := h6.1.symm
            match vs', hlen with
            | [v'], _ => exact ⟨v', hres tmps w [v'] h5, h6.2 0 v v' rfl rfl⟩
          · cases h3
        · have h3' : (if noLocs vs then k (.tuple vs) G' else none) = some r := by
            match vs, hl, h3 with
            | [], _, h3 => exact h3
            | [v], hl, _ => exact absurd ⟨v, rfl⟩ hl
            | _ :: _ :: _, _, h3 => exact h3
          split at h3'
          · rename_i hnl
            refine ⟨.tuple vs, h3', by simpa [noLoc] using hnl, fun m w tmps hM hE => ?_⟩
            obtain ⟨vs', h5, h6⟩ := h4 m w tmps hM hE
            have hne : vs'.toArray.size ≠ 1 := by
              intro hc
              have : vs.length = 1 := by rw [h6.1]; simpa using hc
              match vs, hl, this with
              | [v], hl, _ => exact hl ⟨v, rfl⟩
            refine ⟨.tuple vs'.toArray, ?_, .tuple vs vs'.toArray (by simpa using h6.1) fun i iv v a b => h6.2 i iv v a (by simpa using b)⟩
            have := hres tmps w vs' h5
            rw [dif_neg hne] at this
            exact this
          · cases h3'
      obtain ⟨v, h5, h6, h7⟩ := out
      refine ⟨v, G', h5, h6, fun B K w0 m w args' hmf hA hR => .inl ⟨?_, ?_⟩⟩
      · have hn' : ¬ fn.name = "runtime.NumGoroutine" := by simpa using hn
        simp [callFunc, hf, hn', hc]
      · refine calls_of_wp hf hc (h2 B K w0 m w _ _ hR (arel_start hA fn.ntmps).toE fun m1 w1 a1 l r1 e1 d1 => ?_)
        obtain ⟨v', q1, q2⟩ := h7 m1 w1 a1.tmps r1.mem e1
        have hle : m.le m1.noF := ⟨l.1, fun k b hk => by rw [hmf k] at hk; cases hk⟩
        have hpost : a1.defers = [] ∧ ∃ v, (results fn a1.tmps).run P w1 = .ok v w1 ∧ (∃ v2, Ending.returned v = .returned v2 ∧ ∃ m', m.le m' ∧ (∀ i, m'.f i = none) ∧ HRel P B K w0 m' [] G' w1 ∧ VRel m' _ v2) :=
          ⟨d1, v', q1, v', rfl, m1.noF, hle, fun _ => rfl, r1.dropF, q2.noF h6⟩
        rcases he with rfl | rfl <;> exact hpost
    cases e with
    | normal => exact fin (.inl rfl) h1 h2
    | ret => exact fin (.inr rfl) h1 h2
    | exit j => cases h1

theorem HRel.empty (w : World) : HRel P (fun b => b < w.heap.size) (fun b => b < w.heap.size) w ⟨fun _ => none, fun _ => none⟩ [] [] w where
  bk := fun b hb => hb
  frame := fun b hb => ⟨hb, rfl⟩
  os := rfl
  tape := rfl
  output := rfl
  size := Nat.le_refl _
  gdom := fun b e h => by cases h
  fdom := fun k b h => by cases h
  gblk := fun b k e h => by simp at h
  fblk := fun i cs b h => by simp at h
  ginj := fun b1 b2 k1 k2 e1 e2 h => by simp at h
  gf := fun b i k e r h => by simp at h
  finj := fun i j r s h => by cases h

/-- A call in an empty heap. -/
theorem pure_good {f : FuncId} {args : List IV} {G : GH} {k : IV → GH → Option R} {r : R} {X : (IV → GH → Option R) → Option R} (hfl : isFlats args = true)
    (H : X (fun v _ => if isFlat v then k v G else none) = some r → ∃ v G', (fun v (_ : GH) => if isFlat v then k v G else none) v G' = some r ∧ noLoc v = true ∧ ∀ (B K : Nat → Prop) (w0 : World) (m : Map) (w : World) (args' : Array Value), (∀ i, m.f i = none) → ARel m args args' → HRel P B K w0 m [] [] w →
      CallSim P f args' w fun v' w' => ∃ m', m.le m' ∧ (∀ i, m'.f i = none) ∧ HRel P B K w0 m' [] G' w' ∧ VRel m' v v')
    (h : X (fun v _ => if isFlat v then k v G else none) = some r) :
    ∃ v G', k v G' = some r ∧ noLoc v = true ∧ ∀ (B K : Nat → Prop) (w0 : World) (m : Map) (w : World) (args' : Array Value), (∀ i, m.f i = none) → ARel m args args' → HRel P B K w0 m [] G w →
      CallSim P f args' w fun v' w' => ∃ m', m.le m' ∧ (∀ i, m'.f i = none) ∧ HRel P B K w0 m' [] G' w' ∧ VRel m' v v' := by
  obtain ⟨v, G', h1, h2, h3⟩ := H h
  simp only at h1
  split at h1
  · rename_i hv
    refine ⟨v, G, h1, h2, fun B K w0 m w args' hmf hA hR => ?_⟩
    refine (h3 _ _ w ⟨fun _ => none, fun _ => none⟩ w args' (fun _ => rfl) ⟨hA.1, fun i iv x a b => call_quiet.flat_any (hA.2 i iv x a b) (flat_eq0.flats_get hfl a)⟩ (HRel.empty w)).mono ?_
    rintro v' w' ⟨m', q1, q2, q3, q4⟩
    refine ⟨m, m.le_refl, hmf, hR.grow ⟨q3.os, q3.tape, q3.output, q3.size, fun b hb => (q3.frame b hb).2⟩, call_quiet.flat_any q4 hv⟩
  · cases h1

end
end Go.LI

/-! Places within a code, and what follows a place. -/
namespace Go.LI
open Go

/-- The part of a code at a place. -/
def nav (c : Code) : List Nat → Code
  | [] => c
  | d :: ds => match c with
    | .seq a b => nav (if d = 0 then a else b) ds
    | .cond _ a b => nav (if d = 0 then a else b) ds
    | .block _ c => nav c ds
    | .loop c => nav c ds
    | c => c

/-- What follows the part of a code at a place. -/
def contC {R : Type} (P : Program) (O : Ora R) (lo : List Nat) (fuel : Nat) (c : Code) : List Nat → (Ex → List IV → List (List IV) → GH → Option R) → (Ex → List IV → List (List IV) → GH → Option R)
  | [], k => k
  | d :: ds, k => match c with
    | .seq a b => if d = 0 then contC P O lo fuel a ds (fun e env F G => match e with
        | .normal => codeC P O lo fuel b env F G k
        | e => k e env F G) else contC P O lo fuel b ds k
    | .cond _ a b => if d = 0 then contC P O lo fuel a ds k else contC P O lo fuel b ds k
    | .block id c => contC P O lo fuel c ds (fun e env F G => match e with
        | .exit j => if j = id then k .normal env F G else k (.exit j) env F G
        | e => k e env F G)
    | _ => k

end Go.LI

namespace Go.LI
/-- What a loop's body goes on with. -/
def loopK {R : Type} (body : List IV → List (List IV) → GH → (Ex → List IV → List (List IV) → GH → Option R) → Option R) (n : Nat) (k : Ex → List IV → List (List IV) → GH → Option R) :
    Ex → List IV → List (List IV) → GH → Option R := fun e env F G => match e with
  | .normal => loopN body n env F G k
  | e => k e env F G
variable {R : Type} {body : List IV → List (List IV) → GH → (Ex → List IV → List (List IV) → GH → Option R) → Option R} {n : Nat} {env : List IV} {F : List (List IV)} {G : GH} {k : Ex → List IV → List (List IV) → GH → Option R}
theorem loopN_succ : loopN body (n + 1) env F G k = body env F G (loopK body n k) := rfl
theorem loopK_normal : loopK body n k .normal env F G = loopN body n env F G k := rfl
theorem loopK_exit {i : Nat} : loopK body n k (.exit i) env F G = k (.exit i) env F G := rfl
theorem loopK_ret : loopK body n k .ret env F G = k .ret env F G := rfl
theorem stepN_succ {x : Option R} : stepN (n + 1) x = x := rfl
end Go.LI

/-! From a run of the interpreter to the call in the model. -/
namespace Go.LI
open Go Go.RowKit

section
variable {P : Program}

/-- No function of the program counts goroutines. -/
def noCount (P : Program) : Bool := P.funcs.toList.all fun fn => !(fn.name == "runtime.NumGoroutine")
theorem noCount_spec (h : noCount P = true) (f : Nat) (fn : Func) (hf : P.funcs[f]? = some fn) : (fn.name == "runtime.NumGoroutine") = false := by
  have := List.all_eq_true.1 h fn (by
    obtain ⟨hlt, he⟩ := Array.getElem?_eq_some_iff.1 hf
    rw [← he]; simp)
  simpa using this

theorem run_pure {R : Type} {lo : Nat → List Nat} {l : List Nat} {fuel n : Nat} {f : Nat} {fn : Func} {args : List IV} {G : GH} {k : IV → GH → Option R} (hf : P.funcs[f]? = some fn) (hl : lo f = l) (hp : l.contains pureMark = true) (ha : isFlats args = true) :
    runC P lo fuel (n + 1) f args G k = bodyC P (runC P lo fuel n) l fuel fn args [] (fun v _ => if isFlat v then k v G else none) := by
  simp only [runC, hf, hl, hp, ha, if_true]
theorem run_body {R : Type} {lo : Nat → List Nat} {l : List Nat} {fuel n : Nat} {f : Nat} {fn : Func} {args : List IV} {G : GH} {k : IV → GH → Option R} (hf : P.funcs[f]? = some fn) (hl : lo f = l) (hp : l.contains pureMark = false) :
    runC P lo fuel (n + 1) f args G k = bodyC P (runC P lo fuel n) l fuel fn args G k := by
  simp only [runC, hf, hl, hp, Bool.false_eq_true, if_false]
end
end Go.LI

/-! Environments of which little is known; what follows a part that forgets. -/
namespace Go.LI
open Go

def mkG : Nat → Nat → List (Nat × IV) → List IV
  | 0, _, _ => []
  | n + 1, i, [] => .any :: mkG n (i + 1) []
  | n + 1, i, (j, v) :: l => bif j == i then v :: mkG n (i + 1) l else .any :: mkG n (i + 1) ((j, v) :: l)
/-- An environment in which only these are known. -/
def mkE (n : Nat) (l : List (Nat × IV)) : List IV := mkG n 0 l

section
variable {R : Type}
/-- A round. -/
def loopD (P : Program) (O : Ora R) (lo : List Nat) (fuel : Nat) (c : Code) (h : Nat) : List IV → List (List IV) → GH → (Ex → List IV → List (List IV) → GH → Option R) → Option R :=
  fun env F G k => codeC P O lo fuel c env F G (kpD lo h F.length k)
end
end Go.LI
