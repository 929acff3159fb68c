/- The quiet operations: what the interpreter says of them the model does. -/
import Derived.Test.YtckelpgijjbpaaaLiB
namespace Go.LI
open Go Go.RowKit

theorem run_und {P : Program} {w : World} {t : TypeId} {d : TypeDesc} (h : P.underlying t = some d) : (underlying t).run P w = .ok d w := run_underlying h w

def ARel (m : Map) (cs : List IV) (cs' : Array Value) : Prop := cs.length = cs'.size ∧ ∀ (i : Nat) (iv : IV) (v : Value), cs[i]? = some iv → cs'[i]? = some v → VRel m iv v

theorem ARel.mono {m m' : Map} (hm : m.le m') {cs : List IV} {cs' : Array Value} (h : ARel m cs cs') : ARel m' cs cs' := ⟨h.1, fun i iv v a b => (h.2 i iv v a b).mono hm⟩
theorem ARel.get {m : Map} {cs : List IV} {cs' : Array Value} (h : ARel m cs cs') {i : Nat} {iv : IV} (hi : cs[i]? = some iv) : ∃ v, cs'[i]? = some v ∧ VRel m iv v := by
  have h1 : i < cs.length := (List.getElem?_eq_some_iff.1 hi).1
  have h2 : i < cs'.size := by rw [← h.1]; exact h1
  exact ⟨cs'[i], Array.getElem?_eq_getElem h2, h.2 i iv _ hi (Array.getElem?_eq_getElem h2)⟩
/-- The temporaries: what is known of them. -/
def ERel (m : Map) (cs : List IV) (cs' : Array Value) : Prop := cs.length = cs'.size ∧ ∀ (i : Nat) (iv : IV) (v : Value), cs[i]? = some iv → cs'[i]? = some v → iv ≠ .any → VRel m iv v
theorem ARel.toE {m : Map} {cs : List IV} {cs' : Array Value} (h : ARel m cs cs') : ERel m cs cs' := ⟨h.1, fun i iv v a b _ => h.2 i iv v a b⟩
theorem ERel.mono {m m' : Map} (hm : m.le m') {cs : List IV} {cs' : Array Value} (h : ERel m cs cs') : ERel m' cs cs' := ⟨h.1, fun i iv v a b c => (h.2 i iv v a b c).mono hm⟩
theorem ERel.get {m : Map} {cs : List IV} {cs' : Array Value} (h : ERel m cs cs') {i : Nat} {iv : IV} (hi : cs[i]? = some iv) (hn : iv ≠ .any) : ∃ v, cs'[i]? = some v ∧ VRel m iv v := by
  have h1 : i < cs.length := (List.getElem?_eq_some_iff.1 hi).1
  have h2 : i < cs'.size := by rw [← h.1]; exact h1
  exact ⟨cs'[i], Array.getElem?_eq_getElem h2, h.2 i iv _ hi (Array.getElem?_eq_getElem h2) hn⟩
theorem tmpv_some {env : List IV} {t : Nat} {iv : IV} (h : tmpv env t = some iv) : env[t]? = some iv ∧ iv ≠ .any := by
  unfold tmpv at h
  split at h
  · cases h
  · rename_i hn
    exact ⟨h, fun hc => hn (hc ▸ h)⟩
theorem ERel.getv {m : Map} {cs : List IV} {cs' : Array Value} (h : ERel m cs cs') {i : Nat} {iv : IV} (hi : tmpv cs i = some iv) : ∃ v, cs'[i]? = some v ∧ VRel m iv v :=
  h.get (tmpv_some hi).1 (tmpv_some hi).2
theorem keepF_get : ∀ (k : Nat) (env : List IV), (keepF k env).length = env.length ∧ ∀ (i : Nat) (iv : IV), (keepF k env)[i]? = some iv → iv ≠ .any → env[i]? = some iv
  | k, [] => ⟨rfl, fun i iv h => by simp [keepF] at h⟩
  | k, v :: vs => by
    obtain ⟨h1, h2⟩ := keepF_get (k / 2) vs
    refine ⟨by simp [keepF, h1], fun i iv hi hn => ?_⟩
    cases i with
    | zero =>
      simp only [keepF, List.getElem?_cons_zero] at hi ⊢
      cases hb : (k % 2 == 1) <;> rw [hb] at hi
      · simp at hi; exact absurd hi.symm hn
      · exact hi
    | succ i =>
      simp only [keepF, List.getElem?_cons_succ] at hi ⊢
      exact h2 i iv hi hn
theorem ERel.keep {m : Map} {cs : List IV} {cs' : Array Value} (h : ERel m cs cs') (lo : List Nat) (key : Nat) : ERel m (keepK lo key cs) cs' := by
  unfold keepK
  split
  · rename_i k _
    obtain ⟨h1, h2⟩ := keepF_get k cs
    exact ⟨h1.trans h.1, fun i iv v a b c => h.2 i iv v (h2 i iv a c) b c⟩
  · exact h
theorem ERel.keepE {m : Map} {cs : List IV} {cs' : Array Value} (h : ERel m cs cs') (lo : List Nat) (c : Nat) (e : Ex) : ERel m (keepE lo c e cs) cs' := h.keep lo _
theorem ARel.nil (m : Map) : ARel m [] #[] := ⟨rfl, fun i iv v h => by simp at h⟩
theorem VRel.undef (m : Map) : VRel m undefI Go.undef := .tuple [] #[] rfl fun i iv v h => by simp at h

theorem ofValue0_rel {m : Map} {v : Value} {iv : IV} (h : ofValue0 v = some iv) : VRel m iv v := by
  unfold ofValue0 at h
  split at h <;> first | (injection h with h; subst h; constructor) | cases h

theorem ofList0_rel {m : Map} : ∀ {vs : List Value} {ivs : List IV}, ofList0 vs = some ivs → ivs.length = vs.length ∧ ∀ (i : Nat) (iv : IV) (v : Value), ivs[i]? = some iv → vs[i]? = some v → VRel m iv v
  | [], ivs, h => by simp [ofList0] at h; subst h; exact ⟨rfl, fun i iv v h => by simp at h⟩
  | v :: vs, ivs, h => by
    simp only [ofList0] at h
    split at h
    · rename_i x xs hx hxs
      injection h with h
      subst h
      obtain ⟨h1, h2⟩ := ofList0_rel (m := m) hxs
      refine ⟨by simp [h1], fun i iv v' a b => ?_⟩
      cases i with
      | zero => simp at a b; subst a; subst b; exact ofValue0_rel hx
      | succ i => exact h2 i iv v' (by simpa using a) (by simpa using b)
    · cases h

theorem ofValue_rel {m : Map} {v : Value} {iv : IV} (h : ofValue v = some iv) : VRel m iv v := by
  unfold ofValue at h
  split at h
  · rename_i cs
    split at h
    · rename_i xs hx
      injection h with h
      subst h
      obtain ⟨h1, h2⟩ := ofList0_rel (m := m) hx
      exact .agg xs cs (by simpa using h1) fun i iv v a b => h2 i iv v a (by simpa using b)
    · cases h
  · exact ofValue0_rel h

theorem ev_rel {m : Map} {env : List IV} {a : Act} (hE : ERel m env a.tmps) {x : Operand} {iv : IV} (h : ev env x = some iv) : VRel m iv (a.eval x) := by
  cases x with
  | tmp t =>
    obtain ⟨v, hv, hr⟩ := hE.getv h
    simp only [Act.eval]
    rw [show a.tmps.getD t Go.undef = v by simp [Array.getD_eq_getD_getElem?, hv]]
    exact hr
  | const v => exact ofValue_rel h
  | global g => simp [ev] at h
  | func f => simp [ev] at h; subst h; exact .func f [] #[] rfl fun i iv v h => by simp at h

theorem evs_rel {m : Map} {env : List IV} {a : Act} (hE : ERel m env a.tmps) : ∀ {xs : List Operand} {ivs : List IV}, evs env xs = some ivs →
    ivs.length = xs.length ∧ ∀ (i : Nat) (iv : IV) (v : Value), ivs[i]? = some iv → (xs.map a.eval)[i]? = some v → VRel m iv v
  | [], ivs, h => by simp [evs] at h; subst h; exact ⟨rfl, fun i iv v h => by simp at h⟩
  | x :: xs, ivs, h => by
    simp only [evs] at h
    split at h
    · rename_i v vs hv hvs
      injection h with h
      subst h
      obtain ⟨h1, h2⟩ := evs_rel hE hvs
      refine ⟨by simp [h1], fun i iv v' a b => ?_⟩
      cases i with
      | zero => simp at a b; subst a; subst b; exact ev_rel hE hv
      | succ i => exact h2 i iv v' (by simpa using a) (by simpa using b)
    · cases h

theorem evs_arel {m : Map} {env : List IV} {a : Act} (hE : ERel m env a.tmps) {xs : Array Operand} {ivs : List IV} (h : evs env xs.toList = some ivs) : ARel m ivs (xs.map a.eval) := by
  obtain ⟨h1, h2⟩ := evs_rel hE h
  exact ⟨by simpa using h1, fun i iv v a b => h2 i iv v a (by simpa using b)⟩

inductive PRel (m : Map) : List (Nat × IV) → List (Nat × Value) → Prop
  | nil : PRel m [] []
  | cons (i : Nat) (iv : IV) (v : Value) (xs ys) (h : VRel m iv v) (hs : PRel m xs ys) : PRel m ((i, iv) :: xs) ((i, v) :: ys)

theorem evParts_rel {m : Map} {env : List IV} {a : Act} (hE : ERel m env a.tmps) : ∀ {xs : List (Nat × Operand)} {ivs : List (Nat × IV)}, evParts env xs = some ivs →
    PRel m ivs (xs.map fun p => (p.1, a.eval p.2))
  | [], ivs, h => by simp [evParts] at h; subst h; exact .nil
  | (i, x) :: xs, ivs, h => by
    simp only [evParts] at h
    split at h
    · rename_i v vs hv hvs
      injection h with h
      subst h
      exact .cons _ _ _ _ _ (ev_rel hE hv) (evParts_rel hE hvs)
    · cases h

section
variable {R : Type} {P : Program} {K : Nat → Prop} {w0 : World} {m : Map} {F : List (List IV)} {G : GH} {w : World} {O : Ora R} {lo : List Nat} {sand : Bool} {o : Oper} {env : List IV} {a : Act} {k : IV → List (List IV) → GH → Option R} {r : R}

/-- In each world that has only grown the operation yields this value, and leaves it as it is. -/
def QuietAt (P : Program) (o : Oper) (a : Act) (w : World) (v' : Value) : Prop := ∀ w', Below w.heap.size w w' → (execOp a.eval o).run P w' = .ok (.value v') w'
def QuietOk (P : Program) (m : Map) (o : Oper) (a : Act) (w : World) (F : List (List IV)) (G : GH) (k : IV → List (List IV) → GH → Option R) (r : R) : Prop :=
  ∃ v v', QuietAt P o a w v' ∧ VRel m v v' ∧ k v F G = some r

theorem q_move {x : Operand} (ho : o.op = .move x ∨ o.op = .assign x) (h : opC P O lo sand o env F G k = some r) (hE : ERel m env a.tmps) : QuietOk P m o a w F G k r := by
  rcases ho with ho | ho <;>
  · simp only [opC, ho] at h
    split at h
    · rename_i v hv
      exact ⟨v, a.eval x, fun w' _ => by simp [execOp, ho], ev_rel hE hv, h⟩
    · cases h

theorem q_pick {c x y : Operand} (ho : o.op = .pick c x y) (h : opC P O lo sand o env F G k = some r) (hE : ERel m env a.tmps) : QuietOk P m o a w F G k r := by
  simp only [opC, ho] at h
  split at h
  · rename_i b vx vy hc hx hy
    have hb := ev_rel hE hc
    generalize hbv : a.eval c = bv at hb
    cases hb
    cases b
    · refine ⟨vy, a.eval y, fun w' _ => ?_, ev_rel hE hy, h⟩
      simp [execOp, ho, hbv, asBool]
    · refine ⟨vx, a.eval x, fun w' _ => ?_, ev_rel hE hx, h⟩
      simp [execOp, ho, hbv, asBool]
  · cases h

theorem q_extract {x : Operand} {i : Nat} (ho : o.op = .extract x i) (h : opC P O lo sand o env F G k = some r) (hE : ERel m env a.tmps) : QuietOk P m o a w F G k r := by
  simp only [opC, ho] at h
  split at h
  · rename_i vs hx
    split at h
    · rename_i v hv
      have hb := ev_rel hE hx
      generalize hbv : a.eval x = bv at hb
      cases hb with
      | tuple _ cs' hs hc =>
        obtain ⟨v', hv', hr⟩ := ARel.get ⟨hs, hc⟩ hv
        refine ⟨v, v', fun w' _ => ?_, hr, h⟩
        simp [execOp, ho, hbv, Instr.extract, hv']
    · cases h
  · cases h

theorem q_unOp {op : UnOp} {t : TypeId} {x : Operand} (ho : o.op = .unOp op t x) (h : opC P O lo sand o env F G k = some r) (hE : ERel m env a.tmps) : QuietOk P m o a w F G k r := by
  simp only [opC, ho] at h
  split at h
  · rename_i v hv
    have hb := ev_rel hE hv
    generalize hbv : a.eval x = bv at hb
    unfold unC at h
    split at h
    · cases hb; exact ⟨_, _, fun w' _ => by simp [execOp, ho, hbv, Op.unary, Op.intArith], .int _ _, h⟩
    · cases hb; exact ⟨_, _, fun w' _ => by simp [execOp, ho, hbv, Op.unary, Op.intBits, xorI], .int _ _, h⟩
    · cases hb; exact ⟨_, _, fun w' _ => by simp [execOp, ho, hbv, Op.unary], .float _ _, h⟩
    · cases hb; exact ⟨_, _, fun w' _ => by simp [execOp, ho, hbv, Op.unary], .bool _, h⟩
    · cases h
  · cases h

theorem q_nilCheck {x : Operand} (ho : o.op = .nilCheck x) (h : opC P O lo sand o env F G k = some r) (hE : ERel m env a.tmps) : QuietOk P m o a w F G k r := by
  simp only [opC, ho] at h
  split at h
  · rename_i p hv
    split at h
    · rename_i q
      have hb := ev_rel hE hv
      generalize hbv : a.eval x = bv at hb
      cases hb with
      | ptr _ e he => exact ⟨_, _, fun w' _ => by simp [execOp, ho, hbv], .ptr q e he, h⟩
    · cases h
  · rename_i b i hv
    have hb := ev_rel hE hv
    generalize hbv : a.eval x = bv at hb
    cases hb with
    | loc _ _ c hc => exact ⟨_, _, fun w' _ => by simp [execOp, ho, hbv], .loc b i c hc, h⟩
  · rename_i f cs hv
    have hb := ev_rel hE hv
    generalize hbv : a.eval x = bv at hb
    cases hb with
    | func _ _ cs' hs hc => exact ⟨_, _, fun w' _ => by simp [execOp, ho, hbv], .func f cs cs' hs hc, h⟩
  · cases h

theorem q_makeInterface {t : TypeId} {x : Operand} (ho : o.op = .makeInterface t x) (h : opC P O lo sand o env F G k = some r) (hE : ERel m env a.tmps) : QuietOk P m o a w F G k r := by
  simp only [opC, ho] at h
  split at h
  · cases h
  · rename_i v d hn hv hu
    refine ⟨_, .iface t (a.eval x), fun w' _ => ?_, .iface t v _ (ev_rel hE hv), h⟩
    have : ∀ ms, d ≠ .interface ms := fun ms hd => hn ms hd
    simp only [execOp, ho, Instr.makeInterface, Sem.run_bind]
    cases d <;> first | (exact absurd rfl (this _)) | simp [underlying, hu]
  · cases h

theorem q_makeFunc {f : Nat} {first caps : Array Operand} (ho : o.op = .makeFunc (.func f) first caps) (h : opC P O lo sand o env F G k = some r) (hE : ERel m env a.tmps) : QuietOk P m o a w F G k r := by
  simp only [opC, ho] at h
  split at h
  · rename_i cs hcs
    split at h
    · rename_i hz
      have hf : first = #[] := Array.eq_empty_of_size_eq_zero hz
      subst hf
      obtain ⟨h1, h2⟩ := evs_arel hE hcs
      exact ⟨_, .func (.func f) #[] (caps.map a.eval), fun w' _ => by simp [execOp, ho, Instr.makeFunc], .func f cs _ h1 h2, h⟩
    · cases h
  · cases h

end
end Go.LI
