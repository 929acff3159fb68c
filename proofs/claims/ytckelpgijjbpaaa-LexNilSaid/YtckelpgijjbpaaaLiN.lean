/- Regions, code, bodies. -/
import Derived.Test.YtckelpgijjbpaaaLiW
import Derived.Test.YtckelpgijjbpaaaLiEx
import Derived.Test.YtckelpgijjbpaaaLiYf
namespace Go.LI
open Go Go.RowKit

section
variable {R : Type} {P : Program} {B K : Nat → Prop} {w0 : World} {m : Map} {F : List (List IV)} {G : GH} {w : World} {O : Ora R} {lo : List Nat} {o : Oper} {env : List IV} {a : Act} {r : R}

/-- One quiet operation, in each world that has only grown. -/
theorem quiet_sim (hO : GoodO P O) {k : IV → List (List IV) → GH → Option R} (hq : quietOp o.op = true) (hcm : convMakes P o.op = false) (h : opC P O lo true o env F G k = some r) :
    ∃ v, k v F G = some r ∧ ∀ (B K : Nat → Prop) (w0 : World) (m : Map) (w : World) (a : Act), HRel P B K w0 m F G w → ERel m env a.tmps →
      ∃ v', VRel m v v' ∧ ∀ w', Below w.heap.size w w' → o.quietAt P a (Below w.heap.size w) w' v' := by
  by_cases hc : isCall o.op = true
  · cases ho : o.op with
    | call c =>
      rw [ho] at hc
      cases hcc : c.callee with
      | value f =>
        simp only [opC, ho, hcc] at h
        split at h
        · rename_i args hargs
          split at h
          · rename_i fid caps hf
            split at h
            · rename_i hnl
              simp only [if_true] at h
              simp only [Bool.and_eq_true] at hnl
              obtain ⟨v, h1, h2⟩ := call_quiet hO h (noLocs_append hnl.1 hnl.2)
              refine ⟨v, h1, fun B K w0 m w a hR hE => ?_⟩
              have hA := evs_arel hE hargs
              have hfr := ev_rel hE hf
              generalize hfv : a.eval f = fv at hfr
              cases hfr with
              | func _ _ cs' hs hcs =>
                have hAA : ARel m (args ++ caps) (c.args.map a.eval ++ cs') := hA.append ⟨hs, hcs⟩
                obtain ⟨v', q1, q2⟩ := h2 B K w0 m w _ hAA hR
                refine ⟨v', q1, fun w' hw' => ?_⟩
                unfold Oper.quietAt
                rw [run_invoke w' ho hcc hfv rfl]
                rcases q2 w' hw' with ⟨p1, p2⟩ | p1
                · rw [p1]; exact ⟨rfl, p2⟩
                · rw [p1]; exact ⟨rfl, rfl⟩
            · cases h
          · cases h
        · cases h
      | builtin b => simp [isCall, hcc] at hc
      | invoke x n => simp [isCall, hcc] at hc
    | _ => rw [ho] at hc; simp [isCall] at hc
  · have hc' : isCall o.op = false := by simpa using hc
    rw [opC_qparam (O' := fun _ _ _ _ => none) env F G k hc' hq hcm] at h
    cases hx : opC P (fun _ _ _ _ => none) lo true o env F G (fun v _ _ => some v) with
    | none => rw [hx] at h; cases h
    | some v =>
      rw [hx] at h
      refine ⟨v, h, fun B K w0 m w a hR hE => ?_⟩
      obtain ⟨v1, v', h1, h2, h3⟩ := q_all (by simp) hR.mem hq hcm hc' hx hE
      injection h3 with h3
      subst h3
      refine ⟨v', h2, fun w' hw' => ?_⟩
      unfold Oper.quietAt
      rw [h1 w' hw']
      exact ⟨rfl, rfl⟩

/-- Nothing but quiet operations. -/
def QuietAll (P : Program) (os : List Oper) : Prop := ∀ o ∈ os, quietOp o.op = true ∧ convMakes P o.op = false

theorem quiet_ops_sim (hO : GoodO P O) {all : Array Oper} : ∀ {os : List Oper} {env : List IV} {k : List IV → List (List IV) → GH → Option R} {r : R}, QuietAll P os → opsC P O lo true all os env F G k = some r →
    ∃ env', k env' F G = some r ∧ ∀ (B K : Nat → Prop) (w0 : World) (m : Map) (w : World) (a : Act) (T : Act → Prop), HRel P B K w0 m F G w → ERel m env a.tmps →
      (∀ a', ERel m env' a'.tmps → a'.defers = a.defers → T a') → wpQuiet P all (Below w.heap.size w) T os a
  | [], env, k, r, _, h => ⟨env, h, fun B K w0 m w a T hR hE hT => hT a hE rfl⟩
  | o :: os, env, k, r, hqa, h => by
    obtain ⟨hq, hcm⟩ := hqa o (by simp)
    have hqa' : QuietAll P os := fun x hx => hqa x (by simp [hx])
    have run : ∀ {env1 : List IV}, (opC P O lo true o env1 F G fun v F G => opsC P O lo true all os (putI env1 o.dst v) F G k) = some r →
        ∃ env', k env' F G = some r ∧ ∀ (B K : Nat → Prop) (w0 : World) (m : Map) (w : World) (a : Act) (T : Act → Prop), HRel P B K w0 m F G w → ERel m env1 a.tmps → Region.wanted o (yielded all a.tmps) = true →
          (∀ a', ERel m env' a'.tmps → a'.defers = a.defers → T a') → wpQuiet P all (Below w.heap.size w) T (o :: os) a := by
      intro env1 h
      obtain ⟨v, h1, h2⟩ := quiet_sim hO hq hcm h
      obtain ⟨env', h3, h4⟩ := quiet_ops_sim hO hqa' h1
      refine ⟨env', h3, fun B K w0 m w a T hR hE hw hT => ?_⟩
      obtain ⟨v', q1, q2⟩ := h2 B K w0 m w a hR hE
      simp only [wpQuiet, hw, if_true]
      refine ⟨v', q2, ?_⟩
      exact h4 B K w0 m w _ T hR (hE.put q1 o.dst) fun a' e d => hT a' e (d.trans (put_defers a _ _))
    have pass : ∀ {env1 : List IV}, opsC P O lo true all os (putI env1 o.dst undefI) F G k = some r →
        ∃ env', k env' F G = some r ∧ ∀ (B K : Nat → Prop) (w0 : World) (m : Map) (w : World) (a : Act) (T : Act → Prop), HRel P B K w0 m F G w → ERel m env1 a.tmps → Region.wanted o (yielded all a.tmps) = false →
          (∀ a', ERel m env' a'.tmps → a'.defers = a.defers → T a') → wpQuiet P all (Below w.heap.size w) T (o :: os) a := by
      intro env1 h
      obtain ⟨env', h3, h4⟩ := quiet_ops_sim hO hqa' h
      refine ⟨env', h3, fun B K w0 m w a T hR hE hw hT => ?_⟩
      simp only [wpQuiet, hw, Bool.false_eq_true, if_false]
      exact h4 B K w0 m w _ T hR (hE.put (VRel.undef m) o.dst) fun a' e d => hT a' e (d.trans (put_defers a _ _))
    simp only [opsC] at h
    split at h
    · rename_i hg
      obtain ⟨env', h1, h2⟩ := run h
      exact ⟨env', h1, fun B K w0 m w a T hR hE hT => h2 B K w0 m w a T hR hE (by simp [Region.wanted, hg]) hT⟩
    · rename_i j want hg
      split at h
      · cases h
      · rename_i d hd
        split at h
        · rename_i b hb
          have hsame : env.set d (.bool b) = env := set_same hb
          cases b
          · simp only [cond_false] at h
            rw [hsame] at h
            split at h
            · rename_i hw
              obtain ⟨env', h1, h2⟩ := pass h
              exact ⟨env', h1, fun B K w0 m w a T hR hE hT => h2 B K w0 m w a T hR hE (by simp [Region.wanted, hg, yield_bool hd hb hE, hw]) hT⟩
            · rename_i hw
              obtain ⟨env', h1, h2⟩ := run h
              exact ⟨env', h1, fun B K w0 m w a T hR hE hT => h2 B K w0 m w a T hR hE (by simp [Region.wanted, hg, yield_bool hd hb hE]; simpa using hw) hT⟩
          · simp only [cond_true] at h
            rw [hsame] at h
            split at h
            · rename_i hw
              obtain ⟨env', h1, h2⟩ := run h
              exact ⟨env', h1, fun B K w0 m w a T hR hE hT => h2 B K w0 m w a T hR hE (by simp [Region.wanted, hg, yield_bool hd hb hE, hw]) hT⟩
            · rename_i hw
              obtain ⟨env', h1, h2⟩ := pass h
              exact ⟨env', h1, fun B K w0 m w a T hR hE hT => h2 B K w0 m w a T hR hE (by simp [Region.wanted, hg, yield_bool hd hb hE]; simpa using hw) hT⟩
        · rename_i hb
          obtain ⟨env', h1, h2⟩ := pass h
          exact ⟨env', h1, fun B K w0 m w a T hR hE hT => h2 B K w0 m w a T hR hE (by simp [Region.wanted, hg, yield_undef hd hb hE]) hT⟩
        · cases h

theorem quietN_all : ∀ (os : List Oper), ∀ o ∈ os.take (quietN os), quietOp o.op = true
  | [], o, h => by simp at h
  | x :: os, o, h => by
    simp only [quietN] at h
    split at h
    · rename_i hq
      simp only [List.take_succ_cons, List.mem_cons] at h
      rcases h with rfl | h
      · exact hq
      · exact quietN_all os o h
    · simp at h

def toExit : Ex → Exit
  | .normal => .normal
  | .exit id => .exit id
  | .ret => .ret

theorem region_sim (hm : P.follows .mixedOrders = true) (hO : GoodO P O) (hN : NatO O) {id : Nat} {ops : Array Oper} {draw : Bool} {fuel : Nat} {k : Ex → List IV → List (List IV) → GH → Option R} (h : codeC P O lo fuel (.region id ops draw) env F G k = some r) :
    ∃ env' F' G', k .normal env' F' G' = some r ∧ ∀ (B K : Nat → Prop) (w0 : World) (m : Map) (w : World) (a : Act) (Q : Exit → Act → World → Prop), HRel P B K w0 m F G w → ERel m env a.tmps →
      After P B K w0 m env' F' G' a (Q .normal) → (Code.region id ops draw).wp P Q a w := by
  simp only [codeC] at h
  cases draw
  · simp only [Bool.false_eq_true, if_false] at h
    obtain ⟨env', F', G', h1, h2⟩ := ops_sim hO h
    exact ⟨env', F', G', h1, fun B K w0 m w a Q hR hE hQ => wp_region_list (h2 B K w0 m w a Q hR hE hQ)⟩
  · simp only [if_true] at h
    split at h
    · rename_i hd
      replace hd : drawOk P ops = true := (Bool.and_eq_true _ _ ▸ hd).1
      simp only [drawOk] at hd
      simp only [Bool.and_eq_true] at hd
      obtain ⟨hd1, hd2⟩ := hd
      have hqa : QuietAll P (ops.toList.take (quietN ops.toList)) := fun o ho =>
        ⟨quietN_all _ o ho, by have := List.all_eq_true.1 hd1 o ho; simpa using this⟩
      obtain ⟨env1, h1, h2⟩ := quiet_ops_sim hO hqa h
      obtain ⟨env', F', G', h3, h4⟩ := ops_sim hO h1
      refine ⟨env', F', G', h3, fun B K w0 m w a Q hR hE hQ => ?_⟩
      have tail : ∀ a', ERel m env1 a'.tmps → a'.defers = a.defers → ∀ w', Below w.heap.size w w' → wpList P ops Q (ops.toList.drop (quietN ops.toList)) a' w' := by
        intro a' he hdf w' hw'
        exact h4 B K w0 m w' a' Q (hR.grow hw') he fun m2 w2 a2 l r2 e2 d2 => hQ m2 w2 a2 l r2 e2 (d2.trans hdf)
      have hC : Below w.heap.size w { w with drawn := w.drawn + 1 } := below_drawn w _
      split at hd2
      · rename_i hn
        refine wp_region_quiet (C := Below w.heap.size w) hm hd2 hC ?_
        have ht : ops.toList.take (quietN ops.toList) = ops.toList := List.take_of_length_le (by rw [hn, Array.length_toList]; exact Nat.le_refl _)
        have hdr : ops.toList.drop (quietN ops.toList) = [] := List.drop_eq_nil_of_le (by rw [hn, Array.length_toList]; exact Nat.le_refl _)
        rw [ht] at h2
        refine h2 B K w0 m w a _ hR hE fun a' he hdf w' hw' => ?_
        have := tail a' he hdf w' hw'
        rw [hdr] at this
        exact this
      · exact wp_region_quiet_tail (C := Below w.heap.size w) _ hm hd2 hC (h2 B K w0 m w a _ hR hE tail)
    · split at h
      · rename_i hds
        exact store_region hm hds h
      · exact draw_region hm hO hN h

/-! ### A round's own variables -/
def Map.cut (m : Map) (n : Nat) : Map := { m with f := fun k => if k < n then m.f k else none }
theorem VRel.cut {m : Map} {n : Nat} {iv : IV} {v : Value} (h : VRel m iv v) (hl : locOk n iv = true) : VRel (m.cut n) iv v := by
  by_cases hn : noLoc iv = true
  · exact VRel.mono (m := m.noF) (m' := m.cut n) ⟨fun _ _ x => x, fun _ _ x => nomatch x⟩ (h.noF hn)
  · cases iv with
    | loc b i =>
      cases h with
      | loc _ _ q hq => exact .loc b i q (by simp only [Map.cut]; rw [if_pos (by simpa [locOk] using hl)]; exact hq)
    | _ => exact absurd hl hn
theorem drop_rel {m1 : Map} {F1 : List (List IV)} {G1 : GH} {w1 : World} {env1 : List IV} {tmps : Array Value} (hR : HRel P B K w0 m F G w) (l : m.le m1) (r1 : HRel P B K w0 m1 F1 G1 w1) (e1 : ERel m1 env1 tmps) :
    ∃ m2, m.le m2 ∧ HRel P B K w0 m2 (dropF F.length env1 F1) G1 w1 ∧ ERel m2 env1 tmps := by
  unfold dropF
  cases Nat.ble F1.length F.length with
  | true => exact ⟨m1, l, r1, e1⟩
  | false =>
    rw [cond_false]
    cases hok : env1.all (locOk F.length) && (F1.take F.length).all (fun cs => cs.all (locOk F.length)) with
    | false => exact ⟨m1, l, r1, e1⟩
    | true =>
      rw [cond_true]
      simp only [Bool.and_eq_true] at hok
      have cf : ∀ {k b : Nat}, (m1.cut F.length).f k = some b → k < F.length ∧ m1.f k = some b := fun {k b} h => by
        simp only [Map.cut] at h
        split at h
        · rename_i hk; exact ⟨hk, h⟩
        · cases h
      refine ⟨m1.cut F.length, ⟨l.1, fun k b h => ?_⟩, ?_, e1.1, fun i iv v a b hn => (e1.2 i iv v a b hn).cut (List.all_eq_true.1 hok.1 iv (List.mem_of_getElem? a))⟩
      · simp only [Map.cut]
        rw [if_pos (hR.fdom k b h)]
        exact l.2 k b h
      · exact
          { bk := r1.bk, frame := r1.frame, os := r1.os, tape := r1.tape, output := r1.output, size := r1.size, gdom := r1.gdom
            fdom := fun k b h => by
              obtain ⟨h1, h2⟩ := cf h
              have := r1.fdom k b h2
              rw [List.length_take]; omega
            gblk := fun b k e hk hm he => by
              obtain ⟨c, t, fr, hg⟩ := r1.gblk b k e hk hm he
              exact ⟨c, t, fr, { row := hg.row, fits := hg.fits, cells := hg.cells, ro := hg.ro, esz := hg.esz, rw := hg.rw }⟩
            fblk := fun i cs b hi hb => by
              obtain ⟨h1, h2⟩ := cf hb
              have hi' : F1[i]? = some cs := by rw [List.getElem?_take_of_lt h1] at hi; exact hi
              obtain ⟨c, t, hf⟩ := r1.fblk i cs b hi' h2
              refine ⟨c, t, { row := hf.row, size := hf.size, own := hf.own, cells := fun j iv hj => ?_ }⟩
              obtain ⟨v, h3, h4⟩ := hf.cells j iv hj
              exact ⟨v, h3, h4.cut (List.all_eq_true.1 (List.all_eq_true.1 hok.2 cs (List.mem_of_getElem? hi)) iv (List.mem_of_getElem? hj))⟩
            ginj := r1.ginj
            gf := fun b i k e r hb hm he hr => r1.gf b i k e r hb hm he (cf hr).2
            finj := fun i j r s hr hs hij => r1.finj i j r s (cf hr).2 (cf hs).2 hij }

/-- Code. -/
def CodeOut (P : Program) (c : Code) (env : List IV) (F : List (List IV)) (G : GH) (k : Ex → List IV → List (List IV) → GH → Option R) (r : R) : Prop :=
  ∃ e env' F' G', k e env' F' G' = some r ∧ ∀ (B K : Nat → Prop) (w0 : World) (m : Map) (w : World) (a : Act) (Q : Exit → Act → World → Prop), HRel P B K w0 m F G w → ERel m env a.tmps →
    After P B K w0 m env' F' G' a (Q (toExit e)) → c.wp P Q a w

theorem After.le {T : Act → World → Prop} {m m1 : Map} {a a1 : Act} {env' : List IV} {F' : List (List IV)} {G' : GH} (h : After P B K w0 m env' F' G' a T) (hl : m.le m1) (hd : a1.defers = a.defers) : After P B K w0 m1 env' F' G' a1 T :=
  fun m2 w2 a2 l r e d => h m2 w2 a2 (Map.le_trans hl l) r e (d.trans hd)

theorem step_out {R : Type} {n : Nat} {x : Option R} {r : R} (h : stepN n x = some r) : x = some r := by
  cases n with
  | zero => cases h
  | succ n => exact h

theorem code_sim (hm : P.follows .mixedOrders = true) (hO : GoodO P O) (hN : NatO O) {fuel : Nat} : ∀ (c : Code) {env : List IV} {F : List (List IV)} {G : GH} {k : Ex → List IV → List (List IV) → GH → Option R} {r : R}, codeC P O lo fuel c env F G k = some r → CodeOut P c env F G k r
  | .skip, env, F, G, k, r, h => ⟨.normal, env, F, G, h, fun B K w0 m w a Q hR hE hQ => wp_skip (hQ m w a m.le_refl hR hE rfl)⟩
  | .region id ops draw, env, F, G, k, r, h => by
    obtain ⟨env', F', G', h1, h2⟩ := region_sim hm hO hN h
    exact ⟨.normal, env', F', G', h1, h2⟩
  | .seq x y, env, F, G, k, r, h => by
    simp only [codeC] at h
    split at h
    · cases hmq : maskQ lo (4 * headId y + 2)
      · rw [hmq, cond_false] at h
        replace h := step_out h
        obtain ⟨e, env1, F1, G1, h1, h2⟩ := code_sim hm hO hN x h
        cases e with
        | normal =>
          simp only at h1
          obtain ⟨e', env2, F2, G2, h3, h4⟩ := code_sim hm hO hN y h1
          refine ⟨e', env2, F2, G2, h3, fun B K w0 m w a Q hR hE hQ => wp_seq (h2 B K w0 m w a _ hR hE fun m1 w1 a1 l r1 e1 d1 => ?_)⟩
          exact h4 B K w0 m1 w1 a1 Q r1 e1 (hQ.le l d1)
        | exit id => exact ⟨_, env1, F1, G1, h1, fun B K w0 m w a Q hR hE hQ => wp_seq (h2 B K w0 m w a _ hR hE hQ)⟩
        | ret => exact ⟨_, env1, F1, G1, h1, fun B K w0 m w a Q hR hE hQ => wp_seq (h2 B K w0 m w a _ hR hE hQ)⟩
      · rw [hmq, cond_true] at h
        replace h := step_out h
        obtain ⟨e, env1, F1, G1, h1, h2⟩ := code_sim hm hO hN x h
        have drop := fun {B K : Nat → Prop} {w0 : World} {m m1 : Map} {w w1 : World} {tmps : Array Value} (hR : HRel P B K w0 m F G w) (l : m.le m1) (r1 : HRel P B K w0 m1 F1 G1 w1) (e1 : ERel m1 env1 tmps) =>
          drop_rel hR l r1 (e1.keepE lo (4 * headId y + 3) e)
        cases e with
        | normal =>
          simp only [kpD] at h1
          obtain ⟨e', env2, F2, G2, h3, h4⟩ := code_sim hm hO hN y h1
          refine ⟨e', env2, F2, G2, h3, fun B K w0 m w a Q hR hE hQ => wp_seq (h2 B K w0 m w a _ hR (hE.keep lo _) fun m1 w1 a1 l r1 e1 d1 => ?_)⟩
          obtain ⟨m2, l2, r2, e2⟩ := drop hR l r1 e1
          exact h4 B K w0 m2 w1 a1 Q r2 e2 (hQ.le l2 d1)
        | exit id => exact ⟨_, _, _, G1, h1, fun B K w0 m w a Q hR hE hQ => wp_seq (h2 B K w0 m w a _ hR (hE.keep lo _) fun m1 w1 a1 l r1 e1 d1 => by
            obtain ⟨m2, l2, r2, e2⟩ := drop hR l r1 e1
            exact hQ m2 w1 a1 l2 r2 e2 d1)⟩
        | ret => exact ⟨_, _, _, G1, h1, fun B K w0 m w a Q hR hE hQ => wp_seq (h2 B K w0 m w a _ hR (hE.keep lo _) fun m1 w1 a1 l r1 e1 d1 => by
            obtain ⟨m2, l2, r2, e2⟩ := drop hR l r1 e1
            exact hQ m2 w1 a1 l2 r2 e2 d1)⟩
    · obtain ⟨e, env1, F1, G1, h1, h2⟩ := code_sim hm hO hN x h
      cases e with
      | normal =>
        simp only at h1
        obtain ⟨e', env2, F2, G2, h3, h4⟩ := code_sim hm hO hN y h1
        refine ⟨e', env2, F2, G2, h3, fun B K w0 m w a Q hR hE hQ => wp_seq (h2 B K w0 m w a _ hR hE fun m1 w1 a1 l r1 e1 d1 => ?_)⟩
        exact h4 B K w0 m1 w1 a1 Q r1 e1 (hQ.le l d1)
      | exit id => exact ⟨_, env1, F1, G1, h1, fun B K w0 m w a Q hR hE hQ => wp_seq (h2 B K w0 m w a _ hR hE hQ)⟩
      | ret => exact ⟨_, env1, F1, G1, h1, fun B K w0 m w a Q hR hE hQ => wp_seq (h2 B K w0 m w a _ hR hE hQ)⟩
  | .cond c x y, env, F, G, k, r, h => by
    simp only [codeC] at h
    split at h
    · rename_i t ht
      have hc : ∀ {m : Map} {a : Act}, ERel m env a.tmps → a.eval c = .bool t := by
        intro m a hE
        have hb := ev_rel hE ht
        generalize a.eval c = cv at hb
        cases hb
        rfl
      cases t
      · obtain ⟨e, env1, F1, G1, h1, h2⟩ := code_sim hm hO hN y h
        exact ⟨e, env1, F1, G1, h1, fun B K w0 m w a Q hR hE hQ => wp_cond_false (hc hE) (h2 B K w0 m w a Q hR hE hQ)⟩
      · obtain ⟨e, env1, F1, G1, h1, h2⟩ := code_sim hm hO hN x h
        exact ⟨e, env1, F1, G1, h1, fun B K w0 m w a Q hR hE hQ => wp_cond_true (hc hE) (h2 B K w0 m w a Q hR hE hQ)⟩
    · cases h
  | .block id c, env, F, G, k, r, h => by
    simp only [codeC] at h
    obtain ⟨e, env1, F1, G1, h1, h2⟩ := code_sim hm hO hN c h
    cases e with
    | normal => exact ⟨_, env1, F1, G1, h1, fun B K w0 m w a Q hR hE hQ => wp_block (h2 B K w0 m w a _ hR hE hQ)⟩
    | exit j =>
      simp only at h1
      by_cases hj : j = id
      · rw [if_pos hj] at h1
        exact ⟨_, env1, F1, G1, h1, fun B K w0 m w a Q hR hE hQ => wp_block (h2 B K w0 m w a _ hR hE fun m1 w1 a1 l r1 e1 d1 => by
          simp only [toExit, Exit.inBlock, hj, if_true]; exact hQ m1 w1 a1 l r1 e1 d1)⟩
      · rw [if_neg hj] at h1
        exact ⟨_, env1, F1, G1, h1, fun B K w0 m w a Q hR hE hQ => wp_block (h2 B K w0 m w a _ hR hE fun m1 w1 a1 l r1 e1 d1 => by
          simp only [toExit, Exit.inBlock, hj, if_false]; exact hQ m1 w1 a1 l r1 e1 d1)⟩
    | ret => exact ⟨_, env1, F1, G1, h1, fun B K w0 m w a Q hR hE hQ => wp_block (h2 B K w0 m w a _ hR hE hQ)⟩
  | .loop c, env, F, G, k, r, h => by
    simp only [codeC] at h
    cases hmq : maskQ lo (4 * headId c)
    · rw [hmq, cond_false] at h
      have key : ∀ (n : Nat) {env : List IV} {F : List (List IV)} {G : GH}, loopN (fun env F G k => codeC P O lo fuel c env F G k) n env F G k = some r →
          ∃ e env' F' G', k e env' F' G' = some r ∧ ∀ (B K : Nat → Prop) (w0 : World) (m : Map) (w : World) (a : Act) (Q : Exit → Act → World → Prop), HRel P B K w0 m F G w → ERel m env a.tmps →
            After P B K w0 m env' F' G' a (Q (toExit e)) → Code.rounds P c Q n a w := by
        intro n
        induction n with
        | zero => intro env F G h; simp [loopN] at h
        | succ n ih =>
          intro env F G h
          simp only [loopN] at h
          obtain ⟨e, env1, F1, G1, h1, h2⟩ := code_sim hm hO hN c h
          cases e with
          | normal =>
            simp only at h1
            obtain ⟨e', env2, F2, G2, h3, h4⟩ := ih h1
            refine ⟨e', env2, F2, G2, h3, fun B K w0 m w a Q hR hE hQ => ?_⟩
            rw [rounds_succ]
            exact h2 B K w0 m w a _ hR hE fun m1 w1 a1 l r1 e1 d1 => h4 B K w0 m1 w1 a1 Q r1 e1 (hQ.le l d1)
          | exit j => exact ⟨_, _, F1, G1, h1, fun B K w0 m w a Q hR hE hQ => by rw [rounds_succ]; exact h2 B K w0 m w a _ hR hE hQ⟩
          | ret => exact ⟨_, _, F1, G1, h1, fun B K w0 m w a Q hR hE hQ => by rw [rounds_succ]; exact h2 B K w0 m w a _ hR hE hQ⟩
      obtain ⟨e, env1, F1, G1, h1, h2⟩ := key fuel h
      exact ⟨e, env1, F1, G1, h1, fun B K w0 m w a Q hR hE hQ => wp_loop_rounds fuel (h2 B K w0 m w a Q hR hE hQ)⟩
    · rw [hmq, cond_true] at h
      have key : ∀ (n : Nat) {env : List IV} {F : List (List IV)} {G : GH}, loopN (fun env F G k => codeC P O lo fuel c env F G (kpD lo (4 * headId c) F.length k)) n env F G k = some r →
          ∃ e env' F' G', k e env' F' G' = some r ∧ ∀ (B K : Nat → Prop) (w0 : World) (m : Map) (w : World) (a : Act) (Q : Exit → Act → World → Prop), HRel P B K w0 m F G w → ERel m env a.tmps →
            After P B K w0 m env' F' G' a (Q (toExit e)) → Code.rounds P c Q n a w := by
        intro n
        induction n with
        | zero => intro env F G h; simp [loopN] at h
        | succ n ih =>
          intro env F G h
          simp only [loopN] at h
          obtain ⟨e, env1, F1, G1, h1, h2⟩ := code_sim hm hO hN c h
          have drop := fun {B K : Nat → Prop} {w0 : World} {m m1 : Map} {w w1 : World} {tmps : Array Value} (hR : HRel P B K w0 m F G w) (l : m.le m1) (r1 : HRel P B K w0 m1 F1 G1 w1) (e1 : ERel m1 env1 tmps) =>
            drop_rel hR l r1 (e1.keepE lo (4 * headId c) e)
          cases e with
          | normal =>
            simp only [kpD] at h1
            obtain ⟨e', env2, F2, G2, h3, h4⟩ := ih h1
            refine ⟨e', env2, F2, G2, h3, fun B K w0 m w a Q hR hE hQ => ?_⟩
            rw [rounds_succ]
            exact h2 B K w0 m w a _ hR hE fun m1 w1 a1 l r1 e1 d1 => by
              obtain ⟨m2, l2, r2, e2⟩ := drop hR l r1 e1
              exact h4 B K w0 m2 w1 a1 Q r2 e2 (hQ.le l2 d1)
          | exit j => exact ⟨_, _, _, G1, h1, fun B K w0 m w a Q hR hE hQ => by
              rw [rounds_succ]
              exact h2 B K w0 m w a _ hR hE fun m1 w1 a1 l r1 e1 d1 => by
                obtain ⟨m2, l2, r2, e2⟩ := drop hR l r1 e1
                exact hQ m2 w1 a1 l2 r2 e2 d1⟩
          | ret => exact ⟨_, _, _, G1, h1, fun B K w0 m w a Q hR hE hQ => by
              rw [rounds_succ]
              exact h2 B K w0 m w a _ hR hE fun m1 w1 a1 l r1 e1 d1 => by
                obtain ⟨m2, l2, r2, e2⟩ := drop hR l r1 e1
                exact hQ m2 w1 a1 l2 r2 e2 d1⟩
      obtain ⟨e, env1, F1, G1, h1, h2⟩ := key fuel h
      exact ⟨e, env1, F1, G1, h1, fun B K w0 m w a Q hR hE hQ => wp_loop_rounds fuel (h2 B K w0 m w a Q hR (hE.keep lo _) hQ)⟩
  | .exit id, env, F, G, k, r, h => ⟨.exit id, env, F, G, h, fun B K w0 m w a Q hR hE hQ => wp_exit (hQ m w a m.le_refl hR hE rfl)⟩
  | .ret, env, F, G, k, r, h => ⟨.ret, env, F, G, h, fun B K w0 m w a Q hR hE hQ => wp_ret (hQ m w a m.le_refl hR hE rfl)⟩
  | .rangeFunc _ _ _ _, env, F, G, k, r, h => by simp [codeC] at h
  | .scope _, env, F, G, k, r, h => by simp [codeC] at h
  | .label _, env, F, G, k, r, h => by simp [codeC] at h
  | .goto _, env, F, G, k, r, h => by simp [codeC] at h
  | .refuse _, env, F, G, k, r, h => by simp [codeC] at h

/-! ### Bodies -/
theorem loadC_out {R : Type} {t : TypeId} {x : IV} {k : IV → Option R} {r : R} (h : loadC P t x F G k = some r) : ∃ v, k v = some r ∧ loadC P t x F G some = some v := by
  rw [loadC_param] at h
  cases hv : loadC P t x F G some with
  | none => rw [hv] at h; cases h
  | some v => rw [hv] at h; exact ⟨v, h, rfl⟩

def resF (tmps : Array Value) : ResultVar → Sem Value
  | .tmp t => pure (tmps.getD t Go.undef)
  | .cell a t => do loadVar t (← asAddr (tmps.getD a Go.undef))
theorem results_eq (fn : Func) (tmps : Array Value) : results fn tmps = (do let vs ← fn.results.mapM (resF tmps); pure (if h : vs.size = 1 then vs[0] else .tuple vs)) := by
  unfold results
  congr 1
theorem run_asAddr (ad : Addr) : (asAddr (.pointer (some ad))).run P w = .ok ad w := rfl

theorem res_sim : ∀ (rs : List ResultVar) {k : List IV → Option R} {r : R}, resL P env F G rs k = some r →
    ∃ vs, k vs = some r ∧ ∀ (m : Map) (w : World) (tmps : Array Value), MemOk P m F G w → ERel m env tmps →
      ∃ vs' : List Value, (rs.mapM (resF tmps)).run P w = .ok vs' w ∧ LRel m vs vs'
  | [], k, r, h => ⟨[], h, fun m w tmps hM hE => ⟨[], rfl, rfl, fun i iv v h => by simp at h⟩⟩
  | .tmp t :: rs, k, r, h => by
    simp only [resL] at h
    split at h
    · rename_i v hv
      obtain ⟨vs, h1, h2⟩ := res_sim rs h
      refine ⟨v :: vs, h1, fun m w tmps hM hE => ?_⟩
      obtain ⟨vs', h3, h4⟩ := h2 m w tmps hM hE
      obtain ⟨v', hv', hr⟩ := hE.getv hv
      refine ⟨v' :: vs', ?_, by simp [h4.1], fun i iv x a b => ?_⟩
      · rw [List.mapM_cons]
        simp only [Sem.run_bind, resF, Sem.run_pure, Result.andThen_ok, getD_of hv']
        rw [h3]; rfl
      · cases i with
        | zero => simp at a b; subst a; subst b; exact hr
        | succ i => exact h4.2 i iv x (by simpa using a) (by simpa using b)
    · cases h
  | .cell c t :: rs, k, r, h => by
    simp only [resL] at h
    split at h
    · rename_i x hx
      obtain ⟨v, h0, hl⟩ := loadC_out h
      obtain ⟨vs, h1, h2⟩ := res_sim rs h0
      refine ⟨v :: vs, h1, fun m w tmps hM hE => ?_⟩
      obtain ⟨vs', h3, h4⟩ := h2 m w tmps hM hE
      obtain ⟨x', hx', hr⟩ := hE.getv hx
      obtain ⟨ad, v1, v', q1, q2, q3, q4⟩ := load_rel hM hl hr
      injection q4 with q4
      subst q4
      refine ⟨v' :: vs', ?_, by simp [h4.1], fun i iv y a b => ?_⟩
      · rw [List.mapM_cons]
        have hc : (resF tmps (.cell c t)).run P w = .ok v' w := by
          simp only [resF, getD_of hx', q1, Sem.run_bind, run_asAddr, Result.andThen_ok, q2 w ⟨fun _ _ _ _ _ => rfl, fun _ _ _ _ _ _ _ _ => rfl⟩]
        simp only [Sem.run_bind, hc, h3, Result.andThen_ok, Sem.run_pure]
      · cases i with
        | zero => simp at a b; subst a; subst b; exact q3
        | succ i => exact h4.2 i iv y (by simpa using a) (by simpa using b)
    · cases h

theorem arel_start {m : Map} {args : List IV} {args' : Array Value} (hA : ARel m args args') (n : Nat) : ARel m (args ++ List.replicate (n - args.length) undefI) (args' ++ Array.replicate (n - args'.size) Go.undef) := by
  have hs := hA.1
  refine hA.append ⟨by simp [hs], fun i iv v a b => ?_⟩
  have h1 : iv = undefI := by
    have := List.mem_of_getElem? a
    exact (List.mem_replicate.1 this).2
  have h2 : v = Go.undef := by
    have := Array.mem_of_getElem? b
    exact (Array.mem_replicate.1 this).2
  rw [h1, h2]; exact VRel.undef m

/-- The locals are dropped. -/
theorem HRel.dropF (h : HRel P B K w0 m F G w) : HRel P B K w0 m.noF [] G w :=
  { bk := h.bk, frame := h.frame, os := h.os, tape := h.tape, output := h.output, size := h.size, gdom := h.gdom, fdom := fun k b hb => by cases hb
    gblk := fun b k e hk hm he => by
      obtain ⟨c, t, fr, hg⟩ := h.gblk b k e hk hm he
      exact ⟨c, t, fr, { row := hg.row, fits := hg.fits, cells := hg.cells, ro := hg.ro, esz := hg.esz, rw := hg.rw }⟩
    fblk := fun i cs b hi => by simp at hi
    ginj := h.ginj
    gf := fun b i k e r _ _ _ hr => by cases hr
    finj := fun i j r s hr => by cases hr }

/-- A function whose body the interpreter takes. -/
theorem body_sim (hm : P.follows .mixedOrders = true) (hO : GoodO P O) (hN : NatO O) {f : FuncId} {fn : Func} (hf : P.funcs[f]? = some fn) (hn : (fn.name == "runtime.NumGoroutine") = false) {fuel : Nat} {args : List IV} {k : IV → GH → Option R}
    (h : bodyC P O lo fuel fn args G k = some r) :
    ∃ v G', k v G' = some r ∧ noLoc v = true ∧ ∀ (B K : Nat → Prop) (w0 : World) (m : Map) (w : World) (args' : Array Value), (∀ i, m.f i = none) → ARel m args args' → HRel P B K w0 m [] G w →
      CallSim P f args' w fun v' w' => ∃ m', m.le m' ∧ (∀ i, m'.f i = none) ∧ HRel P B K w0 m' [] G' w' ∧ VRel m' v v' := by
  unfold bodyC at h
  split at h
  · rename_i hb
    exact extern_sim hf hn hb h
  · rename_i c hc
    obtain ⟨e, env', F', G', h1, h2⟩ := code_sim hm hO hN c h
    have fin : ∀ {e : Ex}, (e = .normal ∨ e = .ret) → resC P fn env' F' G' k = some r → (∀ (B K : Nat → Prop) (w0 : World) (m : Map) (w : World) (a : Act) (Q : Exit → Act → World → Prop), HRel P B K w0 m [] G w → ERel m (args ++ List.replicate (fn.ntmps - args.length) undefI) a.tmps →
        After P B K w0 m env' F' G' a (Q (toExit e)) → c.wp P Q a w) →
        ∃ v G', k v G' = some r ∧ noLoc v = true ∧ ∀ (B K : Nat → Prop) (w0 : World) (m : Map) (w : World) (args' : Array Value), (∀ i, m.f i = none) → ARel m args args' → HRel P B K w0 m [] G w →
          CallSim P f args' w fun v' w' => ∃ m', m.le m' ∧ (∀ i, m'.f i = none) ∧ HRel P B K w0 m' [] G' w' ∧ VRel m' v v' := by
      intro e he h1 h2
      unfold resC at h1
      obtain ⟨vs, h3, h4⟩ := res_sim _ h1
      -- what comes back
      have out : ∃ v, k v G' = some r ∧ noLoc v = true ∧ ∀ (m : Map) (w : World) (tmps : Array Value), MemOk P m F' G' w → ERel m env' tmps → ∃ v', (results fn tmps).run P w = .ok v' w ∧ VRel m v v' := by
        have hres : ∀ (tmps : Array Value) (w : World) (vs' : List Value), (fn.results.toList.mapM (resF tmps)).run P w = .ok vs' w →
            (results fn tmps).run P w = .ok (if h : vs'.toArray.size = 1 then vs'.toArray[0] else .tuple vs'.toArray) w := by
          intro tmps w vs' hvs
          rw [results_eq, Sem.run_bind, Array.mapM_eq_mapM_toList, Sem.run_map, hvs]
          rfl
        by_cases hl : ∃ v, vs = [v]
        · obtain ⟨v, rfl⟩ := hl
          simp only at h3
          split at h3
          · rename_i hnl
            refine ⟨v, h3, hnl, fun m w tmps hM hE => ?_⟩
            obtain ⟨vs', h5, h6⟩ := h4 m w tmps hM hE
            have hlen : vs'.length = 1 := h6.1.symm
            match vs', hlen with
            | [v'], _ => exact ⟨v', hres tmps w [v'] h5, h6.2 0 v v' rfl rfl⟩
          · cases h3
        · have h3' : (if noLocs vs then k (.tuple vs) G' else none) = some r := by
            match vs, hl, h3 with
            | [], _, h3 => exact h3
            | [v], hl, _ => exact absurd ⟨v, rfl⟩ hl
            | _ :: _ :: _, _, h3 => exact h3
          split at h3'
          · rename_i hnl
            refine ⟨.tuple vs, h3', by simpa [noLoc] using hnl, fun m w tmps hM hE => ?_⟩
            obtain ⟨vs', h5, h6⟩ := h4 m w tmps hM hE
            have hne : vs'.toArray.size ≠ 1 := by
              intro hc
              have : vs.length = 1 := by rw [h6.1]; simpa using hc
              match vs, hl, this with
              | [v], hl, _ => exact hl ⟨v, rfl⟩
            refine ⟨.tuple vs'.toArray, ?_, .tuple vs vs'.toArray (by simpa using h6.1) fun i iv v a b => h6.2 i iv v a (by simpa using b)⟩
            have := hres tmps w vs' h5
            rw [dif_neg hne] at this
            exact this
          · cases h3'
      obtain ⟨v, h5, h6, h7⟩ := out
      refine ⟨v, G', h5, h6, fun B K w0 m w args' hmf hA hR => .inl ⟨?_, ?_⟩⟩
      · have hn' : ¬ fn.name = "runtime.NumGoroutine" := by simpa using hn
        simp [callFunc, hf, hn', hc]
      · refine calls_of_wp hf hc (h2 B K w0 m w _ _ hR (arel_start hA fn.ntmps).toE fun m1 w1 a1 l r1 e1 d1 => ?_)
        obtain ⟨v', q1, q2⟩ := h7 m1 w1 a1.tmps r1.mem e1
        have hle : m.le m1.noF := ⟨l.1, fun k b hk => by rw [hmf k] at hk; cases hk⟩
        have hpost : a1.defers = [] ∧ ∃ v, (results fn a1.tmps).run P w1 = .ok v w1 ∧ (∃ v2, Ending.returned v = .returned v2 ∧ ∃ m', m.le m' ∧ (∀ i, m'.f i = none) ∧ HRel P B K w0 m' [] G' w1 ∧ VRel m' _ v2) :=
          ⟨d1, v', q1, v', rfl, m1.noF, hle, fun _ => rfl, r1.dropF, q2.noF h6⟩
        rcases he with rfl | rfl <;> exact hpost
    cases e with
    | normal => exact fin (.inl rfl) h1 h2
    | ret => exact fin (.inr rfl) h1 h2
    | exit j => cases h1

theorem HRel.empty (w : World) : HRel P (fun b => b < w.heap.size) (fun b => b < w.heap.size) w ⟨fun _ => none, fun _ => none⟩ [] [] w where
  bk := fun b hb => hb
  frame := fun b hb => ⟨hb, rfl⟩
  os := rfl
  tape := rfl
  output := rfl
  size := Nat.le_refl _
  gdom := fun b e h => by cases h
  fdom := fun k b h => by cases h
  gblk := fun b k e h => by simp at h
  fblk := fun i cs b h => by simp at h
  ginj := fun b1 b2 k1 k2 e1 e2 h => by simp at h
  gf := fun b i k e r h => by simp at h
  finj := fun i j r s h => by cases h

/-- A call in an empty heap. -/
theorem pure_good {f : FuncId} {args : List IV} {G : GH} {k : IV → GH → Option R} {r : R} {X : (IV → GH → Option R) → Option R} (hfl : isFlats args = true)
    (H : X (fun v _ => if isFlat v then k v G else none) = some r → ∃ v G', (fun v (_ : GH) => if isFlat v then k v G else none) v G' = some r ∧ noLoc v = true ∧ ∀ (B K : Nat → Prop) (w0 : World) (m : Map) (w : World) (args' : Array Value), (∀ i, m.f i = none) → ARel m args args' → HRel P B K w0 m [] [] w →
      CallSim P f args' w fun v' w' => ∃ m', m.le m' ∧ (∀ i, m'.f i = none) ∧ HRel P B K w0 m' [] G' w' ∧ VRel m' v v')
    (h : X (fun v _ => if isFlat v then k v G else none) = some r) :
    ∃ v G', k v G' = some r ∧ noLoc v = true ∧ ∀ (B K : Nat → Prop) (w0 : World) (m : Map) (w : World) (args' : Array Value), (∀ i, m.f i = none) → ARel m args args' → HRel P B K w0 m [] G w →
      CallSim P f args' w fun v' w' => ∃ m', m.le m' ∧ (∀ i, m'.f i = none) ∧ HRel P B K w0 m' [] G' w' ∧ VRel m' v v' := by
  obtain ⟨v, G', h1, h2, h3⟩ := H h
  simp only at h1
  split at h1
  · rename_i hv
    refine ⟨v, G, h1, h2, fun B K w0 m w args' hmf hA hR => ?_⟩
    refine (h3 _ _ w ⟨fun _ => none, fun _ => none⟩ w args' (fun _ => rfl) ⟨hA.1, fun i iv x a b => call_quiet.flat_any (hA.2 i iv x a b) (flat_eq0.flats_get hfl a)⟩ (HRel.empty w)).mono ?_
    rintro v' w' ⟨m', q1, q2, q3, q4⟩
    refine ⟨m, m.le_refl, hmf, hR.grow ⟨q3.os, q3.tape, q3.output, q3.size, fun b hb => (q3.frame b hb).2⟩, call_quiet.flat_any q4 hv⟩
  · cases h1

/-- All calls by the interpreter, so deep: no function that it enters is the one that counts goroutines. -/
theorem run_good (hm : P.follows .mixedOrders = true) (hn : ∀ (f : Nat) (fn : Func), P.funcs[f]? = some fn → (fn.name == "runtime.NumGoroutine") = false) (lo : Nat → List Nat) (fuel : Nat) : ∀ n, GoodO P (runC (R := R) P lo fuel n)
  | 0 => fun f args G k r h => by simp [runC] at h
  | n + 1 => fun f args G k r h hl => by
    simp only [runC] at h
    split at h
    · rename_i fn hf
      split at h
      · split at h
        · rename_i hfl
          exact pure_good hfl (fun h => body_sim hm (run_good hm hn lo fuel n) (run_nat lo fuel n) hf (hn f fn hf) h) h
        · cases h
      · exact body_sim hm (run_good hm hn lo fuel n) (run_nat lo fuel n) hf (hn f fn hf) h
    · cases h

end
end Go.LI
