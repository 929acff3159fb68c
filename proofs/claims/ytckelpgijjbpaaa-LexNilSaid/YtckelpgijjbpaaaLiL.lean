/- Rows of operations, code, bodies: what the interpreter gives the model comes to. -/
import Derived.Test.YtckelpgijjbpaaaLiK
import Derived.Test.YtckelpgijjbpaaaLiQ
import Derived.LoopN
namespace Go.LI
open Go Go.RowKit

section
variable {R : Type} {P : Program} {B K : Nat → Prop} {w0 : World} {m : Map} {F : List (List IV)} {G : GH} {w : World} {O : Ora R} {lo : List Nat} {sand : Bool} {o : Oper} {env : List IV} {a : Act} {k : IV → List (List IV) → GH → Option R} {r : R}

theorem op_sim (hO : GoodO P O) (h : opC P O lo false o env F G k = some r) :
    ∃ v F' G', k v F' G' = some r ∧ ∀ (B K : Nat → Prop) (w0 : World) (m : Map) (w : World) (a : Act), HRel P B K w0 m F G w → ERel m env a.tmps →
      OpSim P o a w fun v' w' => ∃ m', m.le m' ∧ HRel P B K w0 m' F' G' w' ∧ VRel m' v v' := by
  by_cases hc : isCall o.op = true
  · cases ho : o.op with
    | call c =>
      rw [ho] at hc
      cases hcc : c.callee with
      | value f =>
        simp only [opC, ho, hcc] at h
        split at h
        · rename_i args hargs
          split at h
          · rename_i fid caps hf
            split at h
            · rename_i hnl
              simp only [Bool.false_eq_true, if_false] at h
              simp only [Bool.and_eq_true] at hnl
              obtain ⟨v, G', h1, h2, h3⟩ := hO _ _ _ _ _ h (noLocs_append hnl.1 hnl.2)
              replace h1 := castT_out h1
              refine ⟨v, F, G', h1, fun B K w0 m w a hR hE => ?_⟩
              have hA := evs_arel hE hargs
              have hfr := ev_rel hE hf
              generalize hfv : a.eval f = fv at hfr
              cases hfr with
              | func _ _ cs' hs hcs =>
                have hAA : ARel m (args ++ caps) (c.args.map a.eval ++ cs') := hA.append ⟨hs, hcs⟩
                refine opsim_of_call (fun w' => run_invoke w' ho hcc hfv rfl) ?_
                refine (h3 B _ w m.noF w _ (fun _ => rfl) (hAA.noF (noLocs_append hnl.1 hnl.2)) hR.aside).mono ?_
                rintro v' w' ⟨m', q1, q2, q3, q4⟩
                obtain ⟨p1, p2⟩ := hR.back q1 q3
                refine ⟨_, p1, p2, (q4.noF h2).mono ?_⟩
                exact ⟨fun _ _ h => h, fun _ _ h => by cases h⟩
            · cases h
          · cases h
        · cases h
      | builtin b => simp [isCall, hcc] at hc
      | invoke x n => simp [isCall, hcc] at hc
    | _ => rw [ho] at hc; simp [isCall] at hc
  · have hc' : isCall o.op = false := by simpa using hc
    rw [opC_param (O' := fun _ _ _ _ => none) env F G k hc'] at h
    cases hx : opC P (fun _ _ _ _ => none) lo false o env F G (fun v F G => some (v, F, G)) with
    | none => rw [hx] at h; cases h
    | some x =>
      obtain ⟨v, F', G'⟩ := x
      rw [hx] at h
      refine ⟨v, F', G', h, fun B K w0 m w a hR hE => ?_⟩
      obtain ⟨v1, v', m', w', F1, G1, h1, h2, h3, h4, h5⟩ := s_all hc' hx hE hR
      injection h5 with h5
      injection h5 with e1 h5
      injection h5 with e2 e3
      subst e1; subst e2; subst e3
      exact fun next Q hn => h1 next Q (hn v' w' ⟨m', h2, h3, h4⟩)

theorem ERel.put (h : ERel m env a.tmps) {v : IV} {v' : Value} (hv : VRel m v v') (d : Option Tmp) : ERel m (putI env d v) (a.put d v').tmps := by
  cases d with
  | none => exact h
  | some d =>
    simp only [putI, Act.put]
    refine ⟨by simp [h.1], fun i iv x hi hx hn => ?_⟩
    rw [List.getElem?_set] at hi
    by_cases hdi : d = i
    · subst hdi
      simp only [if_true] at hi
      split at hi
      · rename_i hlt
        injection hi with hi
        subst hi
        rw [Array.getElem?_setIfInBounds_self_of_lt (by rw [← h.1]; exact hlt)] at hx
        injection hx with hx
        subst hx
        exact hv
      · cases hi
    · rw [if_neg hdi] at hi
      rw [Array.getElem?_setIfInBounds_ne hdi] at hx
      exact h.2 i iv x hi hx hn

theorem put_defers (a : Act) (d : Option Tmp) (v : Value) : (a.put d v).defers = a.defers := by cases d <;> rfl

theorem set_same {env : List IV} {d : Nat} {v : IV} (h : env[d]? = some v) : env.set d v = env := by
  obtain ⟨hlt, heq⟩ := List.getElem?_eq_some_iff.1 h
  rw [← heq]
  exact List.set_getElem_self hlt

theorem yield_bool {all : Array Oper} {j d : Nat} {b : Bool} (hd : (all[j]?).bind (·.dst) = some d) (he : env[d]? = some (.bool b)) (hE : ERel m env a.tmps) : yielded all a.tmps j = some b := by
  obtain ⟨v, hv, hr⟩ := hE.get he (by simp)
  cases hr
  unfold yielded
  rw [hd]
  simp [hv]
theorem yield_undef {all : Array Oper} {j d : Nat} (hd : (all[j]?).bind (·.dst) = some d) (he : env[d]? = some (.tuple [])) (hE : ERel m env a.tmps) : yielded all a.tmps j = none := by
  obtain ⟨v, hv, hr⟩ := hE.get he (by simp)
  cases hr
  unfold yielded
  rw [hd]
  simp [hv]

/-- What follows a row of operations. -/
def After (P : Program) (B K : Nat → Prop) (w0 : World) (m : Map) (env' : List IV) (F' : List (List IV)) (G' : GH) (a : Act) (T : Act → World → Prop) : Prop :=
  ∀ m' w' a', m.le m' → HRel P B K w0 m' F' G' w' → ERel m' env' a'.tmps → a'.defers = a.defers → T a' w'

theorem ops_sim (hO : GoodO P O) {all : Array Oper} : ∀ {os : List Oper} {env : List IV} {F : List (List IV)} {G : GH} {k : List IV → List (List IV) → GH → Option R} {r : R}, opsC P O lo false all os env F G k = some r →
    ∃ env' F' G', k env' F' G' = some r ∧ ∀ (B K : Nat → Prop) (w0 : World) (m : Map) (w : World) (a : Act) (Q : Exit → Act → World → Prop), HRel P B K w0 m F G w → ERel m env a.tmps →
      After P B K w0 m env' F' G' a (Q .normal) → wpList P all Q os a w
  | [], env, F, G, k, r, h => ⟨env, F, G, h, fun B K w0 m w a Q hR hE hQ => hQ m w a m.le_refl hR hE rfl⟩
  | o :: os, env, F, G, k, r, h => by
    -- the operation is carried out
    have run : ∀ {env1 : List IV}, (opC P O lo false o env1 F G fun v F G => opsC P O lo false all os (putI env1 o.dst v) F G k) = some r →
        ∃ env' F' G', k env' F' G' = some r ∧ ∀ (B K : Nat → Prop) (w0 : World) (m : Map) (w : World) (a : Act) (Q : Exit → Act → World → Prop), HRel P B K w0 m F G w → ERel m env1 a.tmps →
          Region.wanted o (yielded all a.tmps) = true → After P B K w0 m env' F' G' a (Q .normal) → wpList P all Q (o :: os) a w := by
      intro env1 h
      obtain ⟨v, F1, G1, h1, h2⟩ := op_sim hO h
      obtain ⟨env', F', G', h3, h4⟩ := ops_sim hO h1
      refine ⟨env', F', G', h3, fun B K w0 m w a Q hR hE hw hQ => ?_⟩
      simp only [wpList, hw, if_true]
      refine .inl (h2 B K w0 m w a hR hE _ Q fun v' w' ⟨m', q1, q2, q3⟩ => ?_)
      refine h4 B K w0 m' w' _ Q q2 ((hE.mono q1).put q3 o.dst) fun m2 w2 a2 l r e d => ?_
      exact hQ m2 w2 a2 (Map.le_trans q1 l) r e (d.trans (put_defers a _ _))
    -- it is passed over
    have pass : ∀ {env1 : List IV}, opsC P O lo false all os (putI env1 o.dst undefI) F G k = some r →
        ∃ env' F' G', k env' F' G' = some r ∧ ∀ (B K : Nat → Prop) (w0 : World) (m : Map) (w : World) (a : Act) (Q : Exit → Act → World → Prop), HRel P B K w0 m F G w → ERel m env1 a.tmps →
          Region.wanted o (yielded all a.tmps) = false → After P B K w0 m env' F' G' a (Q .normal) → wpList P all Q (o :: os) a w := by
      intro env1 h
      obtain ⟨env', F', G', h3, h4⟩ := ops_sim hO h
      refine ⟨env', F', G', h3, fun B K w0 m w a Q hR hE hw hQ => ?_⟩
      simp only [wpList, hw, Bool.false_eq_true, if_false]
      refine h4 B K w0 m w _ Q hR (hE.put (VRel.undef m) o.dst) fun m2 w2 a2 l r e d => ?_
      exact hQ m2 w2 a2 l r e (d.trans (put_defers a _ _))
    simp only [opsC] at h
    split at h
    · rename_i hg
      obtain ⟨env', F', G', h1, h2⟩ := run h
      exact ⟨env', F', G', h1, fun B K w0 m w a Q hR hE hQ => h2 B K w0 m w a Q hR hE (by simp [Region.wanted, hg]) hQ⟩
    · rename_i j want hg
      split at h
      · cases h
      · rename_i d hd
        split at h
        · rename_i b hb
          have hsame : env.set d (.bool b) = env := set_same hb
          cases b
          · simp only [cond_false] at h
            rw [hsame] at h
            split at h
            · rename_i hw
              obtain ⟨env', F', G', h1, h2⟩ := pass h
              exact ⟨env', F', G', h1, fun B K w0 m w a Q hR hE hQ => h2 B K w0 m w a Q hR hE (by simp [Region.wanted, hg, yield_bool hd hb hE, hw]) hQ⟩
            · rename_i hw
              obtain ⟨env', F', G', h1, h2⟩ := run h
              exact ⟨env', F', G', h1, fun B K w0 m w a Q hR hE hQ => h2 B K w0 m w a Q hR hE (by simp [Region.wanted, hg, yield_bool hd hb hE]; simpa using hw) hQ⟩
          · simp only [cond_true] at h
            rw [hsame] at h
            split at h
            · rename_i hw
              obtain ⟨env', F', G', h1, h2⟩ := run h
              exact ⟨env', F', G', h1, fun B K w0 m w a Q hR hE hQ => h2 B K w0 m w a Q hR hE (by simp [Region.wanted, hg, yield_bool hd hb hE, hw]) hQ⟩
            · rename_i hw
              obtain ⟨env', F', G', h1, h2⟩ := pass h
              exact ⟨env', F', G', h1, fun B K w0 m w a Q hR hE hQ => h2 B K w0 m w a Q hR hE (by simp [Region.wanted, hg, yield_bool hd hb hE]; simpa using hw) hQ⟩
        · rename_i hb
          obtain ⟨env', F', G', h1, h2⟩ := pass h
          exact ⟨env', F', G', h1, fun B K w0 m w a Q hR hE hQ => h2 B K w0 m w a Q hR hE (by simp [Region.wanted, hg, yield_undef hd hb hE]) hQ⟩
        · cases h

end
end Go.LI
