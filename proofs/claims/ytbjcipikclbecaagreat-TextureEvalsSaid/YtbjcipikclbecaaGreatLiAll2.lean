/- The interpreter LI and its soundness (part 2 of 3). -/
import Derived.Test.YtbjcipikclbecaaGreatLiAll1
import Derived.LoopN
import Derived.StillTail
import Derived.KernelRfl
import Derived.Lib.BytesEntry
import Derived.Laws.FloatBits
import Derived.Below
import Derived.ChangeSame
import Derived.WalkKit
import Derived.ProofKit
import Derived.OpenShut
import Derived.Carry
import Derived.Laws.Cover2
set_option linter.unusedVariables false
namespace Go.LI
open Go Go.RowKit
section
variable {R : Type} {P : Program} {B K : Nat → Prop} {w0 : World} {m : Map} {F : List (List IV)} {G : GH} {w : World} {O : Ora R} {lo : List Nat} {sand : Bool} {o : Oper} {env : List IV} {a : Act} {k : IV → List (List IV) → GH → Option R} {r : R}
theorem zzK (hO : zqa P O) (h : opC P O lo false o env F G k = some r) :
    ∃ v F' G', k v F' G' = some r ∧ ∀ (B K : Nat → Prop) (w0 : World) (m : Map) (w : World) (a : Act), HRel P B K w0 m F G w → zbb m env a.tmps →
      zGj P o a w fun v' w' => ∃ m', m.le m' ∧ HRel P B K w0 m' F' G' w' ∧ VRel m' v v' := by
  by_cases hc : zbF o.op = true
  · cases ho : o.op with
    | call c =>
      rw [ho] at hc
      cases hcc : c.callee with
      | value f =>
        simp only [opC, ho, hcc] at h
        split at h
        · rename_i args hargs
          split at h
          · rename_i fid caps hf
            split at h
            · rename_i hnl
              simp only [Bool.false_eq_true, if_false] at h
              simp only [Bool.and_eq_true] at hnl
              obtain ⟨v, G', h1, h2, h3⟩ := hO _ _ _ _ _ h (noLocs_append hnl.1 hnl.2)
              replace h1 := zpz h1
              refine ⟨v, F, G', h1, fun B K w0 m w a hR hE => ?_⟩
              have hA := zmz hE hargs
              have hfr := zO hE hf
              generalize hfv : a.eval f = fv at hfr
              cases hfr with
              | func _ _ cs' hs hcs =>
                have hAA : zgq m (args ++ caps) (c.args.map a.eval ++ cs') := hA.append ⟨hs, hcs⟩
                refine zv3 (fun w' => zvi w' ho hcc hfv rfl) ?_
                refine (h3 B _ w m.noF w _ (fun _ => rfl) (hAA.noF (noLocs_append hnl.1 hnl.2)) hR.aside).mono ?_
                rintro v' w' ⟨m', q1, q2, q3, q4⟩
                obtain ⟨p1, p2⟩ := hR.back q1 q3
                refine ⟨_, p1, p2, (q4.noF h2).mono ?_⟩
                exact ⟨fun _ _ h => h, fun _ _ h => by cases h⟩
            · cases h
          · cases h
        · cases h
      | builtin b => simp [zbF, hcc] at hc
      | invoke x n => simp [zbF, hcc] at hc
    | _ => rw [ho] at hc; simp [zbF] at hc
  · have hc' : zbF o.op = false := by simpa using hc
    rw [zuu (O' := fun _ _ _ _ => none) env F G k hc'] at h
    cases hx : opC P (fun _ _ _ _ => none) lo false o env F G (fun v F G => some (v, F, G)) with
    | none => rw [hx] at h; cases h
    | some x =>
      obtain ⟨v, F', G'⟩ := x
      rw [hx] at h
      refine ⟨v, F', G', h, fun B K w0 m w a hR hE => ?_⟩
      obtain ⟨v1, v', m', w', F1, G1, h1, h2, h3, h4, h5⟩ := zH8 hc' hx hE hR
      injection h5 with h5
      injection h5 with e1 h5
      injection h5 with e2 e3
      subst e1; subst e2; subst e3
      exact fun next Q hn => h1 next Q (hn v' w' ⟨m', h2, h3, h4⟩)
theorem zbb.put (h : zbb m env a.tmps) {v : IV} {v' : Value} (hv : VRel m v v') (d : Option Tmp) : zbb m (zg9 env d v) (a.put d v').tmps := by
  cases d with
  | none => exact h
  | some d =>
    simp only [zg9, Act.put]
    refine ⟨by simp [h.1], fun i iv x hi hx hn => ?_⟩
    rw [List.getElem?_set] at hi
    by_cases hdi : d = i
    · subst hdi
      simp only [if_true] at hi
      split at hi
      · rename_i hlt
        injection hi with hi
        subst hi
        rw [Array.getElem?_setIfInBounds_self_of_lt (by rw [← h.1]; exact hlt)] at hx
        injection hx with hx
        subst hx
        exact hv
      · cases hi
    · rw [if_neg hdi] at hi
      rw [Array.getElem?_setIfInBounds_ne hdi] at hx
      exact h.2 i iv x hi hx hn
theorem zcD (a : Act) (d : Option Tmp) (v : Value) : (a.put d v).defers = a.defers := by cases d <;> rfl
theorem zwm {env : List IV} {d : Nat} {v : IV} (h : env[d]? = some v) : env.set d v = env := by
  obtain ⟨hlt, heq⟩ := List.getElem?_eq_some_iff.1 h
  rw [← heq]
  exact List.set_getElem_self hlt
theorem zcX {all : Array Oper} {j d : Nat} {b : Bool} (hd : (all[j]?).bind (·.dst) = some d) (he : env[d]? = some (.bool b)) (hE : zbb m env a.tmps) : yielded all a.tmps j = some b := by
  obtain ⟨v, hv, hr⟩ := hE.get he (by simp)
  cases hr
  unfold yielded
  rw [hd]
  simp [hv]
theorem znt {all : Array Oper} {j d : Nat} (hd : (all[j]?).bind (·.dst) = some d) (he : env[d]? = some (.tuple [])) (hE : zbb m env a.tmps) : yielded all a.tmps j = none := by
  obtain ⟨v, hv, hr⟩ := hE.get he (by simp)
  cases hr
  unfold yielded
  rw [hd]
  simp [hv]
def zmL (P : Program) (B K : Nat → Prop) (w0 : World) (m : Map) (env' : List IV) (F' : List (List IV)) (G' : GH) (a : Act) (T : Act → World → Prop) : Prop :=
  ∀ m' w' a', m.le m' → HRel P B K w0 m' F' G' w' → zbb m' env' a'.tmps → a'.defers = a.defers → T a' w'
theorem zww (hO : zqa P O) {all : Array Oper} : ∀ {os : List Oper} {env : List IV} {F : List (List IV)} {G : GH} {k : List IV → List (List IV) → GH → Option R} {r : R}, zld P O lo false all os env F G k = some r →
    ∃ env' F' G', k env' F' G' = some r ∧ ∀ (B K : Nat → Prop) (w0 : World) (m : Map) (w : World) (a : Act) (Q : Exit → Act → World → Prop), HRel P B K w0 m F G w → zbb m env a.tmps →
      zmL P B K w0 m env' F' G' a (Q .normal) → wpList P all Q os a w
  | [], env, F, G, k, r, h => ⟨env, F, G, h, fun B K w0 m w a Q hR hE hQ => hQ m w a m.le_refl hR hE rfl⟩
  | o :: os, env, F, G, k, r, h => by
    have run : ∀ {env1 : List IV}, (opC P O lo false o env1 F G fun v F G => zld P O lo false all os (zg9 env1 o.dst v) F G k) = some r →
        ∃ env' F' G', k env' F' G' = some r ∧ ∀ (B K : Nat → Prop) (w0 : World) (m : Map) (w : World) (a : Act) (Q : Exit → Act → World → Prop), HRel P B K w0 m F G w → zbb m env1 a.tmps →
          Region.wanted o (yielded all a.tmps) = true → zmL P B K w0 m env' F' G' a (Q .normal) → wpList P all Q (o :: os) a w := by
      intro env1 h
      obtain ⟨v, F1, G1, h1, h2⟩ := zzK hO h
      obtain ⟨env', F', G', h3, h4⟩ := zww hO h1
      refine ⟨env', F', G', h3, fun B K w0 m w a Q hR hE hw hQ => ?_⟩
      simp only [wpList, hw, if_true]
      refine .inl (h2 B K w0 m w a hR hE _ Q fun v' w' ⟨m', q1, q2, q3⟩ => ?_)
      refine h4 B K w0 m' w' _ Q q2 ((hE.mono q1).put q3 o.dst) fun m2 w2 a2 l r e d => ?_
      exact hQ m2 w2 a2 (Map.le_trans q1 l) r e (d.trans (zcD a _ _))
    have pass : ∀ {env1 : List IV}, zld P O lo false all os (zg9 env1 o.dst za) F G k = some r →
        ∃ env' F' G', k env' F' G' = some r ∧ ∀ (B K : Nat → Prop) (w0 : World) (m : Map) (w : World) (a : Act) (Q : Exit → Act → World → Prop), HRel P B K w0 m F G w → zbb m env1 a.tmps →
          Region.wanted o (yielded all a.tmps) = false → zmL P B K w0 m env' F' G' a (Q .normal) → wpList P all Q (o :: os) a w := by
      intro env1 h
      obtain ⟨env', F', G', h3, h4⟩ := zww hO h
      refine ⟨env', F', G', h3, fun B K w0 m w a Q hR hE hw hQ => ?_⟩
      simp only [wpList, hw, Bool.false_eq_true, if_false]
      refine h4 B K w0 m w _ Q hR (hE.put (VRel.undef m) o.dst) fun m2 w2 a2 l r e d => ?_
      exact hQ m2 w2 a2 l r e (d.trans (zcD a _ _))
    simp only [zld] at h
    split at h
    · rename_i hg
      obtain ⟨env', F', G', h1, h2⟩ := run h
      exact ⟨env', F', G', h1, fun B K w0 m w a Q hR hE hQ => h2 B K w0 m w a Q hR hE (by simp [Region.wanted, hg]) hQ⟩
    · rename_i j want hg
      split at h
      · cases h
      · rename_i d hd
        split at h
        · rename_i b hb
          have hsame : env.set d (.bool b) = env := zwm hb
          cases b
          · simp only [cond_false] at h
            rw [hsame] at h
            split at h
            · rename_i hw
              obtain ⟨env', F', G', h1, h2⟩ := pass h
              exact ⟨env', F', G', h1, fun B K w0 m w a Q hR hE hQ => h2 B K w0 m w a Q hR hE (by simp [Region.wanted, hg, zcX hd hb hE, hw]) hQ⟩
            · rename_i hw
              obtain ⟨env', F', G', h1, h2⟩ := run h
              exact ⟨env', F', G', h1, fun B K w0 m w a Q hR hE hQ => h2 B K w0 m w a Q hR hE (by simp [Region.wanted, hg, zcX hd hb hE]; simpa using hw) hQ⟩
          · simp only [cond_true] at h
            rw [hsame] at h
            split at h
            · rename_i hw
              obtain ⟨env', F', G', h1, h2⟩ := run h
              exact ⟨env', F', G', h1, fun B K w0 m w a Q hR hE hQ => h2 B K w0 m w a Q hR hE (by simp [Region.wanted, hg, zcX hd hb hE, hw]) hQ⟩
            · rename_i hw
              obtain ⟨env', F', G', h1, h2⟩ := pass h
              exact ⟨env', F', G', h1, fun B K w0 m w a Q hR hE hQ => h2 B K w0 m w a Q hR hE (by simp [Region.wanted, hg, zcX hd hb hE]; simpa using hw) hQ⟩
        · rename_i hb
          obtain ⟨env', F', G', h1, h2⟩ := pass h
          exact ⟨env', F', G', h1, fun B K w0 m w a Q hR hE hQ => h2 B K w0 m w a Q hR hE (by simp [Region.wanted, hg, znt hd hb hE]) hQ⟩
        · cases h
end
end Go.LI
namespace Go.LI
open Go Go.RowKit
section
variable {P : Program} {ops : Array Oper} {md : Region.Mode} {C : World → Prop}
def zt1 (P : Program) (md : Region.Mode) (ops : Array Oper) (C : World → Prop) (n : Nat) (L : Array Bool → Act → Prop) : Nat → Array Bool → Act → Prop
  | 0, listed, a => L listed a
  | f + 1, listed, a => Region.ready md ops listed ≠ [] ∧ ∀ i ∈ Region.ready md ops listed, i < n ∧ qOp P ops C i (zt1 P md ops C n L f (listed.setIfInBounds i true)) a
theorem znc {n g : Nat} {L : Array Bool → Act → Prop} {Q' : Exit → Act → World → Prop} (hL : ∀ listed a w, C w → L listed a → wpAny P md ops Q' g listed a w) :
    ∀ (f : Nat) (listed : Array Bool) (a : Act) (w : World), C w → zt1 P md ops C n L f listed a → wpAny P md ops Q' (f + g) listed a w
  | 0, listed, a, w, hC, h => by rw [Nat.zero_add]; exact hL _ _ _ hC h
  | f + 1, listed, a, w, hC, h => by
    rw [show f + 1 + g = (f + g) + 1 by omega]
    exact ⟨fun h0 => absurd h0 h.1, fun i hi => wpOp_of_qOp hC (fun a' w' hw' h' => znc hL f _ a' w' hw' h') (h.2 i hi).2⟩
theorem zwz {n i : Nat} {oi : Oper} {v : Value} {L : Array Bool → Act → Prop} (hi : ops[i]? = some oi) (hsel : ∀ (j : Nat) (o : Oper) cs b, ops[j]? = some o → o.op ≠ .select cs b)
    (hs : Region.sinkB md ops n = true) (hc : Region.chainB md ops n = true) (hn : n < ops.size) (hin : i < n) (hdone : ∀ listed a, L listed a → ∀ j ∈ Region.ready md ops listed, n ≤ j) :
    ∀ (f : Nat) (listed : Array Bool) (a : Act), HeadInv md ops n listed →
      (∀ j oj, ops[j]? = some oj → j ≠ i → listed.getD j true = false → (∀ e ∈ oj.after, Region.binds md e = true → e.on ≠ i) → oi.apart ops oj = true) →
      i ∈ Region.ready md ops listed → YieldsIn P ops C oi v a → zt1 P md ops C n L f (listed.setIfInBounds i true) (a.put oi.dst v) → zt1 P md ops C n L (f + 1) listed a := by
  intro f
  induction f with
  | zero =>
    intro listed a inv _ hr hy H
    have hun := (mem_ready.1 hr).1
    refine ⟨fun h => (by rw [h] at hr; cases hr), fun j hj => ?_⟩
    have hjn : j < n := by
      rcases Nat.lt_or_ge j n with h | h
      · exact h
      · exact absurd hj (tail_waits hs hc hn inv _ i rfl hin hun j h)
    refine ⟨hjn, ?_⟩
    by_cases hji : j = i
    · subst hji; exact hy.qOp hi H
    · have := hdone _ _ H j (ready_mono hj hji)
      omega
  | succ f ih =>
    intro listed a inv hfree hr hy H
    have hun := (mem_ready.1 hr).1
    refine ⟨fun h => (by rw [h] at hr; cases hr), fun j hj => ?_⟩
    have hjn : j < n := by
      rcases Nat.lt_or_ge j n with h | h
      · exact h
      · exact absurd hj (tail_waits hs hc hn inv _ i rfl hin hun j h)
    refine ⟨hjn, ?_⟩
    by_cases hji : j = i
    · subst hji; exact hy.qOp hi H
    · have h1 := (H.2 j (ready_mono hj hji)).2
      obtain ⟨hjun, oj, hoj, hall⟩ := mem_ready.1 hj
      have hnot : ∀ e ∈ oj.after, Region.binds md e = true → e.on ≠ i := fun e he hb heq => by
        have h1 := hall e he hb
        rw [heq, getD_both hun] at h1
        cases h1
      have h2 := qOp_put hoj (hfree j oj hoj hji hjun hnot) (fun cs b => hsel i oi cs b hi) (fun cs b => hsel j oj cs b hoj) hy h1
      have hfree' : ∀ k ok, ops[k]? = some ok → k ≠ i → (listed.setIfInBounds j true).getD k true = false → (∀ e ∈ ok.after, Region.binds md e = true → e.on ≠ i) → oi.apart ops ok = true := fun k ok hk hki hun hno => by
        refine hfree k ok hk hki ?_ hno
        by_cases hjk : j = k
        · subst hjk; exact hjun
        · rw [getD_set_ne true hjk] at hun; exact hun
      refine qOp_mono (fun a' h3 => ih (listed.setIfInBounds j true) a' (inv.set hj hjn) hfree' (ready_mono hr (Ne.symm hji)) h3.1 ?_) h2
      rw [Array.setIfInBounds_comm _ _ hji]
      exact h3.2
theorem zul {n g : Nat} {Lq : Act → Prop} (hsel : Region.noSelect ops = true) (hs : Region.sinkB md ops n = true) (hc : Region.chainB md ops n = true) (hn : n < ops.size) :
    ∀ (l : List Oper) (k : Nat) (listed : Array Bool) (a : Act), (∀ j, j < l.length → l[j]? = ops[k + j]?) → k + l.length = n → HeadInv md ops n listed →
    Region.lexHead md ops g l.length k listed = true → wpQuiet P ops C Lq l a → zt1 P md ops C n (fun listed' a' => Region.seqB md ops g n listed' = true ∧ Lq a') l.length listed a
  | [], k, listed, a, _, hk, _, hB, h => by
    have : k = n := by simpa using hk
    subst this
    exact ⟨by simpa [Region.lexHead] using hB, h⟩
  | o :: l, k, listed, a, hl, hk, inv, hB, h => by
    have h0 : ops[k]? = some o := by simpa using (hl 0 (by simp)).symm
    simp only [List.length_cons, Region.lexHead, Bool.and_eq_true] at hB
    obtain ⟨⟨hr, hf⟩, hB'⟩ := hB
    have hkn : k < n := by simp only [List.length_cons] at hk; omega
    have hr' : k ∈ Region.ready md ops listed := by simpa using hr
    have hst : qOp P ops C k (wpQuiet P ops C Lq l) a := by unfold qOp; simp only [h0]; exact h
    obtain ⟨v, hy, hK⟩ := yieldsIn_of_qOp h0 hst
    exact zwz h0 (Region.noSelect_spec hsel) hs hc hn hkn (fun listed' a' hL => seqB_ready hL.1) l.length listed a inv (Region.free_spec h0 hf) hr' hy
      (zul hsel hs hc hn l (k + 1) _ _ (fun j hj => by have := hl (j + 1) (by simp; omega); simpa [Nat.add_assoc, Nat.add_comm 1 j] using this) (by simp only [List.length_cons] at hk; omega) (inv.set hr' hkn) hB' hK)
theorem zna {id : Nat} {Q : Exit → Act → World → Prop} {a : Act} {w : World} (n : Nat) (hm : P.follows .mixedOrders = true) (hB : Region.lexTailB .any ops n = true) (hC : C { w with drawn := w.drawn + 1 })
    (h : wpQuiet P ops C (fun a' => ∀ w', C w' → wpList P ops Q (ops.toList.drop n) a' w') (ops.toList.take n) a) : (Code.region id ops true).wp P Q a w := by
  simp only [Region.lexTailB, Bool.and_eq_true, decide_eq_true_eq] at hB
  obtain ⟨⟨⟨⟨hsel, hn⟩, hs⟩, hc⟩, hlex⟩ := hB
  have hn' : n < ops.toList.length := by simpa using hn
  have htl : (ops.toList.take n).length = n := by simp; omega
  have hdl : (ops.toList.drop n).length = ops.size - n := by simp
  have inv0 : HeadInv .any ops n (Array.replicate ops.size false) :=
    ⟨by simp, fun j oj _ hl => (by rw [getD_replicate_false] at hl; cases hl), fun t _ ht => getD_in (by simpa using ht) (getD_replicate_false _ _)⟩
  have H := zul (md := .any) (g := ops.size - n) hsel hs hc hn (ops.toList.take n) 0 _ a (fun j hj => by
    have hj' : j < n := by rw [htl] at hj; exact hj
    simp [hj']) (by simpa using htl) inv0 (by rw [htl]; exact hlex) h
  refine wp_region_any hm ?_
  have := znc (Q' := Q) (g := ops.size - n) (fun listed a' w' hw' hL => by
    have := wpAny_of_seq (md := .any) (Q' := Q) (ops.toList.drop n) n listed a' w' (fun j => by simp [List.getElem?_drop]) (by rw [hdl]; exact hL.1) (hL.2 w' hw')
    rwa [hdl] at this) _ _ _ _ hC H
  rw [htl, show n + (ops.size - n) = ops.size by omega] at this
  exact this
end
section
variable {R : Type} {P : Program} {B K : Nat → Prop} {w0 : World} {m : Map} {F : List (List IV)} {G : GH} {w : World} {O : Ora R} {lo : List Nat} {o : Oper} {env : List IV} {a : Act} {r : R}
theorem HRel.freeze (h : HRel P B K w0 m F G w) : HRel P (fun b => b < w.heap.size) (fun b => b < w.heap.size) w m.noF [] (zj G) w where
  bk := fun b hb => hb
  frame := fun b hb => ⟨hb, rfl⟩
  os := rfl
  tape := rfl
  output := rfl
  size := Nat.le_refl _
  gdom := fun b e he => by simp [zj]; exact h.gdom b e he
  fdom := fun k b hb => by cases hb
  gblk := fun b k e hk hm he => by
    simp only [zj, List.getElem?_map] at hk
    cases hq : G[b]? with
    | none => rw [hq] at hk; cases hk
    | some k0 =>
      rw [hq] at hk
      injection hk with hk
      subst hk
      simp only at hm
      split at hm
      · rename_i hm0
        obtain ⟨c, t, fr, hg⟩ := h.gblk b k0 e hq hm0 he
        refine ⟨c, t, fr, { row := hg.row, fits := hg.fits, cells := hg.cells, ro := fun _ => zbK hg.row, esz := hg.esz, rw := fun h1 => ?_ }⟩
        simp [hm0] at h1
      · omega
  fblk := fun i cs b hi => by simp at hi
  ginj := fun b1 b2 k1 k2 e1 e2 h1 _ m1 _ _ _ _ => by
    simp only [zj, List.getElem?_map] at h1
    cases hq : G[b1]? with
    | none => rw [hq] at h1; cases h1
    | some k0 => rw [hq] at h1; injection h1 with h1; subst h1; simp only at m1; split at m1 <;> omega
  gf := fun b i k e r _ _ _ hr => by cases hr
  finj := fun i j r s hr => by cases hr
theorem zms {m1 : Map} {v : IV} {x : Value} (h : VRel m1 v x) : ∀ (m2 : Map) (y : Value), zax v = true → VRel m2 v y → x = y := by
  induction h with
  | bool => intro m2 y _ k; cases k; rfl
  | int => intro m2 y _ k; cases k; rfl
  | float => intro m2 y _ k; cases k; rfl
  | str => intro m2 y _ k; cases k; rfl
  | ptrNil => intro m2 y _ k; cases k; rfl
  | ptr a e h => intro m2 y hf k; simp [zax] at hf
  | loc k o b h => intro m2 y hf _; simp [zax] at hf
  | sliceNil => intro m2 y _ k; cases k; rfl
  | slice => intro m2 y hf k; simp [zax] at hf
  | sliceE => intro m2 y hf k; simp [zax] at hf
  | func f cs cs' hs _ ih => intro m2 y hf k; cases k with | func _ _ ds hs2 hd => rw [arr_eq hs hs2 (by simpa [zax] using hf) ih hd]
  | nilFunc => intro m2 y _ k; cases k; rfl
  | nilIface => intro m2 y _ k; cases k; rfl
  | iface t iv v _ ih => intro m2 y hf k; cases k with | iface _ _ v2 h2 => rw [ih _ _ (by simpa [zax] using hf) h2]
  | agg cs cs' hs _ ih => intro m2 y hf k; cases k with | agg _ ds hs2 hd => rw [arr_eq hs hs2 (by simpa [zax] using hf) ih hd]
  | tuple cs cs' hs _ ih => intro m2 y hf k; cases k with | tuple _ ds hs2 hd => rw [arr_eq hs hs2 (by simpa [zax] using hf) ih hd]
  | fo k o b h hn => intro m2 y hf _; simp [zax] at hf
where
  flats_get : ∀ {cs : List IV} {i : Nat} {iv : IV}, zeU cs = true → cs[i]? = some iv → zax iv = true
    | [], _, _, _, h => by simp at h
    | c :: cs, 0, iv, hn, h => by simp [zeU] at hn; simp at h; rw [← h]; exact hn.1
    | c :: cs, i + 1, iv, hn, h => by simp [zeU] at hn; exact flats_get hn.2 (by simpa using h)
  arr_eq : ∀ {cs : List IV} {xs ys : Array Value} {m2 : Map}, cs.length = xs.size → cs.length = ys.size → zeU cs = true →
      (∀ (i : Nat) (iv : IV) (v : Value), cs[i]? = some iv → xs[i]? = some v → ∀ (m2 : Map) (y : Value), zax iv = true → VRel m2 iv y → v = y) →
      (∀ (i : Nat) (iv : IV) (v : Value), cs[i]? = some iv → ys[i]? = some v → VRel m2 iv v) → xs = ys := by
    intro cs xs ys m2 h1 h2 hf ih hd
    apply Array.ext (by omega)
    intro i hi1 hi2
    have h0 : i < cs.length := by omega
    exact ih i cs[i] xs[i] (List.getElem?_eq_getElem h0) (Array.getElem?_eq_getElem hi1) _ _ (flats_get hf (List.getElem?_eq_getElem h0)) (hd i cs[i] ys[i] (List.getElem?_eq_getElem h0) (Array.getElem?_eq_getElem hi2))
theorem zDp {m1 m2 : Map} {v : IV} {x y : Value} (h : VRel m1 v x) (hf : zax v = true) (k : VRel m2 v y) : x = y := zms h m2 y hf k
theorem zjs (hO : zqa P O) {f : FuncId} {args : List IV} {k : IV → List (List IV) → GH → Option R} {t : TypeId} (h : (O f args (zj G) fun v _ => zxv P t v fun v => if zax v then k v F G else none) = some r) (hn : zab args = true) :
    ∃ v, k v F G = some r ∧ ∀ (B K : Nat → Prop) (w0 : World) (m : Map) (w : World) (args' : Array Value), zgq m args args' → HRel P B K w0 m F G w → ∃ v', VRel m v v' ∧
      ∀ w', Below w.heap.size w w' → ((callFunc f args').run P w' = .ok (.enter f args') w' ∧ Calls P f args' w' fun e w'' => e = .returned v' ∧ Below w.heap.size w w'') ∨ (callFunc f args').run P w' = .ok (.value v') w' := by
  obtain ⟨v, G', h1, h2, h3⟩ := hO _ _ _ _ _ h hn
  replace h1 := zpz h1
  split at h1
  · rename_i hf
    refine ⟨v, h1, fun B K w0 m w args' hA hR => ?_⟩
    have at_ : ∀ w', Below w.heap.size w w' → zgi P f args' w' fun v' w'' => (∃ m', VRel m' v v') ∧ Below w.heap.size w w'' ∧ ∃ m', m.noF.le m' ∧ VRel m' v v' := by
      intro w' hw'
      refine (h3 _ _ w' m.noF w' args' (fun _ => rfl) (hA.noF hn) (hR.grow hw').freeze).mono ?_
      rintro v' w'' ⟨m', q1, q2, q3, q4⟩
      refine ⟨⟨m', q4⟩, hw'.trans ⟨q3.os, q3.tape, q3.output, q3.size, fun b hb => (q3.frame b (Nat.lt_of_lt_of_le hb hw'.size)).2⟩, m', q1, q4⟩
    have ex : ∃ v' m', VRel m' v v' := by
      rcases at_ w (Below.refl _ _) with ⟨_, hc⟩ | ⟨v', _, ⟨m', hv⟩, _⟩
      · obtain ⟨e, w', fr, ⟨v', _, ⟨m', hv⟩, _⟩, _⟩ := hc []
        exact ⟨v', m', hv⟩
      · exact ⟨v', m', hv⟩
    obtain ⟨v', m', hv'⟩ := ex
    refine ⟨v', flat_any hv' hf, fun w' hw' => ?_⟩
    rcases at_ w' hw' with ⟨p1, p2⟩ | ⟨v2, p1, ⟨m2, hv2⟩, _⟩
    · refine .inl ⟨p1, p2.mono ?_⟩
      rintro e w'' ⟨v2, he, ⟨m2, hv2⟩, hb, _⟩
      refine ⟨?_, hb⟩
      rw [he, zDp hv2 hf hv']
    · exact .inr (by rw [p1, zDp hv2 hf hv'])
  · cases h1
where
  flat_any : ∀ {m1 m2 : Map} {v : IV} {x : Value}, VRel m1 v x → zax v = true → VRel m2 v x := by
    intro m1 m2 v x h
    induction h with
    | bool => intro _; exact .bool _
    | int => intro _; exact .int _ _
    | float => intro _; exact .float _ _
    | str => intro _; exact .str _
    | ptrNil => intro _; exact .ptrNil
    | ptr a e h => intro hf; simp [zax] at hf
    | loc k o b h => intro hf; simp [zax] at hf
    | sliceNil => intro _; exact .sliceNil
    | slice => intro hf; simp [zax] at hf
    | sliceE => intro hf; simp [zax] at hf
    | func f cs cs' hs _ ih => intro hf; exact .func f cs cs' hs fun i iv v a b => ih i iv v a b (zms.flats_get (by simpa [zax] using hf) a)
    | nilFunc => intro _; exact .nilFunc
    | nilIface => intro _; exact .nilIface
    | iface t iv v _ ih => intro hf; exact .iface t iv v (ih (by simpa [zax] using hf))
    | agg cs cs' hs _ ih => intro hf; exact .agg cs cs' hs fun i iv v a b => ih i iv v a b (zms.flats_get (by simpa [zax] using hf) a)
    | tuple cs cs' hs _ ih => intro hf; exact .tuple cs cs' hs fun i iv v a b => ih i iv v a b (zms.flats_get (by simpa [zax] using hf) a)
    | fo k o b h hn => intro hf; simp [zax] at hf
end
end Go.LI
namespace Go.LI
open Go Go.RowKit
section
variable {R : Type} {P : Program}
theorem zxn {l : Leaf} {v : IV} {k : IV → Option R} {r : R} (h : zzi l v k = some r) (k' : IV → Option R) : zzi l v k' = k' v := by
  cases l <;> simp only [zzi] at h ⊢
  case int => split at h; (rename_i n hn; rw [ztJ hn]); cases h
  case float => split at h; (rename_i n hn; rw [zoZ hn]); cases h
  case bool => cases v <;> first | (cases h; done) | rfl
  case str => cases v <;> first | (cases h; done) | rfl
  case ptr => cases v <;> first | (cases h; done) | rfl
  case slice => cases v <;> first | (cases h; done) | rfl
theorem zpP : ∀ {ls : List Leaf} {cs : List IV} {i : Nat} {k : List IV → Option R} {r : R}, zjt ls cs i k = some r → i + ls.length = cs.length → ∀ k' : List IV → Option R, zjt ls cs i k' = k' (cs.drop i)
  | [], cs, i, k, r, h, hl, k' => by rw [List.drop_of_length_le (by simp at hl; omega)]; rfl
  | l :: ls, cs, i, k, r, h, hl, k' => by
    have hlt : i < cs.length := by simp at hl; omega
    simp only [zjt] at h ⊢
    have h2 := ztT h
    rw [zxn h, zpP h2 (by simp at hl; omega)]
    rw [List.drop_eq_getElem_cons hlt]
    simp [List.getD, hlt]
theorem zxC {t : TypeId} {v : IV} {k : IV → Option R} {r : R} (h : zzh P t v k = some r) (k' : IV → Option R) : zzh P t v k' = k' v := by
  unfold zzh at h ⊢
  split at h
  · rename_i ha
    rw [if_pos ha]
    split at h
    · rename_i hl
      rw [if_pos hl]
      split at h
      · rename_i cs hcs
        obtain ⟨rfl, hc⟩ := zt3 hcs
        try rw [hcs]
        try simp only
        rw [zpP h (by rw [hl, hc]; simp)]
        simp
      · cases h
    · cases h
  · rename_i ha
    rw [if_neg ha]
    split at h
    · rename_i l hl
      try rw [hl]
      exact zxn h k'
    · rfl
theorem zvs : ∀ {ls : List TypeId} {cs : List IV} {i : Nat} {k : List IV → Option R} {r : R}, zvx P ls cs i k = some r → i + ls.length = cs.length → ∀ k' : List IV → Option R, zvx P ls cs i k' = k' (cs.drop i)
  | [], cs, i, k, r, h, hl, k' => by rw [List.drop_of_length_le (by simp at hl; omega)]; rfl
  | l :: ls, cs, i, k, r, h, hl, k' => by
    have hlt : i < cs.length := by simp at hl; omega
    simp only [zvx] at h ⊢
    have h2 := zt0 h
    rw [zxC h, zvs h2 (by simp at hl; omega)]
    rw [List.drop_eq_getElem_cons hlt]
    simp [List.getD, hlt]
theorem zoQ {t : TypeId} {v : IV} {k : IV → Option R} {r : R} (h : zxv P t v k = some r) (k' : IV → Option R) : zxv P t v k' = k' v := by
  unfold zxv at h ⊢
  split at h
  · rename_i ts hu
    try rw [hu]
    try simp only
    split at h
    · rename_i cs hcs
      obtain ⟨rfl, hc⟩ := ztW hcs
      try rw [hcs]
      try simp only
      rw [zvs h (by rw [← hc]; simp)]
      simp
    · cases h
  · exact zxC h k'
def zrD (O : Ora R) : Prop := ∀ (f : FuncId) (args : List IV) (G : GH) (k : IV → GH → Option R) (r : R), O f args G k = some r → ∃ v G', ∀ k' : IV → GH → Option R, O f args G k' = k' v G'
variable {O : Ora R} {lo : List Nat} {sand : Bool}
def zDx (P : Program) (O : Ora R) (lo : List Nat) (sand : Bool) (o : Oper) (env : List IV) (F : List (List IV)) (G : GH) (v : IV) (F' : List (List IV)) (G' : GH) : Prop :=
  ∀ k : IV → List (List IV) → GH → Option R, opC P O lo sand o env F G k = k v F' G'
theorem zxd (hN : zrD O) {o : Oper} {env : List IV} {F : List (List IV)} {G : GH} {k : IV → List (List IV) → GH → Option R} {r : R} (h : opC P O lo sand o env F G k = some r) : ∃ v F' G', zDx P O lo sand o env F G v F' G' := by
  by_cases hc : zbF o.op = true
  · cases ho : o.op with
    | call c =>
      rw [ho] at hc
      cases hcc : c.callee with
      | value f =>
        simp only [opC, ho, hcc] at h
        split at h
        · rename_i args hargs
          split at h
          · rename_i fid caps hf
            split at h
            · rename_i hnl
              cases sand
              · simp only [Bool.false_eq_true, if_false] at h
                obtain ⟨v, G', hv⟩ := hN _ _ _ _ _ h
                rw [hv] at h
                refine ⟨v, F, G', fun k' => ?_⟩
                simp only [opC, ho, hcc, hargs, hf, hnl, if_true, Bool.false_eq_true, if_false]
                rw [hv]
                exact zoQ h _
              · simp only [if_true] at h
                obtain ⟨v, G', hv⟩ := hN _ _ _ _ _ h
                rw [hv] at h
                have h1 := zpz h
                split at h1
                · rename_i hfl
                  refine ⟨v, F, G, fun k' => ?_⟩
                  simp only [opC, ho, hcc, hargs, hf, hnl, if_true]
                  rw [hv, zoQ h]
                  rw [if_pos hfl]
                · cases h1
            · cases h
          · cases h
        · cases h
      | builtin b => simp [zbF, hcc] at hc
      | invoke x n => simp [zbF, hcc] at hc
    | _ => rw [ho] at hc; simp [zbF] at hc
  · have hc' : zbF o.op = false := by simpa using hc
    rw [zuu (O' := fun _ _ _ _ => none) env F G k hc'] at h
    cases hx : opC P (fun _ _ _ _ => none) lo sand o env F G (fun v F G => some (v, F, G)) with
    | none => rw [hx] at h; cases h
    | some x =>
      obtain ⟨v, F', G'⟩ := x
      refine ⟨v, F', G', fun k' => ?_⟩
      rw [zuu (O' := fun _ _ _ _ => none) env F G k' hc', hx]
      rfl
theorem zf1 {all : Array Oper} (o : Oper) (os : List Oper) (env : List IV) (F : List (List IV)) (G : GH) (k : List IV → List (List IV) → GH → Option R) :
    zld P O lo sand all (o :: os) env F G k = match zcZ all o env with
      | some true => opC P O lo sand o env F G fun v F G => zld P O lo sand all os (zg9 env o.dst v) F G k
      | some false => zld P O lo sand all os (zg9 env o.dst za) F G k
      | none => none := by
  simp only [zld, zcZ]
  cases hg : o.guard with
  | none => rfl
  | some jw =>
    obtain ⟨j, want⟩ := jw
    simp only
    cases hd : (all[j]?).bind (·.dst) with
    | none => rfl
    | some d =>
      simp only
      cases he : env[d]? with
      | none => rfl
      | some v =>
        cases v with
        | bool b =>
          have hs : env.set d (.bool b) = env := zwm he
          cases b <;> cases want <;> simp [hs]
        | tuple vs => cases vs <;> rfl
        | _ => rfl
def zpK (P : Program) (O : Ora R) (lo : List Nat) (sand : Bool) (all : Array Oper) (os : List Oper) (env : List IV) (F : List (List IV)) (G : GH) (env' : List IV) (F' : List (List IV)) (G' : GH) : Prop :=
  ∀ k : List IV → List (List IV) → GH → Option R, zld P O lo sand all os env F G k = k env' F' G'
theorem zjT (hN : zrD O) {all : Array Oper} : ∀ {os : List Oper} {env : List IV} {F : List (List IV)} {G : GH} {k : List IV → List (List IV) → GH → Option R} {r : R}, zld P O lo sand all os env F G k = some r →
    ∃ env' F' G', zpK P O lo sand all os env F G env' F' G'
  | [], env, F, G, k, r, h => ⟨env, F, G, fun k' => rfl⟩
  | o :: os, env, F, G, k, r, h => by
    rw [zf1] at h
    cases hw : zcZ all o env with
    | none => rw [hw] at h; cases h
    | some b =>
      rw [hw] at h
      cases b
      · obtain ⟨env', F', G', h1⟩ := zjT hN h
        exact ⟨env', F', G', fun k' => by rw [zf1, hw]; exact h1 k'⟩
      · obtain ⟨v, F1, G1, h1⟩ := zxd hN h
        rw [h1] at h
        obtain ⟨env', F', G', h2⟩ := zjT hN h
        exact ⟨env', F', G', fun k' => by rw [zf1, hw]; simp only; rw [h1]; exact h2 k'⟩
end
end Go.LI
namespace Go.LI
open Go Go.RowKit
section
variable {R : Type} {P : Program} {O : Ora R} {lo : List Nat} {sand : Bool} {env env2 : List IV}
theorem zue {x : Operand} (h : ∀ t, x = .tmp t → env[t]? = env2[t]?) : ev env x = ev env2 x := by
  cases x with
  | tmp t => simp only [ev, zFu, h t rfl]
  | _ => rfl
theorem zy3 : ∀ {xs : List Operand}, (∀ t, Operand.tmp t ∈ xs → env[t]? = env2[t]?) → evs env xs = evs env2 xs
  | [], _ => rfl
  | x :: xs, h => by
    simp only [evs]
    rw [zue (x := x) (fun t ht => h t (by simp [ht])), zy3 (xs := xs) (fun t ht => h t (by simp [ht]))]
theorem znQ : ∀ {xs : List (Nat × Operand)}, (∀ t, Operand.tmp t ∈ xs.map (·.2) → env[t]? = env2[t]?) → zkg env xs = zkg env2 xs
  | [], _ => rfl
  | (i, x) :: xs, h => by
    simp only [zkg]
    rw [zue (x := x) (fun t ht => h t (by simp [ht])), znQ (xs := xs) (fun t ht => h t (by simp at ht ⊢; exact .inr ht))]
theorem zyC {o : Oper} (h : ∀ t, Operand.tmp t ∈ o.op.operands → env[t]? = env2[t]?) (F : List (List IV)) (G : GH) (k : IV → List (List IV) → GH → Option R) :
    opC P O lo sand o env F G k = opC P O lo sand o env2 F G k := by
  have E : ∀ x, x ∈ o.op.operands → ev env x = ev env2 x := fun x hx => zue fun t ht => h t (by rw [← ht]; exact hx)
  cases ho : o.op with
  | move x => have e := E x (by simp [ho, Op.operands]); simp only [opC, ho, e]
  | assign x => have e := E x (by simp [ho, Op.operands]); simp only [opC, ho, e]
  | pick c x y =>
    have e1 := E c (by simp [ho, Op.operands]); have e2 := E x (by simp [ho, Op.operands]); have e3 := E y (by simp [ho, Op.operands])
    simp only [opC, ho, e1, e2, e3]
  | alloc t => simp only [opC, ho]
  | box t x => have e := E x (by simp [ho, Op.operands]); simp only [opC, ho, e]
  | build t ps =>
    have e := znQ (env := env) (env2 := env2) (xs := ps.toList) (fun t ht => h t (by rw [ho]; simpa [Op.operands] using ht))
    simp only [opC, ho, e]
  | buildSlice t n ps =>
    have e := znQ (env := env) (env2 := env2) (xs := ps.toList) (fun t ht => h t (by rw [ho]; simpa [Op.operands] using ht))
    simp only [opC, ho, e]
  | load t x => have e := E x (by simp [ho, Op.operands]); simp only [opC, ho, e]
  | store t x y => have e1 := E x (by simp [ho, Op.operands]); have e2 := E y (by simp [ho, Op.operands]); simp only [opC, ho, e1, e2]
  | nilCheck x => have e := E x (by simp [ho, Op.operands]); simp only [opC, ho, e]
  | binOp op t x y yt => have e1 := E x (by simp [ho, Op.operands]); have e2 := E y (by simp [ho, Op.operands]); simp only [opC, ho, e1, e2]
  | unOp op t x => have e := E x (by simp [ho, Op.operands]); simp only [opC, ho, e]
  | convert s d x => have e := E x (by simp [ho, Op.operands]); simp only [opC, ho, e]
  | makeInterface t x => have e := E x (by simp [ho, Op.operands]); simp only [opC, ho, e]
  | makeFunc fn fi ca =>
    cases fn with
    | func f =>
      have e := zy3 (env := env) (env2 := env2) (xs := ca.toList) (fun t ht => h t (by rw [ho]; simp [Op.operands]; exact .inr (by simpa using ht)))
      simp only [opC, ho, e]
    | _ => simp only [opC, ho]
  | makeSlice t l c => have e1 := E l (by simp [ho, Op.operands]); have e2 := E c (by simp [ho, Op.operands]); simp only [opC, ho, e1, e2]
  | slice t x l hh mx =>
    have e1 := E x (by simp [ho, Op.operands])
    have e2 : loI env l = loI env2 l := by
      cases l with
      | none => rfl
      | some l => simp only [loI]; rw [E l (by simp [ho, Op.operands])]
    have e3 : ∀ v, hiI env hh v = hiI env2 hh v := by
      intro v
      cases hh with
      | none => rfl
      | some hh => simp only [hiI]; rw [E hh (by simp [ho, Op.operands])]
    simp only [opC, ho, e1, e2, e3]
  | fieldAddr t x f => have e := E x (by simp [ho, Op.operands]); simp only [opC, ho, e]
  | field t x f => have e := E x (by simp [ho, Op.operands]); simp only [opC, ho, e]
  | indexAddr t x y => have e1 := E x (by simp [ho, Op.operands]); have e2 := E y (by simp [ho, Op.operands]); simp only [opC, ho, e1, e2]
  | index t x y => have e1 := E x (by simp [ho, Op.operands]); have e2 := E y (by simp [ho, Op.operands]); simp only [opC, ho, e1, e2]
  | extract x i => have e := E x (by simp [ho, Op.operands]); simp only [opC, ho, e]
  | call c =>
    have e := zy3 (env := env) (env2 := env2) (xs := c.args.toList) (fun t ht => h t (by rw [ho]; simp [Op.operands, Call.operands]; exact .inr (by simpa using ht)))
    cases hc : c.callee with
    | builtin b => simp only [opC, ho, hc, e]
    | value f =>
      have e2 := E f (by simp [ho, Op.operands, Call.operands, hc])
      simp only [opC, ho, hc, e, e2]
    | invoke x n => simp only [opC, ho, hc, e]
  | _ => simp only [opC, ho]
def zEP (T : List (List IV) → GH → IV → List (List IV) → GH → Prop) (F : List (List IV)) (G : GH) : Fp → Prop
  | .none => ∃ v, ∀ F2 G2, T F2 G2 v F2 G2
  | .rf b => ∃ v, ∀ F2 G2, F2[b]? = F[b]? → T F2 G2 v F2 G2
  | .rg => ∃ v, ∀ F2, T F2 G v F2 G
  | .wf b => ∃ v cs, b < F.length ∧ ∀ F2 G2, F2[b]? = F[b]? → T F2 G2 v (F2.set b cs) G2
  | .nf => ∃ cs, ∀ F2 G2, T F2 G2 (.loc F2.length 0) (F2 ++ [cs]) G2
  | .wg => ∃ v G', ∀ F2, T F2 G v F2 G'
  | .bad => True
abbrev Cls (P : Program) (O : Ora R) (lo : List Nat) (sand : Bool) (o : Oper) (env : List IV) (F : List (List IV)) (G : GH) : Fp → Prop := zEP (zDx P O lo sand o env) F G
theorem zaQ {o : Oper} {F : List (List IV)} {G : GH} {k : IV → List (List IV) → GH → Option R} {r : R} {x : Option IV} (hx : ∀ F2 G2 (k' : IV → List (List IV) → GH → Option R), opC P O lo sand o env F2 G2 k' = x.bind fun v => k' v F2 G2)
    (h : opC P O lo sand o env F G k = some r) : Cls P O lo sand o env F G .none := by
  rw [hx] at h
  cases x with
  | none => cases h
  | some v => exact ⟨v, fun F2 G2 k' => by rw [hx]; rfl⟩
theorem zEb {o : Oper} {F : List (List IV)} {G : GH} {k : IV → List (List IV) → GH → Option R} {r : R} {x : Option (IV × GH)} (hx : ∀ F2 (k' : IV → List (List IV) → GH → Option R), opC P O lo sand o env F2 G k' = x.bind fun v => k' v.1 F2 v.2)
    (h : opC P O lo sand o env F G k = some r) : Cls P O lo sand o env F G .wg := by
  rw [hx] at h
  cases x with
  | none => cases h
  | some v => exact ⟨v.1, v.2, fun F2 k' => by rw [hx]; rfl⟩
theorem zCc {t : TypeId} {b i : Nat} {F F2 : List (List IV)} {G G2 : GH} (hb : F2[b]? = F[b]?) (k : IV → Option R) : zdh P t (.loc b i) F2 G2 k = zdh P t (.loc b i) F G k := by
  simp only [zdh, hb]
theorem zDf {t : TypeId} {a : Option GA} {F F2 : List (List IV)} {G : GH} (k : IV → Option R) : zdh P t (.ptr a) F2 G k = zdh P t (.ptr a) F G k := by
  cases a <;> simp only [zdh]
theorem zCJ (hN : zrD O) {o : Oper} {F : List (List IV)} {G : GH} {k : IV → List (List IV) → GH → Option R} {r : R} (h : opC P O lo sand o env F G k = some r) : Cls P O lo sand o env F G (zBk P lo sand env o) := by
  unfold zBk
  cases ho : o.op with
  | move x => exact zaQ (x := ev env x) (fun F2 G2 k' => by simp only [opC, ho]; cases ev env x <;> rfl) h
  | assign x => exact zaQ (x := ev env x) (fun F2 G2 k' => by simp only [opC, ho]; cases ev env x <;> rfl) h
  | pick c x y =>
    simp only [opC, ho] at h
    split at h
    · rename_i c1 x1 y1 h1 h2 h3
      refine zaQ (F := F) (G := G) (k := k) (r := r) (x := some (if c1 then x1 else y1)) (fun F2 G2 k' => by simp only [opC, ho, h1, h2, h3]; cases c1 <;> rfl) ?_
      simp only [opC, ho, h1, h2, h3]; exact h
    · cases h
  | build t ps =>
    refine zaQ (x := opC P (fun _ _ _ _ => none) lo sand o env [] [] (fun v _ _ => some v)) (fun F2 G2 k' => ?_) h
    simp only [opC, ho]
    repeat' first
      | rfl
      | split
  | nilCheck x =>
    refine zaQ (x := opC P (fun _ _ _ _ => none) lo sand o env [] [] (fun v _ _ => some v)) (fun F2 G2 k' => ?_) h
    simp only [opC, ho]
    repeat' first
      | rfl
      | split
  | binOp op t x y yt =>
    refine zaQ (x := opC P (fun _ _ _ _ => none) lo sand o env [] [] (fun v _ _ => some v)) (fun F2 G2 k' => ?_) h
    simp only [opC, ho]
    split
    · split
      · rw [zkl]
      · rw [zi7]
    · rfl
  | unOp op t x =>
    refine zaQ (x := opC P (fun _ _ _ _ => none) lo sand o env [] [] (fun v _ _ => some v)) (fun F2 G2 k' => ?_) h
    simp only [opC, ho]
    split
    · rw [zpX]
    · rfl
  | makeInterface t x =>
    refine zaQ (x := opC P (fun _ _ _ _ => none) lo sand o env [] [] (fun v _ _ => some v)) (fun F2 G2 k' => ?_) h
    simp only [opC, ho]
    repeat' first
      | rfl
      | split
  | makeFunc fn fi ca =>
    cases fn with
    | func f =>
      refine zaQ (x := opC P (fun _ _ _ _ => none) lo sand o env [] [] (fun v _ _ => some v)) (fun F2 G2 k' => ?_) h
      simp only [opC, ho]
      repeat' first
        | rfl
        | split
    | _ => simp [opC, ho] at h
  | fieldAddr t x f =>
    refine zaQ (x := opC P (fun _ _ _ _ => none) lo sand o env [] [] (fun v _ _ => some v)) (fun F2 G2 k' => ?_) h
    simp only [opC, ho]
    repeat' first
      | rfl
      | split
  | field t x f =>
    refine zaQ (x := opC P (fun _ _ _ _ => none) lo sand o env [] [] (fun v _ _ => some v)) (fun F2 G2 k' => ?_) h
    simp only [opC, ho]
    repeat' first
      | rfl
      | split
  | indexAddr t x y =>
    refine zaQ (x := opC P (fun _ _ _ _ => none) lo sand o env [] [] (fun v _ _ => some v)) (fun F2 G2 k' => ?_) h
    simp only [opC, ho]
    repeat' first
      | rfl
      | split
  | index t x y =>
    refine zaQ (x := opC P (fun _ _ _ _ => none) lo sand o env [] [] (fun v _ _ => some v)) (fun F2 G2 k' => ?_) h
    simp only [opC, ho]
    repeat' first
      | rfl
      | (rw [zbH]; rfl)
      | split
  | extract x i =>
    refine zaQ (x := opC P (fun _ _ _ _ => none) lo sand o env [] [] (fun v _ _ => some v)) (fun F2 G2 k' => ?_) h
    simp only [opC, ho]
    repeat' first
      | rfl
      | split
  | load t x =>
    simp only
    have h0 := h
    simp only [opC, ho] at h
    split at h
    · rename_i a ha
      rw [ha]
      obtain ⟨v, h1, h2⟩ := (by rw [zce] at h; cases hv : zdh P t a F G some with | none => rw [hv] at h; cases h | some v => exact ⟨v, rfl, trivial⟩ : ∃ v, zdh P t a F G some = some v ∧ True)
      have key : ∀ F2 G2, zdh P t a F2 G2 some = some v → zDx P O lo sand o env F2 G2 v F2 G2 := fun F2 G2 hq k' => by
        simp only [opC, ho, ha]
        rw [zce, hq]; rfl
      cases a with
      | loc b i => exact ⟨v, fun F2 G2 hb => key F2 G2 (by rw [zCc hb]; exact h1)⟩
      | ptr p => exact ⟨v, fun F2 => key F2 G (by rw [zDf (F := F)]; exact h1)⟩
      | _ => trivial
    · cases h
  | store t x y =>
    simp only
    simp only [opC, ho] at h
    split at h
    · rename_i a v ha hv
      rw [ha]
      unfold zf2 at h
      split at h
      · rename_i hc
        cases a with
        | loc b i =>
          simp only at h
          split at h
          · rename_i cs hcs
            split at h
            · rename_i hl
              refine ⟨za, zcq cs i v.cells, (List.getElem?_eq_some_iff.1 hcs).1, fun F2 G2 hb k' => ?_⟩
              simp only [opC, ho, ha, hv, zf2, hb, hcs]
              rw [if_pos hc, if_pos hl]
            · cases h
          · cases h
        | ptr p =>
          cases p with
          | none => cases h
          | some p =>
            simp only at h
            split at h
            · rename_i hn
              split at h
              · rename_i G' hG
                refine ⟨za, G', fun F2 k' => ?_⟩
                simp only [opC, ho, ha, hv, zf2, hG]
                rw [if_pos hc, if_pos hn]
              · cases h
            · cases h
        | _ => cases h
      · cases h
    · cases h
  | alloc t =>
    simp only
    simp only [opC, ho] at h
    split at h
    · rename_i v hv
      unfold zi6 at h
      split at h
      · rename_i hl
        rw [if_pos hl]
        exact ⟨v.cells, fun F2 G2 k' => by simp only [opC, ho, hv, zi6]; rw [if_pos hl]⟩
      · rename_i hl
        rw [if_neg hl]
        split at h
        · rename_i hn
          exact ⟨_, _, fun F2 k' => by simp only [opC, ho, hv, zi6]; rw [if_neg hl, if_pos hn]⟩
        · cases h
    · cases h
  | box t x =>
    simp only
    simp only [opC, ho] at h
    split at h
    · rename_i v hv
      unfold zi6 at h
      split at h
      · rename_i hl
        rw [if_pos hl]
        exact ⟨v.cells, fun F2 G2 k' => by simp only [opC, ho, hv, zi6]; rw [if_pos hl]⟩
      · rename_i hl
        rw [if_neg hl]
        split at h
        · rename_i hn
          exact ⟨_, _, fun F2 k' => by simp only [opC, ho, hv, zi6]; rw [if_neg hl, if_pos hn]⟩
        · cases h
    · cases h
  | makeSlice t l c =>
    refine zEb (x := opC P (fun _ _ _ _ => none) lo sand o env [] G (fun v _ G => some (v, G))) (fun F2 k' => ?_) h
    simp only [opC, ho]
    repeat' first
      | rfl
      | (rw [zbH]; rfl)
      | split
  | buildSlice t n ps =>
    refine zEb (x := opC P (fun _ _ _ _ => none) lo sand o env [] G (fun v _ G => some (v, G))) (fun F2 k' => ?_) h
    simp only [opC, ho]
    repeat' first
      | rfl
      | split
  | convert s d x =>
    simp only
    split
    · refine zEb (x := opC P (fun _ _ _ _ => none) lo sand o env [] G (fun v _ G => some (v, G))) (fun F2 k' => ?_) h
      simp only [opC, ho]
      split
      · rw [znV]
      · rfl
    · rename_i hsl
      simp only [Bool.or_eq_true, not_or, Bool.not_eq_true] at hsl
      refine zaQ (x := opC P (fun _ _ _ _ => none) lo sand o env [] [] (fun v _ _ => some v)) (fun F2 G2 k' => ?_) h
      simp only [opC, ho]
      split
      · unfold ztI
        have n1 : ∀ e, P.underlying s ≠ some (.slice e) := fun e he => by simp [zzU, he] at hsl
        have n2 : ∀ e, P.underlying d ≠ some (.slice e) := fun e he => by simp [zzU, he] at hsl
        repeat' first
          | rfl
          | (rename_i hh _; exact absurd hh (n2 _))
          | (rename_i hh; exact absurd hh (n2 _))
          | (rename_i hh _; exact absurd hh (n1 _))
          | (rename_i hh; exact absurd hh (n1 _))
          | (rename_i hh1 hh2; exact absurd hh1 (n2 _))
          | (rename_i hh1 hh2; exact absurd hh1 (n1 _))
          | (rename_i hh1 hh2 _; exact absurd hh1 (n2 _))
          | (rename_i hh1 hh2 _; exact absurd hh1 (n1 _))
          | split
      · rfl
  | slice t x l hh mx =>
    have key : ∀ F2 (k' : IV → List (List IV) → GH → Option R), opC P O lo sand o env F2 G k' = (opC P (fun _ _ _ _ => none) lo sand o env [] G (fun v _ _ => some v)).bind fun v => k' v F2 G := fun F2 k' => by
      simp only [opC, ho]
      repeat' first
        | rfl
        | (rw [zbH]; rfl)
        | split
    show ∃ v, ∀ F2, zDx P O lo sand o env F2 G v F2 G
    rw [key] at h
    cases hx : opC P (fun _ _ _ _ => none) lo sand o env [] G (fun v _ _ => some v) with
    | none => rw [hx] at h; cases h
    | some v => exact ⟨v, fun F2 k' => by rw [key, hx]; rfl⟩
  | call c =>
    cases hcc : c.callee with
    | builtin b =>
      have gen : Cls P O lo sand o env F G .wg := by
        refine zEb (x := opC P (fun _ _ _ _ => none) lo sand o env [] G (fun v _ G => some (v, G))) (fun F2 k' => ?_) h
        simp only [opC, ho, hcc]
        split
        · rw [ziH]
        · rfl
      simp only [hcc]
      cases b with
      | len =>
        refine zaQ (x := opC P (fun _ _ _ _ => none) lo sand o env [] [] (fun v _ _ => some v)) (fun F2 G2 k' => ?_) h
        simp only [opC, ho, hcc]
        split
        · unfold zb7
          simp only
          repeat' first
            | rfl
            | split
        · rfl
      | max =>
        refine zaQ (x := opC P (fun _ _ _ _ => none) lo sand o env [] [] (fun v _ _ => some v)) (fun F2 G2 k' => ?_) h
        simp only [opC, ho, hcc]
        split
        · unfold zb7
          simp only
          split
          · rw [zal]
          · rfl
        · rfl
      | min =>
        refine zaQ (x := opC P (fun _ _ _ _ => none) lo sand o env [] [] (fun v _ _ => some v)) (fun F2 G2 k' => ?_) h
        simp only [opC, ho, hcc]
        split
        · unfold zb7
          simp only
          split
          · rw [zal]
          · rfl
        · rfl
      | _ => exact gen
    | value f =>
      simp only [opC, ho, hcc] at h
      simp only [hcc]
      split at h
      · rename_i args hargs
        split at h
        · rename_i fid caps hf
          split at h
          · rename_i hnl
            cases sand
            · simp only [Bool.false_eq_true, if_false] at h ⊢
              obtain ⟨v, G', hv⟩ := hN _ _ _ _ _ h
              rw [hv] at h
              refine ⟨v, G', fun F2 k' => ?_⟩
              simp only [opC, ho, hcc, hargs, hf, hnl, if_true, Bool.false_eq_true, if_false]
              rw [hv]
              exact zoQ h _
            · simp only [if_true] at h ⊢
              obtain ⟨v, G', hv⟩ := hN _ _ _ _ _ h
              rw [hv] at h
              have h1 := zpz h
              split at h1
              · rename_i hfl
                refine ⟨v, fun F2 k' => ?_⟩
                simp only [opC, ho, hcc, hargs, hf, hnl, if_true]
                rw [hv, zoQ h]
                rw [if_pos hfl]
              · cases h1
          · cases h
        · cases h
      · cases h
    | invoke x n => simp only [opC, ho, hcc] at h; split at h <;> cases h
  | _ => simp [opC, ho] at h
end
end Go.LI
namespace Go.LI
open Go Go.RowKit
section
variable {R : Type} {P : Program} {O : Ora R} {lo : List Nat} {sand : Bool}
theorem zEP.mono {T T' : List (List IV) → GH → IV → List (List IV) → GH → Prop} (h : ∀ F G v F' G', T F G v F' G' → T' F G v F' G') {F : List (List IV)} {G : GH} : ∀ {f : Fp}, zEP T F G f → zEP T' F G f
  | .none, ⟨v, q⟩ => ⟨v, fun F2 G2 => h _ _ _ _ _ (q F2 G2)⟩
  | .rf _, ⟨v, q⟩ => ⟨v, fun F2 G2 e => h _ _ _ _ _ (q F2 G2 e)⟩
  | .rg, ⟨v, q⟩ => ⟨v, fun F2 => h _ _ _ _ _ (q F2)⟩
  | .wf _, ⟨v, cs, hb, q⟩ => ⟨v, cs, hb, fun F2 G2 e => h _ _ _ _ _ (q F2 G2 e)⟩
  | .nf, ⟨cs, q⟩ => ⟨cs, fun F2 G2 => h _ _ _ _ _ (q F2 G2)⟩
  | .wg, ⟨v, G', q⟩ => ⟨v, G', fun F2 => h _ _ _ _ _ (q F2)⟩
  | .bad, _ => trivial
theorem ztu {n : Option Nat} {b : Nat} (h : zC5 n b = true) : ∃ m, n = some m ∧ m ≠ b := by
  cases n with
  | none => cases h
  | some m => exact ⟨m, rfl, by simpa [zC5] using h⟩
theorem zH1 {Tx Ty : List (List IV) → GH → IV → List (List IV) → GH → Prop} {F : List (List IV)} {G : GH} {fx fy : Fp} {nx ny : Option Nat} (hx : zEP Tx F G fx)
    (hy : ∀ v1 F1 G1, Tx F G v1 F1 G1 → zEP Ty F1 G1 fy) (hc : zDO nx ny fx fy = true)
    (hbx : fx = .nf → ∀ cs, Tx F G (.loc F.length 0) (F ++ [cs]) G → ∀ n, nx = some n → n = F.length)
    (hby : fy = .nf → ∀ v1 F1 G1 cs, Tx F G v1 F1 G1 → Ty F1 G1 (.loc F1.length 0) (F1 ++ [cs]) G1 → ∀ n, ny = some n → n = F1.length) :
    ∃ v1 F1 G1 v2 F2 G2 Fa Ga, Tx F G v1 F1 G1 ∧ Ty F1 G1 v2 F2 G2 ∧ Ty F G v2 Fa Ga ∧ Tx Fa Ga v1 F2 G2 := by
  have app : ∀ {F : List (List IV)} {cs : List IV} {b : Nat}, F.length ≠ b → (F ++ [cs])[b]? = F[b]? := fun {F cs b} h => by
    rcases Nat.lt_or_ge b F.length with h1 | h1
    · rw [List.getElem?_append_left h1]
    · rw [List.getElem?_eq_none (by simp; omega), List.getElem?_eq_none h1]
  cases fx with
  | bad => cases fy <;> cases hc
  | none =>
    obtain ⟨v, q⟩ := hx
    have h := hy _ _ _ (q F G)
    cases fy with
    | bad => cases hc
    | none => obtain ⟨u, p⟩ := h; exact ⟨v, F, G, u, F, G, F, G, q F G, p _ _, p _ _, q _ _⟩
    | rf b => obtain ⟨u, p⟩ := h; exact ⟨v, F, G, u, F, G, F, G, q F G, p _ _ rfl, p _ _ rfl, q _ _⟩
    | rg => obtain ⟨u, p⟩ := h; exact ⟨v, F, G, u, F, G, F, G, q F G, p _, p _, q _ _⟩
    | wf b => obtain ⟨u, cs, hb, p⟩ := h; exact ⟨v, F, G, u, _, G, _, G, q F G, p _ _ rfl, p _ _ rfl, q _ _⟩
    | nf => obtain ⟨cs, p⟩ := h; exact ⟨v, F, G, _, _, G, _, G, q F G, p _ _, p _ _, q _ _⟩
    | wg => obtain ⟨u, G', p⟩ := h; exact ⟨v, F, G, u, F, G', F, G', q F G, p _, p _, q _ _⟩
  | rf b =>
    obtain ⟨v, q⟩ := hx
    have q0 := q F G rfl
    have h := hy _ _ _ q0
    cases fy with
    | bad => cases hc
    | none => obtain ⟨u, p⟩ := h; exact ⟨v, F, G, u, F, G, F, G, q0, p _ _, p _ _, q0⟩
    | rf b => obtain ⟨u, p⟩ := h; exact ⟨v, F, G, u, F, G, F, G, q0, p _ _ rfl, p _ _ rfl, q0⟩
    | rg => obtain ⟨u, p⟩ := h; exact ⟨v, F, G, u, F, G, F, G, q0, p _, p _, q0⟩
    | wf b' =>
      obtain ⟨u, cs, hb, p⟩ := h
      have hne : b ≠ b' := by simpa [zDO] using hc
      exact ⟨v, F, G, u, _, G, _, G, q0, p _ _ rfl, p _ _ rfl, q _ _ (List.getElem?_set_ne (Ne.symm hne))⟩
    | nf =>
      obtain ⟨cs, p⟩ := h
      obtain ⟨n, h1, h2⟩ := ztu (by simpa [zDO] using hc)
      have := hby rfl _ _ _ cs q0 (p _ _) n h1
      exact ⟨v, F, G, _, _, G, _, G, q0, p _ _, p _ _, q _ _ (app (by omega))⟩
    | wg => obtain ⟨u, G', p⟩ := h; exact ⟨v, F, G, u, F, G', F, G', q0, p _, p _, q _ _ rfl⟩
  | rg =>
    obtain ⟨v, q⟩ := hx
    have q0 := q F
    have h := hy _ _ _ q0
    cases fy with
    | bad => cases hc
    | none => obtain ⟨u, p⟩ := h; exact ⟨v, F, G, u, F, G, F, G, q0, p _ _, p _ _, q0⟩
    | rf b => obtain ⟨u, p⟩ := h; exact ⟨v, F, G, u, F, G, F, G, q0, p _ _ rfl, p _ _ rfl, q0⟩
    | rg => obtain ⟨u, p⟩ := h; exact ⟨v, F, G, u, F, G, F, G, q0, p _, p _, q0⟩
    | wf b' => obtain ⟨u, cs, hb, p⟩ := h; exact ⟨v, F, G, u, _, G, _, G, q0, p _ _ rfl, p _ _ rfl, q _⟩
    | nf => obtain ⟨cs, p⟩ := h; exact ⟨v, F, G, _, _, G, _, G, q0, p _ _, p _ _, q _⟩
    | wg => cases hc
  | wf b =>
    obtain ⟨v, cs, hb, q⟩ := hx
    have q0 := q F G rfl
    have h := hy _ _ _ q0
    cases fy with
    | bad => cases hc
    | none => obtain ⟨u, p⟩ := h; exact ⟨v, _, G, u, _, G, F, G, q0, p _ _, p _ _, q0⟩
    | rf b' =>
      obtain ⟨u, p⟩ := h
      have hne : b ≠ b' := by simpa [zDO] using hc
      exact ⟨v, _, G, u, _, G, F, G, q0, p _ _ rfl, p _ _ (List.getElem?_set_ne hne).symm, q0⟩
    | rg => obtain ⟨u, p⟩ := h; exact ⟨v, _, G, u, _, G, F, G, q0, p _, p _, q0⟩
    | wf b' =>
      obtain ⟨u, cs', hb', p⟩ := h
      have hne : b ≠ b' := by simpa [zDO] using hc
      exact ⟨v, _, G, u, _, G, _, G, q0, p _ _ rfl, p _ _ (List.getElem?_set_ne hne).symm, by
        rw [List.set_comm _ _ hne]; exact q _ _ (List.getElem?_set_ne (Ne.symm hne))⟩
    | nf =>
      obtain ⟨cs', p⟩ := h
      obtain ⟨n, h1, h2⟩ := ztu (by simpa [zDO] using hc)
      have hq := hby rfl _ _ _ cs' q0 (p _ _) n h1
      refine ⟨v, _, G, _, _, G, F ++ [cs'], G, q0, p _ _, ?_, ?_⟩
      · rw [List.length_set]; exact p _ _
      · rw [← List.set_append_left _ _ hb]; exact q _ _ (app (by rw [List.length_set] at hq; omega))
    | wg => obtain ⟨u, G', p⟩ := h; exact ⟨v, _, G, u, _, G', F, G', q0, p _, p _, q _ _ rfl⟩
  | nf =>
    obtain ⟨cs, q⟩ := hx
    have q0 := q F G
    have h := hy _ _ _ q0
    cases fy with
    | bad => cases hc
    | none => obtain ⟨u, p⟩ := h; exact ⟨_, _, G, u, _, G, F, G, q0, p _ _, p _ _, q0⟩
    | rf b =>
      obtain ⟨u, p⟩ := h
      obtain ⟨n, h1, h2⟩ := ztu (by simpa [zDO] using hc)
      have hq := hbx rfl cs q0 n h1
      exact ⟨_, _, G, u, _, G, F, G, q0, p _ _ rfl, p _ _ (app (by omega)).symm, q0⟩
    | rg => obtain ⟨u, p⟩ := h; exact ⟨_, _, G, u, _, G, F, G, q0, p _, p _, q0⟩
    | wf b =>
      obtain ⟨u, cs', hb, p⟩ := h
      obtain ⟨n, h1, h2⟩ := ztu (by simpa [zDO] using hc)
      have hq := hbx rfl cs q0 n h1
      have hb' : b < F.length := by simp at hb; omega
      refine ⟨_, _, G, u, _, G, F.set b cs', G, q0, p _ _ rfl, p _ _ (app (by omega)).symm, ?_⟩
      rw [List.set_append_left _ _ hb']
      have := q (F.set b cs') G
      rwa [List.length_set] at this
    | nf => cases hc
    | wg => obtain ⟨u, G', p⟩ := h; exact ⟨_, _, G, u, _, G', F, G', q0, p _, p _, q _ _⟩
  | wg =>
    obtain ⟨v, G1, q⟩ := hx
    have q0 := q F
    have h := hy _ _ _ q0
    cases fy with
    | bad => cases hc
    | none => obtain ⟨u, p⟩ := h; exact ⟨v, F, G1, u, F, G1, F, G, q0, p _ _, p _ _, q0⟩
    | rf b => obtain ⟨u, p⟩ := h; exact ⟨v, F, G1, u, F, G1, F, G, q0, p _ _ rfl, p _ _ rfl, q0⟩
    | rg => cases hc
    | wf b' => obtain ⟨u, cs, hb, p⟩ := h; exact ⟨v, F, G1, u, _, G1, _, G, q0, p _ _ rfl, p _ _ rfl, q _⟩
    | nf => obtain ⟨cs, p⟩ := h; exact ⟨v, F, G1, _, _, G1, _, G, q0, p _ _, p _ _, q _⟩
    | wg => cases hc
end
end Go.LI
namespace Go.LI
open Go Go.RowKit
section
variable {R : Type} {P : Program} {O : Ora R} {lo : List Nat} {sand : Bool} {all : Array Oper}
def zgp (P : Program) (O : Ora R) (lo : List Nat) (sand : Bool) (all : Array Oper) (o : Oper) (env : List IV) (F : List (List IV)) (G : GH) (v : IV) (F' : List (List IV)) (G' : GH) : Prop :=
  (zcZ all o env = some true ∧ zDx P O lo sand o env F G v F' G') ∨ (zcZ all o env = some false ∧ v = za ∧ F' = F ∧ G' = G)
theorem zgp.eq {o : Oper} {env : List IV} {F F' : List (List IV)} {G G' : GH} {v : IV} (h : zgp P O lo sand all o env F G v F' G') (os : List Oper) (k : List IV → List (List IV) → GH → Option R) :
    zld P O lo sand all (o :: os) env F G k = zld P O lo sand all os (zg9 env o.dst v) F' G' k := by
  rcases h with ⟨hw, h⟩ | ⟨hw, rfl, rfl, rfl⟩
  · rw [zf1, hw]; simp only; rw [h]
  · rw [zf1, hw]
theorem zvS {o : Oper} {env : List IV} {F F' : List (List IV)} {G G' : GH} {v : IV} (hw : zcZ all o env = some true) (h : zDx P O lo sand o env F G v F' G') : zgp P O lo sand all o env F G v F' G' := .inl ⟨hw, h⟩
theorem ztQ {o : Oper} {env : List IV} (hw : zcZ all o env = some false) (F : List (List IV)) (G : GH) : zgp P O lo sand all o env F G za F G := .inr ⟨hw, rfl, rfl, rfl⟩
theorem zzw (hN : zrD O) {o : Oper} {os : List Oper} {env : List IV} {F : List (List IV)} {G : GH} {k : List IV → List (List IV) → GH → Option R} {r : R} (h : zld P O lo sand all (o :: os) env F G k = some r) :
    ∃ v F' G', zgp P O lo sand all o env F G v F' G' := by
  rw [zf1] at h
  cases hw : zcZ all o env with
  | none => rw [hw] at h; cases h
  | some b =>
    rw [hw] at h
    cases b
    · exact ⟨_, _, _, ztQ hw F G⟩
    · obtain ⟨v, F1, G1, h1⟩ := zxd hN h
      exact ⟨v, F1, G1, zvS hw h1⟩
theorem zAm (hN : zrD O) {o : Oper} {os : List Oper} {env : List IV} {F : List (List IV)} {G : GH} {k : List IV → List (List IV) → GH → Option R} {r : R} (h : zld P O lo sand all (o :: os) env F G k = some r) :
    zEP (zgp P O lo sand all o env) F G (fpW P lo sand all env o) := by
  rw [zf1] at h
  unfold fpW
  cases hw : zcZ all o env with
  | none => rw [hw] at h; cases h
  | some b =>
    rw [hw] at h
    cases b
    · exact ⟨za, fun F2 G2 => ztQ hw F2 G2⟩
    · exact (zCJ hN h).mono fun F G v F' G' q => zvS hw q
theorem zwP {o : Oper} {env env2 : List IV} (h : ∀ t, t ∈ zcu all o → env[t]? = env2[t]?) : zcZ all o env = zcZ all o env2 := by
  unfold zcZ
  cases hg : o.guard with
  | none => rfl
  | some jw =>
    obtain ⟨j, want⟩ := jw
    simp only
    cases hd : (all[j]?).bind (·.dst) with
    | none => rfl
    | some d =>
      simp only
      rw [h d (by simp [zcu, hg, hd])]
theorem zAa {o : Oper} {env env2 : List IV} (h : ∀ t, t ∈ zcu all o → env[t]? = env2[t]?) : zBk P lo sand env o = zBk P lo sand env2 o := by
  unfold zBk
  cases ho : o.op with
  | load t x =>
    simp only
    rw [zue (env := env) (env2 := env2) (x := x) (fun t ht => h t (by simp [zcu, ho, ht]))]
  | store t x y =>
    simp only
    rw [zue (env := env) (env2 := env2) (x := x) (fun t ht => h t (by simp [zcu, ho, ht]))]
  | _ => rfl
theorem zBQ {o : Oper} {env env2 : List IV} (h : ∀ t, t ∈ zcu all o → env[t]? = env2[t]?) : fpW P lo sand all env o = fpW P lo sand all env2 o := by
  unfold fpW
  rw [zwP h, zAa h]
theorem zha {env : List IV} {dst : Option Tmp} {v : IV} {t : Nat} (h : ∀ d, dst = some d → d ≠ t) : (zg9 env dst v)[t]? = env[t]? := by
  cases dst with
  | none => rfl
  | some d => simp [zg9, List.getElem?_set_ne (h d rfl)]
theorem zxJ {env : List IV} {d1 d2 : Option Tmp} {v1 v2 : IV} (h : ∀ d, d1 = some d → d2 ≠ some d) : zg9 (zg9 env d1 v1) d2 v2 = zg9 (zg9 env d2 v2) d1 v1 := by
  cases d1 with
  | none => rfl
  | some d1 =>
    cases d2 with
    | none => rfl
    | some d2 =>
      have := h d1 rfl
      simp only [zg9]
      exact List.set_comm _ _ (fun e => this (by rw [e]))
theorem ztq {o : Oper} {env env2 : List IV} (h : ∀ t, t ∈ o.looksAt all → env[t]? = env2[t]?) {F F' : List (List IV)} {G G' : GH} {v : IV} (hs : zgp P O lo sand all o env F G v F' G') :
    zgp P O lo sand all o env2 F G v F' G' := by
  have hop : ∀ t, Operand.tmp t ∈ o.op.operands → env[t]? = env2[t]? := fun t ht => h t (by
    unfold Oper.looksAt
    refine List.mem_append.2 (.inl (List.mem_filterMap.2 ⟨.tmp t, by simpa using ht, rfl⟩)))
  have hw : zcZ all o env = zcZ all o env2 := by
    unfold zcZ
    cases hg : o.guard with
    | none => rfl
    | some jw =>
      obtain ⟨j, want⟩ := jw
      simp only
      cases hd : (all[j]?).bind (·.dst) with
      | none => rfl
      | some d =>
        simp only
        rw [h d (by simp [Oper.looksAt, hg, hd])]
  rcases hs with ⟨h1, h2⟩ | ⟨h1, h2⟩
  · exact .inl ⟨hw ▸ h1, fun k => by rw [← zyC hop]; exact h2 k⟩
  · exact .inr ⟨hw ▸ h1, h2⟩
theorem ze4 {o : Oper} {t : Tmp} (h : t ∈ zcu all o) : t ∈ o.looksAt all := by
  unfold zcu at h
  unfold Oper.looksAt
  rcases List.mem_append.1 h with h | h
  · refine List.mem_append.2 (.inl (List.mem_filterMap.2 ⟨.tmp t, ?_, rfl⟩))
    split at h
    · rename_i ty t' ho
      simp at h; subst h
      simp [ho, Op.operands]
    · rename_i ty t' vv ho
      simp at h; subst h
      simp [ho, Op.operands]
    · cases h
  · exact List.mem_append.2 (.inr h)
theorem zps (hN : zrD O) (r : R) {d : Nat} : ∀ {os : List Oper} {env E : List IV} {F F' : List (List IV)} {G G' : GH}, zpK P O lo sand all os env F G E F' G' → (∀ o ∈ os, o.dst ≠ some d) → E[d]? = env[d]?
  | [], env, E, F, F', G, G', h, _ => by
    classical
    have := h fun e _ _ => if e[d]? = env[d]? then some r else none
    simp only [zld, if_true] at this
    by_cases hc : E[d]? = env[d]?
    · exact hc
    · rw [if_neg hc] at this; cases this
  | o :: os, env, E, F, F', G, G', h, hd => by
    obtain ⟨v, F1, G1, h1⟩ := zzw hN (h fun _ _ _ => some r)
    have h2 : zpK P O lo sand all os (zg9 env o.dst v) F1 G1 E F' G' := fun k => by rw [← h1.eq]; exact h k
    rw [zps hN r h2 fun o ho => hd o (by simp [ho])]
    exact zha fun d' hd' => fun e => hd o (by simp) (by rw [hd', e])
theorem zjw {x y : Oper} (h : zeO all x y = true) : (∀ t, t ∈ zcu all x → y.dst ≠ some t) ∧ (zud x.op = true → ∀ d, x.dst = some d → y.dst ≠ some d) := by
  unfold zeO at h
  cases hd : y.dst with
  | none => simp
  | some d =>
    rw [hd] at h
    simp only [Bool.and_eq_true, Bool.not_eq_true', List.contains_eq_mem, decide_eq_false_iff_not] at h
    refine ⟨fun t ht e => ?_, fun ha d' hd' e => ?_⟩
    · injection e with e; subst e; exact h.1 ht
    · injection e with e; subst e
      have := h.2
      rw [ha, hd'] at this
      simp at this
theorem zoG {x : Oper} (h : zhZ all x = true) : ∀ t, t ∈ zcu all x → x.dst ≠ some t := by
  unfold zhZ at h
  cases hd : x.dst with
  | none => simp
  | some d =>
    rw [hd] at h
    simp only [Bool.not_eq_true', List.contains_eq_mem, decide_eq_false_iff_not] at h
    intro t ht e
    injection e with e; subst e; exact h ht
theorem zFa {E : List IV} {o : Oper} {n : Nat} (h : zDB E o = some n) : zud o.op = true ∧ ∃ d i, o.dst = some d ∧ E[d]? = some (.loc n i) := by
  unfold zDB at h
  split at h
  · rename_i ha
    split at h
    · rename_i d hd
      split at h
      · rename_i n' i hE
        injection h with h; subst h
        exact ⟨ha, d, i, hd, hE⟩
      · cases h
    · cases h
  · cases h
theorem zEC (hN : zrD O) (r : R) {x y : Oper} {rest : List Oper} {env E : List IV} {F F' : List (List IV)} {G G' : GH} (H : zpK P O lo sand all (x :: y :: rest) env F G E F' G')
    (hap : x.apart all y = true) (hp : zu0 P lo sand all E x y = true) (hxs : zhZ all x = true) (hys : zhZ all y = true) (hxl : ∀ z ∈ y :: rest, zeO all x z = true) (hyl : ∀ z ∈ rest, zeO all y z = true) :
    zpK P O lo sand all (y :: x :: rest) env F G E F' G' := by
  obtain ⟨a1, a2, a3⟩ := Oper.apart_spec hap
  have Hs := H fun _ _ _ => some r
  have kx : ∀ t, t ∈ zcu all x → env[t]? = E[t]? := fun t ht => (zps hN r H fun o ho => by
    rcases List.mem_cons.1 ho with rfl | ho
    · exact zoG hxs t ht
    · exact (zjw (hxl o ho)).1 t ht).symm
  have ky : ∀ t, t ∈ zcu all y → env[t]? = E[t]? := fun t ht => (zps hN r H fun o ho => by
    rcases List.mem_cons.1 ho with rfl | ho
    · exact fun e => a1 t e (ze4 ht)
    · rcases List.mem_cons.1 ho with rfl | ho
      · exact zoG hys t ht
      · exact (zjw (hyl o ho)).1 t ht).symm
  have cx := zAm hN Hs
  rw [zBQ kx] at cx
  have yenv : ∀ v t, t ∈ y.looksAt all → (zg9 env x.dst v)[t]? = env[t]? := fun v t ht => zha fun d hd e => a1 d hd (e ▸ ht)
  have xenv : ∀ v t, t ∈ x.looksAt all → env[t]? = (zg9 env y.dst v)[t]? := fun v t ht => (zha fun d hd e => a3 d hd (e ▸ ht)).symm
  have after : ∀ {v1 F1 G1}, zgp P O lo sand all x env F G v1 F1 G1 → zpK P O lo sand all (y :: rest) (zg9 env x.dst v1) F1 G1 E F' G' := fun h k => by rw [← h.eq]; exact H k
  have cy : ∀ v1 F1 G1, zgp P O lo sand all x env F G v1 F1 G1 → zEP (zgp P O lo sand all y env) F1 G1 (fpW P lo sand all E y) := fun v1 F1 G1 h1 => by
    have h2 := zAm hN (after h1 fun _ _ _ => some r)
    have he : fpW P lo sand all (zg9 env x.dst v1) y = fpW P lo sand all E y := zBQ fun t ht => by rw [yenv v1 t (ze4 ht), ky t ht]
    rw [he] at h2
    exact h2.mono fun _ _ _ _ _ q => ztq (yenv v1) q
  have put_self : ∀ {e : List IV} {d : Nat} {v w : IV}, (zg9 e (some d) v)[d]? = some w → w = v := fun {e d v w} h => by
    simp only [zg9, List.getElem?_set] at h
    split at h
    · split at h
      · injection h with h; exact h.symm
      · cases h
    · contradiction
  obtain ⟨v1, F1, G1, v2, F2, G2, Fa, Ga, s1, s2, s3, s4⟩ := zH1 cx cy hp
    (fun _ cs h1 n hn => by
      obtain ⟨ha, d, i, hd, hE⟩ := zFa hn
      rw [zps hN r (after h1) fun o ho => (zjw (hxl o ho)).2 ha d hd, hd] at hE
      have := put_self hE
      injection this)
    (fun _ u1 F1 G1 cs h1 h2 n hn => by
      obtain ⟨ha, d, i, hd, hE⟩ := zFa hn
      have h2' : zgp P O lo sand all y (zg9 env x.dst u1) F1 G1 (.loc F1.length 0) (F1 ++ [cs]) G1 := ztq (fun t ht => (yenv u1 t ht).symm) h2
      have h3 : zpK P O lo sand all rest (zg9 (zg9 env x.dst u1) y.dst (.loc F1.length 0)) (F1 ++ [cs]) G1 E F' G' := fun k => by rw [← h2'.eq]; exact after h1 k
      rw [zps hN r h3 fun o ho => (zjw (hyl o ho)).2 ha d hd, hd] at hE
      have := put_self hE
      injection this)
  intro k
  have t2 : zgp P O lo sand all y (zg9 env x.dst v1) F1 G1 v2 F2 G2 := ztq (fun t ht => (yenv v1 t ht).symm) s2
  have t4 : zgp P O lo sand all x (zg9 env y.dst v2) Fa Ga v1 F2 G2 := ztq (xenv v2) s4
  rw [s3.eq, t4.eq, ← zxJ fun d hd => a2 d hd, ← t2.eq, ← s1.eq]
  exact H k
theorem zya (hN : zrD O) (r : R) {y : Oper} {post : List Oper} {E : List IV} {F' : List (List IV)} {G' : GH} : ∀ {pre : List Oper} {env : List IV} {F : List (List IV)} {G : GH}, zpK P O lo sand all (pre ++ y :: post) env F G E F' G' →
    (∀ x ∈ pre, x.apart all y = true ∧ zu0 P lo sand all E x y = true) → (pre ++ y :: post).Pairwise (fun x z => zeO all x z = true) → (∀ x ∈ pre ++ y :: post, zhZ all x = true) →
    zpK P O lo sand all (y :: (pre ++ post)) env F G E F' G'
  | [], env, F, G, H, _, _, _ => H
  | x :: pre, env, F, G, H, hx, hl, hs => by
    obtain ⟨v, F1, G1, h1⟩ := zzw hN (H fun _ _ _ => some r)
    have hl2 := List.pairwise_cons.1 hl
    have h2 : zpK P O lo sand all (pre ++ y :: post) (zg9 env x.dst v) F1 G1 E F' G' := fun k => by rw [← h1.eq]; exact H k
    have h3 := zya hN r h2 (fun z hz => hx z (by simp [hz])) hl2.2 (fun z hz => hs z (by simp only [List.cons_append, List.mem_cons]; exact .inr hz))
    have h4 : zpK P O lo sand all (x :: y :: (pre ++ post)) env F G E F' G' := fun k => by rw [h1.eq]; exact h3 k
    obtain ⟨p1, p2⟩ := hx x (by simp)
    refine zEC hN r h4 p1 p2 (hs x (by simp)) (hs y (by simp)) (fun z hz => hl2.1 z ?_) (fun z hz => ?_)
    · rcases List.mem_cons.1 hz with h | h
      · exact List.mem_append.2 (.inr (List.mem_cons.2 (.inl h)))
      · rcases List.mem_append.1 h with h | h
        · exact List.mem_append.2 (.inl h)
        · exact List.mem_append.2 (.inr (List.mem_cons.2 (.inr h)))
    · rcases List.mem_append.1 hz with h | h
      · obtain ⟨q, _⟩ := hx z (by simp [h])
        obtain ⟨b1, b2, b3⟩ := Oper.apart_spec q
        unfold zeO
        cases hd : z.dst with
        | none => rfl
        | some d =>
          simp only [Bool.and_eq_true, Bool.not_eq_true', List.contains_eq_mem, decide_eq_false_iff_not]
          refine ⟨fun hm => b1 d hd (ze4 hm), ?_⟩
          have := b2 d hd
          simp [this]
      · have := (List.pairwise_append.1 hl2.2).2.1
        exact (List.pairwise_cons.1 this).1 z h
end
end Go.LI
namespace Go.LI
open Go Go.RowKit
theorem zvw {acc : List Nat} {i : Nat} : ∀ {es : List Edge} {m : Nat}, (es.foldl (fun m e => if Region.binds .any e then m ||| (1 <<< e.on) ||| acc.getD e.on 0 else m) m).testBit i = true →
    m.testBit i = true ∨ ∃ e ∈ es, Region.binds .any e = true ∧ (e.on = i ∨ (acc.getD e.on 0).testBit i = true)
  | [], m, h => .inl h
  | e :: es, m, h => by
    simp only [List.foldl_cons] at h
    rcases zvw h with h | ⟨x, hx, h⟩
    · split at h
      · rename_i hb
        simp only [Nat.testBit_or, Bool.or_eq_true] at h
        rcases h with (h | h) | h
        · exact .inl h
        · refine .inr ⟨e, by simp, hb, .inl ?_⟩
          rw [Nat.one_shiftLeft, Nat.testBit_two_pow] at h
          simpa using h
        · exact .inr ⟨e, by simp, hb, .inr h⟩
      · exact .inl h
    · exact .inr ⟨x, by simp [hx], h⟩
theorem znI : ∀ (os : List Oper) (acc : List Nat) (j : Nat), j < acc.length → (zun os acc)[j]? = acc[j]?
  | [], acc, j, h => rfl
  | o :: os, acc, j, h => by
    simp only [zun]
    rw [znI os _ j (by simp; omega), List.getElem?_append_left h]
theorem zFb {acc : List Nat} {j i : Nat} (h : (acc.getD j 0).testBit i = true) : j < acc.length := by
  rcases Nat.lt_or_ge j acc.length with h1 | h1
  · exact h1
  · simp [List.getD, List.getElem?_eq_none h1] at h
theorem zx0 : ∀ (os : List Oper) (acc : List Nat) (j i : Nat), ((zun os acc).getD j 0).testBit i = true →
    j < acc.length ∨ (acc.length ≤ j ∧ ∃ o, os[j - acc.length]? = some o ∧ ∃ e ∈ o.after.toList, Region.binds .any e = true ∧ (e.on = i ∨ ((zun os acc).getD e.on 0).testBit i = true))
  | [], acc, j, i, h => .inl (zFb h)
  | o :: os, acc, j, i, h => by
    simp only [zun] at h ⊢
    rcases Nat.lt_trichotomy j acc.length with hj | hj | hj
    · exact .inl hj
    · refine .inr ⟨by omega, o, by simp [hj], ?_⟩
      have hp := znI os (acc ++ [zHP o acc]) j (by simp; omega)
      rw [List.getD, hp, hj] at h
      simp only [List.getElem?_concat_length, Option.getD_some, zHP] at h
      rcases zvw h with h | ⟨e, he, hb, h⟩
      · simp at h
      · refine ⟨e, he, hb, h.imp id fun h => ?_⟩
        have hlt := zFb h
        rw [List.getD, znI os _ e.on (by simp; omega), List.getElem?_append_left hlt]
        exact h
    · rcases zx0 os (acc ++ [zHP o acc]) j i h with h1 | ⟨h1, o', h2, h3⟩
      · simp at h1; omega
      · refine .inr ⟨by omega, o', ?_, h3⟩
        rw [List.length_append, List.length_singleton] at h2
        rw [show j - acc.length = (j - (acc.length + 1)) + 1 by omega, List.getElem?_cons_succ]
        exact h2
theorem zzJ {ops : Array Oper} {i j : Nat} (h : ((zun ops.toList []).getD j 0).testBit i = true) :
    ∃ o, ops[j]? = some o ∧ ∃ e ∈ o.after, Region.binds .any e = true ∧ (e.on = i ∨ ((zun ops.toList []).getD e.on 0).testBit i = true) := by
  rcases zx0 ops.toList [] j i h with h | ⟨_, o, h1, e, h2, h3⟩
  · simp at h
  · exact ⟨o, by simpa using h1, e, by simpa using h2, h3⟩
structure DrawD (P : Program) (lo : List Nat) (ops : Array Oper) (E : List IV) : Prop where
  self : ∀ (j : Nat) (y : Oper), ops[j]? = some y → zhZ ops y = true
  edge : ∀ (j : Nat) (y : Oper), ops[j]? = some y → ∀ e ∈ y.after, Region.binds .any e = true → e.on < j
  late : ∀ (i j : Nat) (x y : Oper), ops[i]? = some x → ops[j]? = some y → i < j → zeO ops x y = true
  pair : ∀ (i j : Nat) (x y : Oper), ops[i]? = some x → ops[j]? = some y → i < j → ((zun ops.toList []).getD j 0).testBit i = false → x.apart ops y = true ∧ zu0 P lo false ops E x y = true
theorem zAK {P : Program} {lo : List Nat} {ops : Array Oper} {E : List IV} (h : zDP P lo ops E = true) : DrawD P lo ops E := by
  unfold zDP at h
  have H : ∀ (j : Nat) (y : Oper), ops[j]? = some y → (zhZ ops y = true ∧ y.after.toList.all (fun e => !Region.binds .any e || decide (e.on < j)) = true) ∧ (List.range j).all (fun i => match ops[i]? with
        | none => true
        | some x => zeO ops x y && (((zun ops.toList []).getD j 0).testBit i || (x.apart ops y && zu0 P lo false ops E x y))) = true := fun j y hy => by
    have := List.all_eq_true.1 h j (List.mem_range.2 (Array.getElem?_eq_some_iff.1 hy).1)
    simp only [hy, Bool.and_eq_true] at this
    exact this
  have H2 : ∀ (i j : Nat) (x y : Oper), ops[i]? = some x → ops[j]? = some y → i < j → zeO ops x y = true ∧ (((zun ops.toList []).getD j 0).testBit i = true ∨ (x.apart ops y = true ∧ zu0 P lo false ops E x y = true)) := fun i j x y hx hy hij => by
    have := List.all_eq_true.1 (H j y hy).2 i (List.mem_range.2 hij)
    simp only [hx, Bool.and_eq_true, Bool.or_eq_true] at this
    exact this
  refine ⟨fun j y hy => (H j y hy).1.1, fun j y hy e he hb => ?_, fun i j x y hx hy hij => (H2 i j x y hx hy hij).1, fun i j x y hx hy hij hn => ?_⟩
  · have := List.all_eq_true.1 (H j y hy).1.2 e (by simpa using he)
    simpa [hb] using this
  · rcases (H2 i j x y hx hy hij).2 with h | h
    · rw [hn] at h; cases h
    · exact h
section
variable {R : Type} {P : Program} {O : Ora R} {lo : List Nat} {ops : Array Oper} {E : List IV} {F' : List (List IV)} {G' : GH} {B K : Nat → Prop} {w0 : World}
theorem zCs (r : R) {env : List IV} {F : List (List IV)} {G : GH} (h : zpK P O lo false ops [] env F G E F' G') : env = E ∧ F = F' ∧ G = G' := by
  classical
  have h' : ∀ k : List IV → List (List IV) → GH → Option R, k env F G = k E F' G' := h
  by_cases h1 : env = E ∧ F = F' ∧ G = G'
  · exact h1
  · have := h' fun e f g => if e = E ∧ f = F' ∧ g = G' then some r else none
    simp only [and_self, if_true] at this
    rw [if_neg h1] at this
    cases this
theorem zr8 {o : Oper} {env : List IV} {b : Bool} {m : Map} {a : Act} (h : zcZ ops o env = some b) (hE : zbb m env a.tmps) : Region.wanted o (yielded ops a.tmps) = b := by
  unfold zcZ at h
  split at h
  · rename_i hg
    injection h with h
    simp [Region.wanted, hg, h]
  · rename_i j want hg
    split at h
    · cases h
    · rename_i d hd
      split at h
      · rename_i c hb
        injection h with h
        simp [Region.wanted, hg, zcX hd hb hE, ← h]
      · rename_i hb
        injection h with h
        simp [Region.wanted, hg, znt hd hb hE, ← h]
      · cases h
structure Rest (ops : Array Oper) (listed : Array Bool) (rem : List (Nat × Oper)) : Prop where
  at_ : ∀ p ∈ rem, ops[p.1]? = some p.2
  sorted : rem.Pairwise (fun p q => p.1 < q.1)
  all : ∀ i o, ops[i]? = some o → listed.getD i true = false → (i, o) ∈ rem
  un : ∀ p ∈ rem, listed.getD p.1 true = false
  size : listed.size = ops.size
  down : ∀ i, listed.getD i false = true → ∀ j, ((zun ops.toList []).getD i 0).testBit j = true → listed.getD j false = true
theorem zCz {listed : Array Bool} {i : Nat} (h : i < listed.size) (hf : listed.getD i false = false) : listed.getD i true = false := by
  simp [h] at hf ⊢; exact hf
theorem zvF (hO : zqa P O) (hN : zrD O) (r : R) (hD : DrawD P lo ops E) {Q : Exit → Act → World → Prop} : ∀ (n : Nat) (rem : List (Nat × Oper)) (listed : Array Bool) (a : Act) (w : World) (env : List IV) (F : List (List IV)) (G : GH) (m : Map),
    rem.length = n → Rest ops listed rem → zpK P O lo false ops (rem.map (·.2)) env F G E F' G' → HRel P B K w0 m F G w → zbb m env a.tmps → zmL P B K w0 m E F' G' a (Q .normal) →
    wpAny P .any ops Q n listed a w
  | 0, rem, listed, a, w, env, F, G, m, hn, hr, H, hR, hE, hQ => by
    have : rem = [] := List.length_eq_zero_iff.1 hn
    subst this
    obtain ⟨rfl, rfl, rfl⟩ := zCs r H
    refine ⟨List.eq_nil_iff_forall_not_mem.2 fun i hi => ?_, hQ m w a m.le_refl hR hE rfl⟩
    obtain ⟨h1, o, h2, _⟩ := mem_ready.1 hi
    have := hr.all i o h2 h1
    cases this
  | n + 1, rem, listed, a, w, env, F, G, m, hn, hr, H, hR, hE, hQ => by
    refine ⟨fun h0 => ?_, fun i hi => ?_⟩
    · exfalso
      cases rem with
      | nil => simp at hn
      | cons p rem =>
        have hp := hr.at_ p (by simp)
        have hin : p.1 ∈ Region.ready .any ops listed := mem_ready.2 ⟨hr.un p (by simp), p.2, hp, fun e he hb => by
          have hlt := hD.edge _ _ hp e he hb
          have hpz := (Array.getElem?_eq_some_iff.1 hp).1
          cases hl : listed.getD e.on false with
          | true => rfl
          | false =>
            have h1 := hr.all e.on ops[e.on] (Array.getElem?_eq_getElem (by omega)) (zCz (by rw [hr.size]; omega) hl)
            rcases List.mem_cons.1 h1 with h1 | h1
            · rw [← h1] at hlt; simp at hlt
            · have := (List.pairwise_cons.1 hr.sorted).1 _ h1
              simp at this; omega⟩
        rw [h0] at hin
        cases hin
    · obtain ⟨hun, o, hio, hedges⟩ := mem_ready.1 hi
      obtain ⟨pre, post, hsplit⟩ := List.append_of_mem (hr.all i o hio hun)
      have hsort := hr.sorted
      rw [hsplit] at hsort
      have hanc : ∀ j, ((zun ops.toList []).getD i 0).testBit j = true → listed.getD j false = true := fun j hb => by
        obtain ⟨o', h1, e, he, hbd, h2⟩ := zzJ hb
        rw [hio] at h1
        injection h1 with h1
        subst h1
        rcases h2 with h2 | h2
        · rw [← h2]; exact hedges e he hbd
        · exact hr.down e.on (hedges e he hbd) j h2
      have H' : zpK P O lo false ops (o :: (pre ++ post).map (·.2)) env F G E F' G' := by
        rw [hsplit, List.map_append, List.map_cons] at H
        rw [List.map_append]
        refine zya hN r H (fun x hx => ?_) ?_ (fun x hx => ?_)
        · obtain ⟨p, hp, rfl⟩ := List.mem_map.1 hx
          have hpr : p ∈ rem := by rw [hsplit]; exact List.mem_append.2 (.inl hp)
          have hlt : p.1 < i := (List.pairwise_append.1 hsort).2.2 p hp (i, o) (by simp)
          refine hD.pair p.1 i p.2 o (hr.at_ p hpr) hio hlt ?_
          cases hb : ((zun ops.toList []).getD i 0).testBit p.1 with
          | false => rfl
          | true =>
            have h1 := hanc _ hb
            have h2 := getD_both (hr.un p hpr)
            rw [h1] at h2
            cases h2
        · rw [show pre.map (·.2) ++ o :: post.map (·.2) = (pre ++ (i, o) :: post).map (·.2) by simp, List.pairwise_map, ← hsplit]
          exact hr.sorted.imp_of_mem fun {p q} hp hq h => hD.late _ _ _ _ (hr.at_ p hp) (hr.at_ q hq) h
        · rw [show pre.map (·.2) ++ o :: post.map (·.2) = (pre ++ (i, o) :: post).map (·.2) by simp, ← hsplit] at hx
          obtain ⟨p, hp, rfl⟩ := List.mem_map.1 hx
          exact hD.self _ _ (hr.at_ p hp)
      have hi_size : i < listed.size := by rw [hr.size]; exact (Array.getElem?_eq_some_iff.1 hio).1
      have hmem : ∀ p ∈ pre ++ post, p ∈ rem ∧ p.1 ≠ i := fun p hp => by
        rw [hsplit]
        rcases List.mem_append.1 hp with h | h
        · exact ⟨List.mem_append.2 (.inl h), fun e => by
            have : p.1 < i := (List.pairwise_append.1 hsort).2.2 p h (i, o) (by simp)
            omega⟩
        · exact ⟨List.mem_append.2 (.inr (List.mem_cons.2 (.inr h))), fun e => by
            have : i < p.1 := (List.pairwise_cons.1 (List.pairwise_append.1 hsort).2.1).1 p h
            omega⟩
      have hr' : Rest ops (listed.setIfInBounds i true) (pre ++ post) := by
        refine ⟨fun p hp => hr.at_ p (hmem p hp).1, ?_, fun j oj hj hu => ?_, fun p hp => ?_, by simp [hr.size], fun j hj k hk => ?_⟩
        · refine hsort.sublist ?_
          exact List.Sublist.append_left (List.sublist_cons_self _ _) pre
        · by_cases hji : i = j
          · subst hji; simp [hi_size] at hu
          · rw [getD_set_ne true hji] at hu
            have := hr.all j oj hj hu
            rw [hsplit] at this
            rcases List.mem_append.1 this with h | h
            · exact List.mem_append.2 (.inl h)
            · rcases List.mem_cons.1 h with h | h
              · injection h with h; exact absurd h.symm hji
              · exact List.mem_append.2 (.inr h)
        · rw [getD_set_ne true (Ne.symm (hmem p hp).2)]
          exact hr.un p (hmem p hp).1
        · refine getD_set_true ?_
          by_cases hji : i = j
          · subst hji; exact hanc k hk
          · rw [getD_set_ne false hji] at hj
            exact hr.down j hj k hk
      have hlen : (pre ++ post).length = n := by
        rw [hsplit] at hn; simp at hn ⊢; omega
      unfold wpOp
      rw [hio]
      simp only
      have h0 := H' fun _ _ _ => some r
      rw [zf1] at h0
      cases hw : zcZ ops o env with
      | none => rw [hw] at h0; cases h0
      | some b =>
        have hwant := zr8 hw hE
        rw [hw] at h0
        cases b
        · rw [hwant]
          simp only [Bool.false_eq_true, if_false]
          have hs : zgp P O lo false ops o env F G za F G := ztQ hw F G
          exact zvF hO hN r hD n (pre ++ post) _ _ w _ F G m hlen hr' (fun k => by rw [← hs.eq]; exact H' k) hR (hE.put (VRel.undef m) o.dst) fun m2 w2 a2 l q e d => hQ m2 w2 a2 l q e (d.trans (zcD a _ _))
        · rw [hwant]
          simp only [if_true]
          simp only at h0
          obtain ⟨v, F1, G1, h1⟩ := zxd hN h0
          have hs : zgp P O lo false ops o env F G v F1 G1 := zvS hw h1
          classical
          have h2 : opC P O lo false o env F G (fun v' f g => if v' = v ∧ f = F1 ∧ g = G1 then some r else none) = some r := by rw [h1]; simp
          obtain ⟨v', F1', G1', h3, h4⟩ := zzK hO h2
          split at h3
          · rename_i he
            obtain ⟨rfl, rfl, rfl⟩ := he
            refine .inl (h4 B K w0 m w a hR hE _ Q fun u w' ⟨m', q1, q2, q3⟩ => ?_)
            exact zvF hO hN r hD n (pre ++ post) _ _ w' _ F1' G1' m' hlen hr' (fun k => by rw [← hs.eq]; exact H' k) q2 ((hE.mono q1).put q3 o.dst) fun m2 w2 a2 l q e d =>
              hQ m2 w2 a2 (Map.le_trans q1 l) q e (d.trans (zcD a _ _))
          · cases h3
theorem zve : Rest ops (Array.replicate ops.size false) ((List.range ops.size).filterMap fun i => (ops[i]?).map fun o => (i, o)) where
  at_ := fun p hp => by
    obtain ⟨i, _, h⟩ := List.mem_filterMap.1 hp
    obtain ⟨o, h1, h2⟩ := Option.map_eq_some_iff.1 h
    subst h2
    exact h1
  sorted := by
    rw [List.pairwise_filterMap]
    refine (List.pairwise_lt_range (n := ops.size)).imp fun {i j} hij p hp q hq => ?_
    obtain ⟨o, h1, h2⟩ := Option.map_eq_some_iff.1 hp
    obtain ⟨o', h3, h4⟩ := Option.map_eq_some_iff.1 hq
    subst h2; subst h4
    exact hij
  all := fun i o ho hu => List.mem_filterMap.2 ⟨i, List.mem_range.2 (Array.getElem?_eq_some_iff.1 ho).1, by simp [ho]⟩
  un := fun p hp => by
    obtain ⟨i, hi, h⟩ := List.mem_filterMap.1 hp
    obtain ⟨o, h1, h2⟩ := Option.map_eq_some_iff.1 h
    subst h2
    have := List.mem_range.1 hi
    simp [this]
  size := by simp
  down := fun i hi => by rw [getD_replicate_false] at hi; cases hi
theorem zpg : ((List.range ops.size).filterMap fun i => (ops[i]?).map fun o => (i, o)).map (·.2) = ops.toList := by
  have key : ∀ (l : List Oper) (n : Nat), ((List.range' n l.length).filterMap fun i => (l[i - n]?).map fun o => (i, o)).map (·.2) = l := by
    intro l
    induction l with
    | nil => intro n; rfl
    | cons o l ih =>
      intro n
      rw [List.length_cons, List.range'_succ, List.filterMap_cons]
      simp only [Nat.sub_self, List.getElem?_cons_zero, Option.map_some, List.map_cons]
      refine congrArg _ (Eq.trans (congrArg _ ?_) (ih (n + 1)))
      have cg : ∀ (is : List Nat), (∀ i ∈ is, n < i) → (is.filterMap fun i => ((o :: l)[i - n]?).map fun o => (i, o)) = is.filterMap fun i => (l[i - (n + 1)]?).map fun o => (i, o) := by
        intro is
        induction is with
        | nil => intro _; rfl
        | cons i is ih =>
          intro h
          have : n < i := h i (by simp)
          rw [List.filterMap_cons, List.filterMap_cons, ih fun j hj => h j (by simp [hj]), show i - n = (i - (n + 1)) + 1 by omega, List.getElem?_cons_succ]
      exact cg _ fun i hi => by have := List.mem_range'_1.1 hi; omega
  have := key ops.toList 0
  rw [← List.range_eq_range'] at this
  simpa using this
theorem zy2 (hm : P.follows .mixedOrders = true) (hO : zqa P O) (hN : zrD O) {id : Nat} {env : List IV} {F : List (List IV)} {G : GH} {k : List IV → List (List IV) → GH → Option R} {r : R}
    (h : zld P O lo false ops ops.toList env F G (fun env F G => if zDP P lo ops env = true then k env F G else none) = some r) :
    ∃ env' F' G', k env' F' G' = some r ∧ ∀ (B K : Nat → Prop) (w0 : World) (m : Map) (w : World) (a : Act) (Q : Exit → Act → World → Prop), HRel P B K w0 m F G w → zbb m env a.tmps →
      zmL P B K w0 m env' F' G' a (Q .normal) → (Code.region id ops true).wp P Q a w := by
  obtain ⟨E, F', G', h1⟩ := zjT hN h
  rw [h1] at h
  split at h
  · rename_i hD
    refine ⟨E, F', G', h, fun B K w0 m w a Q hR hE hQ => wp_region_any hm ?_⟩
    refine zvF hO hN r (zAK hD) ops.size _ _ a _ env F G m ?_ zve (by rw [zpg]; exact h1) (hR.grow (zct w _)) hE hQ
    have := congrArg List.length (zpg (ops := ops))
    simpa using this
  · cases h
end
end Go.LI
namespace Go.LI
open Go Go.RowKit
mutual
theorem zwW : ∀ {a b : IV}, zkL a b = true → a = b
  | .bool a, b, h => by cases b <;> simp_all [zkL]
  | .int k a, b, h => by cases b <;> simp_all [zkL]
  | .float k a, b, h => by cases b <;> simp_all [zkL]
  | .str a, b, h => by cases b <;> simp_all [zkL]
  | .ptr a, b, h => by cases b <;> simp_all [zkL]
  | .loc x y, b, h => by cases b <;> simp_all [zkL]
  | .slice x y, b, h => by cases b <;> simp_all [zkL]
  | .func f cs, b, h => by
    cases b with
    | func g ds =>
      simp only [zkL, Bool.and_eq_true, beq_iff_eq] at h
      rw [h.1, zju h.2]
    | _ => simp [zkL] at h
  | .nilFunc, b, h => by cases b <;> simp_all [zkL]
  | .nilIface, b, h => by cases b <;> simp_all [zkL]
  | .iface t v, b, h => by
    cases b with
    | iface u w =>
      simp only [zkL, Bool.and_eq_true, beq_iff_eq] at h
      rw [h.1, zwW h.2]
    | _ => simp [zkL] at h
  | .agg cs, b, h => by
    cases b with
    | agg ds =>
      have := zju (a := cs) (b := ds) (by simpa [zkL] using h)
      rw [this]
    | _ => simp [zkL] at h
  | .tuple cs, b, h => by
    cases b with
    | tuple ds =>
      have := zju (a := cs) (b := ds) (by simpa [zkL] using h)
      rw [this]
    | _ => simp [zkL] at h
  | .fo k o, b, h => by cases b <;> simp_all [zkL]
  | .any, b, h => by cases b <;> simp_all [zkL]
theorem zju : ∀ {a b : List IV}, zsp a b = true → a = b
  | [], b, h => by cases b <;> simp_all [zsp]
  | x :: l, b, h => by
    cases b with
    | nil => simp [zsp] at h
    | cons y m =>
      simp only [zsp, Bool.and_eq_true] at h
      rw [zwW h.1, zju h.2]
end
mutual
theorem zxK : ∀ (a : IV), zkL a a = true
  | .bool a => by simp [zkL]
  | .int k a => by simp [zkL]
  | .float k a => by simp [zkL]
  | .str a => by simp [zkL]
  | .ptr a => by simp [zkL]
  | .loc x y => by simp [zkL]
  | .slice x y => by simp [zkL]
  | .func f cs => by simp [zkL, zg7 cs]
  | .nilFunc => by simp [zkL]
  | .nilIface => by simp [zkL]
  | .iface t v => by simp [zkL, zxK v]
  | .agg cs => by simp [zkL, zg7 cs]
  | .tuple cs => by simp [zkL, zg7 cs]
  | .fo k o => by simp [zkL]
  | .any => by simp [zkL]
theorem zg7 : ∀ (a : List IV), zsp a a = true
  | [] => by simp [zsp]
  | x :: l => by simp [zsp, zxK x, zg7 l]
end
theorem zqe : ∀ (G : GH), zy1 G G = true
  | [] => rfl
  | k :: G => by simp [zy1, zg7 k.cells, zqe G]
theorem zyf : ∀ {G H : GH}, zy1 G H = true → ∃ N, H = G ++ N
  | [], H, _ => ⟨H, rfl⟩
  | k :: G, [], h => by simp [zy1] at h
  | k :: G, j :: H, h => by
    simp only [zy1, Bool.and_eq_true, beq_iff_eq] at h
    obtain ⟨⟨⟨h1, h2⟩, h3⟩, h4⟩ := h
    obtain ⟨N, rfl⟩ := zyf h4
    have := zju h1
    cases k; cases j
    simp only at this h2 h3
    subst this; subst h2; subst h3
    exact ⟨N, rfl⟩
section
variable {R : Type} {P : Program} {O : Ora R} {lo : List Nat} {sl : Oper → Option Nat} {gb : Nat} {env env2 : List IV} {all : Array Oper}
def zyE (P : Program) (O : Ora R) (lo : List Nat) (sl : Oper → Option Nat) (gb : Nat) (o : Oper) (env : List IV) (F : List (List IV)) (G : GH) (v : IV) (F' : List (List IV)) (G' : GH) : Prop :=
  ∀ k : IV → List (List IV) → GH → Option R, opS P O lo sl gb o env F G k = k v F' G'
theorem znu {x : Option (List IV)} (h : zx8 x = true) : x = some zFx := by
  unfold zx8 at h
  split at h
  · rfl
  · cases h
theorem zzn (hN : zrD O) {o : Oper} {F : List (List IV)} {G : GH} {k : IV → List (List IV) → GH → Option R} {r : R} (h : opS P O lo sl gb o env F G k = some r) : ∃ v F' G', zyE P O lo sl gb o env F G v F' G' := by
  unfold opS at h
  split at h
  · rename_i s hs
    split at h
    · rename_i t ho
      split at h
      · rename_i z hz
        unfold zkN at h
        split at h
        · rename_i hh
          exact ⟨.loc s 0, F.set s z.cells, G, fun k' => by simp only [opS, hs, ho, hz, zkN]; rw [if_pos hh]⟩
        · cases h
      · cases h
    · rename_i t x ho
      split at h
      · rename_i z hz
        unfold zkN at h
        split at h
        · rename_i hh
          exact ⟨.loc s 0, F.set s z.cells, G, fun k' => by simp only [opS, hs, ho, hz, zkN]; rw [if_pos hh]⟩
        · cases h
      · cases h
    · cases h
  · rename_i hs
    split at h
    · rename_i hv
      split at h
      · rename_i hgb
        obtain ⟨v, F', G', h1⟩ := zxd hN h
        rw [h1] at h
        split at h
        · rename_i hp
          exact ⟨v, F', G', fun k' => by simp only [opS, hs]; rw [if_pos hv, if_pos hgb, h1, if_pos hp]⟩
        · cases h
      · cases h
    · rename_i hv
      split at h
      · rename_i hob
        obtain ⟨v, F', G', h1⟩ := zxd hN h
        exact ⟨v, F', G', fun k' => by simp only [opS, hs]; rw [if_neg hv, if_pos hob, h1]⟩
      · cases h
theorem zB7 {op : Op} (h : ∀ t, Operand.tmp t ∈ op.operands → env[t]? = env2[t]?) : zDj gb op env = zDj gb op env2 := by
  cases op with
  | load t x => simp only [zDj]; rw [zue (x := x) (env := env) (env2 := env2) fun t ht => h t (by rw [← ht]; simp [Op.operands])]
  | _ => rfl
theorem zGy {o : Oper} (h : ∀ t, Operand.tmp t ∈ o.op.operands → env[t]? = env2[t]?) (F : List (List IV)) (G : GH) (k : IV → List (List IV) → GH → Option R) :
    opS P O lo sl gb o env F G k = opS P O lo sl gb o env2 F G k := by
  unfold opS
  split
  · split
    · rfl
    · rename_i t x ho
      rw [zue (x := x) (env := env) (env2 := env2) fun t ht => h t (by rw [ho, ← ht]; simp [Op.operands])]
    · rfl
  · rw [zyC h, zyC h, zB7 h]
def zEF (gb : Nat) (T : List (List IV) → GH → IV → List (List IV) → GH → Prop) (F : List (List IV)) (G : GH) : Fs → Prop
  | .none => ∃ v, ∀ F2 G2, T F2 G2 v F2 G2
  | .rf b => ∃ v, ∀ F2 G2, F2[b]? = F[b]? → T F2 G2 v F2 G2
  | .rg => ∃ v, ∀ F2 N, T F2 (G ++ N) v F2 (G ++ N)
  | .wf b => ∃ v cs, b < F.length ∧ ∀ F2 G2, F2[b]? = F[b]? → T F2 G2 v (F2.set b cs) G2
  | .wg => ∃ v G', ∀ F2, T F2 G v F2 G'
  | .ro => ∃ v, ∀ F2 G2, G2.take gb = G.take gb → T F2 G2 v F2 G2
  | .ng => ∃ v N, gb ≤ G.length ∧ ∀ F2, T F2 G v F2 (G ++ N)
  | .bad => True
theorem zEF.mono {T T' : List (List IV) → GH → IV → List (List IV) → GH → Prop} (h : ∀ F G v F' G', T F G v F' G' → T' F G v F' G') {F : List (List IV)} {G : GH} : ∀ {f : Fs}, zEF gb T F G f → zEF gb T' F G f
  | .none, ⟨v, q⟩ => ⟨v, fun F2 G2 => h _ _ _ _ _ (q F2 G2)⟩
  | .rf _, ⟨v, q⟩ => ⟨v, fun F2 G2 e => h _ _ _ _ _ (q F2 G2 e)⟩
  | .rg, ⟨v, q⟩ => ⟨v, fun F2 N => h _ _ _ _ _ (q F2 N)⟩
  | .wf _, ⟨v, cs, hb, q⟩ => ⟨v, cs, hb, fun F2 G2 e => h _ _ _ _ _ (q F2 G2 e)⟩
  | .wg, ⟨v, G', q⟩ => ⟨v, G', fun F2 => h _ _ _ _ _ (q F2)⟩
  | .ro, ⟨v, q⟩ => ⟨v, fun F2 G2 e => h _ _ _ _ _ (q F2 G2 e)⟩
  | .ng, ⟨v, N, hg, q⟩ => ⟨v, N, hg, fun F2 => h _ _ _ _ _ (q F2)⟩
  | .bad, _ => trivial
theorem zH6 {Tx Ty : List (List IV) → GH → IV → List (List IV) → GH → Prop} {F : List (List IV)} {G : GH} {fx fy : Fs} (hx : zEF gb Tx F G fx)
    (hy : ∀ v1 F1 G1, Tx F G v1 F1 G1 → zEF gb Ty F1 G1 fy) (hc : zDs fx fy = true) :
    ∃ v1 F1 G1 v2 F2 G2 Fa Ga, Tx F G v1 F1 G1 ∧ Ty F1 G1 v2 F2 G2 ∧ Ty F G v2 Fa Ga ∧ Tx Fa Ga v1 F2 G2 := by
  cases fx with
  | bad => cases fy <;> cases hc
  | none =>
    obtain ⟨v, q⟩ := hx
    have h := hy _ _ _ (q F G)
    cases fy with
    | bad => cases hc
    | none => obtain ⟨u, p⟩ := h; exact ⟨v, F, G, u, F, G, F, G, q F G, p _ _, p _ _, q _ _⟩
    | rf b => obtain ⟨u, p⟩ := h; exact ⟨v, F, G, u, F, G, F, G, q F G, p _ _ rfl, p _ _ rfl, q _ _⟩
    | rg => obtain ⟨u, p⟩ := h; have p0 := p F []; rw [List.append_nil] at p0; exact ⟨v, F, G, u, F, G, F, G, q F G, p0, p0, q _ _⟩
    | ro => obtain ⟨u, p⟩ := h; exact ⟨v, F, G, u, F, G, F, G, q F G, p _ _ rfl, p _ _ rfl, q _ _⟩
    | wf b => obtain ⟨u, cs, hb, p⟩ := h; exact ⟨v, F, G, u, _, G, _, G, q F G, p _ _ rfl, p _ _ rfl, q _ _⟩
    | wg => obtain ⟨u, G', p⟩ := h; exact ⟨v, F, G, u, F, G', F, G', q F G, p _, p _, q _ _⟩
    | ng => obtain ⟨u, N, hg, p⟩ := h; exact ⟨v, F, G, u, F, _, F, _, q F G, p _, p _, q _ _⟩
  | rf b =>
    obtain ⟨v, q⟩ := hx
    have q0 := q F G rfl
    have h := hy _ _ _ q0
    cases fy with
    | bad => cases hc
    | none => obtain ⟨u, p⟩ := h; exact ⟨v, F, G, u, F, G, F, G, q0, p _ _, p _ _, q0⟩
    | rf b => obtain ⟨u, p⟩ := h; exact ⟨v, F, G, u, F, G, F, G, q0, p _ _ rfl, p _ _ rfl, q0⟩
    | rg => obtain ⟨u, p⟩ := h; have p0 := p F []; rw [List.append_nil] at p0; exact ⟨v, F, G, u, F, G, F, G, q0, p0, p0, q0⟩
    | ro => obtain ⟨u, p⟩ := h; exact ⟨v, F, G, u, F, G, F, G, q0, p _ _ rfl, p _ _ rfl, q0⟩
    | wf b' =>
      obtain ⟨u, cs, hb, p⟩ := h
      have hne : b ≠ b' := by simpa [zDs] using hc
      exact ⟨v, F, G, u, _, G, _, G, q0, p _ _ rfl, p _ _ rfl, q _ _ (List.getElem?_set_ne (Ne.symm hne))⟩
    | wg => obtain ⟨u, G', p⟩ := h; exact ⟨v, F, G, u, F, G', F, G', q0, p _, p _, q _ _ rfl⟩
    | ng => obtain ⟨u, N, hg, p⟩ := h; exact ⟨v, F, G, u, F, _, F, _, q0, p _, p _, q _ _ rfl⟩
  | rg =>
    obtain ⟨v, q⟩ := hx
    have q0 := q F []
    rw [List.append_nil] at q0
    have h := hy _ _ _ q0
    cases fy with
    | bad => cases hc
    | none => obtain ⟨u, p⟩ := h; exact ⟨v, F, G, u, F, G, F, G, q0, p _ _, p _ _, q0⟩
    | rf b => obtain ⟨u, p⟩ := h; exact ⟨v, F, G, u, F, G, F, G, q0, p _ _ rfl, p _ _ rfl, q0⟩
    | rg => obtain ⟨u, p⟩ := h; have p0 := p F []; rw [List.append_nil] at p0; exact ⟨v, F, G, u, F, G, F, G, q0, p0, p0, q0⟩
    | ro => obtain ⟨u, p⟩ := h; exact ⟨v, F, G, u, F, G, F, G, q0, p _ _ rfl, p _ _ rfl, q0⟩
    | wf b' =>
      obtain ⟨u, cs, hb, p⟩ := h
      have q1 := q (F.set b' cs) []
      rw [List.append_nil] at q1
      exact ⟨v, F, G, u, _, G, _, G, q0, p _ _ rfl, p _ _ rfl, q1⟩
    | wg => cases hc
    | ng => obtain ⟨u, N, hg, p⟩ := h; exact ⟨v, F, G, u, F, _, F, _, q0, p _, p _, q F N⟩
  | wf b =>
    obtain ⟨v, cs, hb, q⟩ := hx
    have q0 := q F G rfl
    have h := hy _ _ _ q0
    cases fy with
    | bad => cases hc
    | none => obtain ⟨u, p⟩ := h; exact ⟨v, _, G, u, _, G, F, G, q0, p _ _, p _ _, q0⟩
    | rf b' =>
      obtain ⟨u, p⟩ := h
      have hne : b ≠ b' := by simpa [zDs] using hc
      exact ⟨v, _, G, u, _, G, F, G, q0, p _ _ rfl, p _ _ (List.getElem?_set_ne hne).symm, q0⟩
    | rg =>
      obtain ⟨u, p⟩ := h
      have p0 := p (F.set b cs) []
      have p1 := p F []
      rw [List.append_nil] at p0 p1
      exact ⟨v, _, G, u, _, G, F, G, q0, p0, p1, q0⟩
    | ro => obtain ⟨u, p⟩ := h; exact ⟨v, _, G, u, _, G, F, G, q0, p _ _ rfl, p _ _ rfl, q0⟩
    | wf b' =>
      obtain ⟨u, cs', hb', p⟩ := h
      have hne : b ≠ b' := by simpa [zDs] using hc
      exact ⟨v, _, G, u, _, G, _, G, q0, p _ _ rfl, p _ _ (List.getElem?_set_ne hne).symm, by
        rw [List.set_comm _ _ hne]; exact q _ _ (List.getElem?_set_ne (Ne.symm hne))⟩
    | wg => obtain ⟨u, G', p⟩ := h; exact ⟨v, _, G, u, _, G', F, G', q0, p _, p _, q _ _ rfl⟩
    | ng => obtain ⟨u, N, hg, p⟩ := h; exact ⟨v, _, G, u, _, _, F, _, q0, p _, p _, q _ _ rfl⟩
  | wg =>
    obtain ⟨v, G1, q⟩ := hx
    have q0 := q F
    have h := hy _ _ _ q0
    cases fy with
    | bad => cases hc
    | none => obtain ⟨u, p⟩ := h; exact ⟨v, F, G1, u, F, G1, F, G, q0, p _ _, p _ _, q0⟩
    | rf b => obtain ⟨u, p⟩ := h; exact ⟨v, F, G1, u, F, G1, F, G, q0, p _ _ rfl, p _ _ rfl, q0⟩
    | rg => cases hc
    | ro => cases hc
    | wf b' => obtain ⟨u, cs, hb, p⟩ := h; exact ⟨v, F, G1, u, _, G1, _, G, q0, p _ _ rfl, p _ _ rfl, q _⟩
    | wg => cases hc
    | ng => cases hc
  | ro =>
    obtain ⟨v, q⟩ := hx
    have q0 := q F G rfl
    have h := hy _ _ _ q0
    cases fy with
    | bad => cases hc
    | none => obtain ⟨u, p⟩ := h; exact ⟨v, F, G, u, F, G, F, G, q0, p _ _, p _ _, q0⟩
    | rf b => obtain ⟨u, p⟩ := h; exact ⟨v, F, G, u, F, G, F, G, q0, p _ _ rfl, p _ _ rfl, q0⟩
    | rg => obtain ⟨u, p⟩ := h; have p0 := p F []; rw [List.append_nil] at p0; exact ⟨v, F, G, u, F, G, F, G, q0, p0, p0, q0⟩
    | ro => obtain ⟨u, p⟩ := h; exact ⟨v, F, G, u, F, G, F, G, q0, p _ _ rfl, p _ _ rfl, q0⟩
    | wf b' => obtain ⟨u, cs, hb, p⟩ := h; exact ⟨v, F, G, u, _, G, _, G, q0, p _ _ rfl, p _ _ rfl, q _ _ rfl⟩
    | wg => cases hc
    | ng => obtain ⟨u, N, hg, p⟩ := h; exact ⟨v, F, G, u, F, _, F, _, q0, p _, p _, q _ _ (List.take_append_of_le_length hg)⟩
  | ng =>
    obtain ⟨v, N, hg0, q⟩ := hx
    have q0 := q F
    have h := hy _ _ _ q0
    cases fy with
    | bad => cases hc
    | none => obtain ⟨u, p⟩ := h; exact ⟨v, F, _, u, F, _, F, G, q0, p _ _, p _ _, q0⟩
    | rf b => obtain ⟨u, p⟩ := h; exact ⟨v, F, _, u, F, _, F, G, q0, p _ _ rfl, p _ _ rfl, q0⟩
    | rg => cases hc
    | ro => obtain ⟨u, p⟩ := h; exact ⟨v, F, _, u, F, _, F, G, q0, p _ _ rfl, p _ _ (List.take_append_of_le_length hg0).symm, q0⟩
    | wf b' => obtain ⟨u, cs, hb, p⟩ := h; exact ⟨v, F, _, u, _, _, _, G, q0, p _ _ rfl, p _ _ rfl, q _⟩
    | wg => cases hc
    | ng => cases hc
theorem zDQ {G : GH} {a : GA} (h : gld G a ≠ none) (N : GH) : gld (G ++ N) a = gld G a := by
  unfold gld at h ⊢
  rcases Nat.lt_or_ge a.b G.length with h1 | h1
  · rw [List.getElem?_append_left h1]
  · rw [List.getElem?_eq_none h1] at h
    exact absurd rfl h
theorem zux {G : GH} {a : GA} {l : Leaf} {k : IV → Option R} {r : R} (h : zdO G a l k = some r) : ∃ v, ∀ (N : GH) {R' : Type} (k' : IV → Option R'), zdO (G ++ N) a l k' = k' v := by
  have hg : gld G a ≠ none := by
    intro h0
    cases l <;> simp [zdO, z0, zg, zfZ, zyI, zyt, zci, h0] at h
  have e : ∀ N, gld (G ++ N) a = gld G a := zDQ hg
  cases l <;> simp only [zdO] at h ⊢
  case int kd =>
    cases hx : z0 G kd a with
    | none => rw [hx] at h; cases h
    | some n => exact ⟨.int kd n, fun N R' k' => by rw [show z0 (G ++ N) kd a = some n by rw [← hx]; simp only [z0, e]]⟩
  case float kd =>
    cases hx : zg G kd a with
    | none => rw [hx] at h; cases h
    | some n => exact ⟨.float kd n, fun N R' k' => by rw [show zg (G ++ N) kd a = some n by rw [← hx]; simp only [zg, e]]⟩
  case bool =>
    cases hx : zfZ G a with
    | none => rw [hx] at h; cases h
    | some n => exact ⟨.bool n, fun N R' k' => by rw [show zfZ (G ++ N) a = some n by rw [← hx]; simp only [zfZ, e]]⟩
  case str =>
    cases hx : zyI G a with
    | none => rw [hx] at h; cases h
    | some n => exact ⟨.str n, fun N R' k' => by rw [show zyI (G ++ N) a = some n by rw [← hx]; simp only [zyI, e]]⟩
  case ptr =>
    cases hx : zyt G a with
    | none => rw [hx] at h; cases h
    | some n => exact ⟨.ptr n, fun N R' k' => by rw [show zyt (G ++ N) a = some n by rw [← hx]; simp only [zyt, e]]⟩
  case slice =>
    cases hx : zci G a with
    | none => rw [hx] at h; cases h
    | some n => exact ⟨.slice n.1 n.2, fun N R' k' => by rw [show zci (G ++ N) a = some n by rw [← hx]; simp only [zci, e]]⟩
  case raw =>
    cases hx : gld G a with
    | none => rw [hx] at h; cases h
    | some n => exact ⟨n, fun N R' k' => by rw [e, hx]⟩
theorem zr7 {G : GH} {a : GA} : ∀ {ls : List Leaf} {i : Nat} {k : List IV → Option R} {r : R}, zbU G a ls i k = some r → ∃ vs, ∀ (N : GH) {R' : Type} (k' : List IV → Option R'), zbU (G ++ N) a ls i k' = k' vs
  | [], i, k, r, h => ⟨[], fun N R' k' => rfl⟩
  | l :: ls, i, k, r, h => by
    simp only [zbU] at h
    obtain ⟨v, hv⟩ := zux h
    have h0 := hv [] fun v => zbU G a ls (i + 1) fun vs => k (v :: vs)
    rw [List.append_nil] at h0
    rw [h0] at h
    obtain ⟨vs, hvs⟩ := zr7 h
    exact ⟨v :: vs, fun N R' k' => by simp only [zbU]; rw [hv, hvs]⟩
theorem zBf {t : TypeId} {p : Option GA} {F : List (List IV)} {G : GH} {k : IV → Option R} {r : R} (h : zdh P t (.ptr p) F G k = some r) : ∃ v, ∀ (F2 : List (List IV)) (N : GH) {R' : Type} (k' : IV → Option R'), zdh P t (.ptr p) F2 (G ++ N) k' = k' v := by
  cases p with
  | none => simp [zdh] at h
  | some a =>
    simp only [zdh] at h
    split at h
    · rename_i ha
      split at h
      · rename_i hl
        obtain ⟨vs, hvs⟩ := zr7 h
        exact ⟨.agg vs, fun F2 N R' k' => by simp only [zdh]; rw [if_pos ha, if_pos hl, hvs]⟩
      · cases h
    · rename_i ha
      split at h
      · rename_i l hl
        obtain ⟨v, hv⟩ := zux h
        exact ⟨v, fun F2 N R' k' => by simp only [zdh]; rw [if_neg ha, hl]; exact hv N k'⟩
      · cases h
theorem zDo {G : GH} {a : Option GA} {e : Nat} (h : ztU G a e = true) (N : GH) : ztU (G ++ N) a e = true := by
  cases a with
  | none => rfl
  | some a =>
    unfold ztU at h ⊢
    simp only at h ⊢
    cases hg : G[a.b]? with
    | none => rw [hg] at h; cases h
    | some k =>
      rw [hg] at h
      rw [List.getElem?_append_left (List.getElem?_eq_some_iff.1 hg).1, hg]
      exact h
theorem zt6 {G G2 : GH} {a : GA} {l : Leaf} {k : IV → Option R} (e : gld G2 a = gld G a) : zdO G2 a l k = zdO G a l k := by
  cases l <;> simp only [zdO, z0, zg, zfZ, zyI, zyt, zci, e]
theorem zr2 {G G2 : GH} {a : GA} : ∀ {ls : List Leaf} {i : Nat} {k : List IV → Option R}, G2[a.b]? = G[a.b]? → zbU G2 a ls i k = zbU G a ls i k
  | [], i, k, e => rfl
  | l :: ls, i, k, e => by
    simp only [zbU]
    have eg : gld G2 (a.add i) = gld G (a.add i) := by
      unfold gld
      rw [show (a.add i).b = a.b from rfl, e]
    rw [zt6 eg]
    congr 1
    funext v
    exact zr2 e
theorem zu8 {t : TypeId} {a : GA} {F : List (List IV)} {G G2 : GH} {k : IV → Option R} (e : G2[a.b]? = G[a.b]?) : zdh P t (.ptr (some a)) F G2 k = zdh P t (.ptr (some a)) F G k := by
  simp only [zdh]
  rw [zr2 e]
  have eg : gld G2 a = gld G a := by
    unfold gld
    rw [e]
  split
  · rfl
  · split
    · exact zt6 eg
    · rfl
theorem zCa {G G2 : GH} {gb b : Nat} (h : G2.take gb = G.take gb) (hb : b < gb) : G2[b]? = G[b]? := by
  have := congrArg (fun l : GH => l[b]?) h
  simpa [List.getElem?_take, hb] using this
theorem zGG {o : Oper} {t : TypeId} {x : Operand} (ho : o.op = .load t x) {p : Option GA} (hx : ev env x = some (.ptr p)) {F : List (List IV)} {G : GH} {k : IV → List (List IV) → GH → Option R} {r : R} (h : opC P O lo false o env F G k = some r) :
    ∃ v, ∀ F2 N, zDx P O lo false o env F2 (G ++ N) v F2 (G ++ N) := by
  simp only [opC, ho, hx] at h
  obtain ⟨v, hv⟩ := zBf h
  exact ⟨v, fun F2 N k' => by simp only [opC, ho, hx]; exact hv F2 N _⟩
theorem zEz {o : Oper} {t : TypeId} {x : Operand} {l hh mx : Option Operand} (ho : o.op = .slice t x l hh mx) {F : List (List IV)} {G : GH} {k : IV → List (List IV) → GH → Option R} {r : R} (h : opC P O lo false o env F G k = some r) :
    ∃ v, ∀ F2 N, zDx P O lo false o env F2 (G ++ N) v F2 (G ++ N) := by
  simp only [opC, ho] at h
  split at h
  · rename_i x1 hx
    split at h
    · rename_i l1 h1 hl hhi
      split at h
      · rename_i s hu
        cases hd : decide (0 ≤ l1 ∧ l1 ≤ h1 ∧ h1 ≤ (s.length : Int)) with
        | false => rw [hd] at h; cases h
        | true => exact ⟨.str ((s.drop l1.toNat).take (h1.toNat - l1.toNat)), fun F2 N k' => by simp only [opC, ho, hx, hl, hhi, hu]; rw [hd, cond_true]⟩
      · rename_i e a n hu
        split at h
        · cases h
        · rename_i hc
          cases hd : (decide (0 ≤ l1 ∧ l1 ≤ h1 ∧ h1 ≤ (n : Int)) && ztU G a e) with
          | false => rw [hd] at h; cases h
          | true =>
            have hd' := hd
            simp only [Bool.and_eq_true] at hd'
            exact ⟨.slice (zFd a (l1.toNat * P.cellsOf e)) (h1.toNat - l1.toNat), fun F2 N k' => by simp only [opC, ho, hx, hl, hhi, hu]; rw [if_neg hc, hd'.1, zDo hd'.2, Bool.and_self, cond_true]⟩
      · cases h
    · cases h
  · cases h
theorem zGB (hN : zrD O) {o : Oper} {F : List (List IV)} {G : GH} {k : IV → List (List IV) → GH → Option R} {r : R} (h : opS P O lo sl gb o env F G k = some r) : zEF gb (zyE P O lo sl gb o env) F G (fpS P lo sl env o) := by
  have place : ∀ {s : Nat} {cs : List IV} {T : List (List IV) → GH → IV → List (List IV) → GH → Prop}, zx8 F[s]? = true → (∀ F2 G2, zx8 F2[s]? = true → T F2 G2 (.loc s 0) (F2.set s cs) G2) → zEF gb T F G (.wf s) := by
    intro s cs T hh hT
    refine ⟨.loc s 0, cs, (List.getElem?_eq_some_iff.1 (znu hh)).1, fun F2 G2 e => hT F2 G2 (by rw [e]; exact hh)⟩
  unfold opS at h
  split at h
  · rename_i s hs
    have e : fpS P lo sl env o = .wf s := by simp only [fpS, hs]
    rw [e]
    split at h
    · rename_i t ho
      split at h
      · rename_i z hz
        unfold zkN at h
        split at h
        · rename_i hh
          exact place (cs := z.cells) hh fun F2 G2 h2 k' => by simp only [opS, hs, ho, hz, zkN]; rw [if_pos h2]
        · cases h
      · cases h
    · rename_i t x ho
      split at h
      · rename_i z hz
        unfold zkN at h
        split at h
        · rename_i hh
          exact place (cs := z.cells) hh fun F2 G2 h2 k' => by simp only [opS, hs, ho, hz, zkN]; rw [if_pos h2]
        · cases h
      · cases h
    · cases h
  · rename_i hs
    split at h
    · rename_i hv
      have e : fpS P lo sl env o = .ng := by simp only [fpS, hs]; rw [if_pos hv]
      rw [e]
      split at h
      case isFalse => cases h
      rename_i hgb
      have hc := zCJ (sand := false) hN h
      have e2 : zBk P lo false env o = .wg := by
        unfold zBk
        cases ho : o.op with
        | call c =>
          rw [ho] at hv
          cases hcc : c.callee with
          | value f => simp [hcc]
          | _ => simp [zDV, hcc] at hv
        | makeSlice t l c => rfl
        | buildSlice t n ps => rfl
        | _ => simp [ho, zDV] at hv
      rw [e2] at hc
      obtain ⟨v, G', q⟩ := hc
      have h1 := q F fun v F' G' => if zy1 G G' = true then k v F' G' else none
      rw [h1] at h
      split at h
      · rename_i hp
        obtain ⟨N, rfl⟩ := zyf hp
        exact ⟨v, N, Nat.le_of_ble_eq_true hgb, fun F2 k' => by simp only [opS, hs]; rw [if_pos hv, if_pos hgb, q F2, if_pos hp]⟩
      · cases h
    · rename_i hv
      split at h
      case isFalse => cases h
      rename_i hob
      have up : ∀ F G v F' G', zDx P O lo false o env F G v F' G' → zyE P O lo sl gb o env F G v F' G' := fun F G v F' G' q k' => by simp only [opS, hs]; rw [if_neg hv, if_pos hob]; exact q k'
      have hc := zCJ (sand := false) hN h
      have e : fpS P lo sl env o = (match zBk P lo false env o with | .none => .none | .rf b => .rf b | .wf b => .wf b | .rg => (match o.op with | .load .. => Fs.ro | _ => .rg) | .wg => .wg | _ => .bad) := by simp only [fpS, hs]; rw [if_neg hv]; cases zBk P lo false env o <;> rfl
      rw [e]
      cases hf : zBk P lo false env o with
      | none => rw [hf] at hc; obtain ⟨v, q⟩ := hc; exact ⟨v, fun F2 G2 => up _ _ _ _ _ (q F2 G2)⟩
      | rf b => rw [hf] at hc; obtain ⟨v, q⟩ := hc; exact ⟨v, fun F2 G2 e => up _ _ _ _ _ (q F2 G2 e)⟩
      | wf b => rw [hf] at hc; obtain ⟨v, cs, hb, q⟩ := hc; exact ⟨v, cs, hb, fun F2 G2 e => up _ _ _ _ _ (q F2 G2 e)⟩
      | wg => rw [hf] at hc; obtain ⟨v, G', q⟩ := hc; exact ⟨v, G', fun F2 => up _ _ _ _ _ (q F2)⟩
      | nf => trivial
      | bad => trivial
      | rg =>
        unfold zBk at hf
        cases ho : o.op with
        | load t x =>
          show ∃ v, ∀ F2 G2, G2.take gb = G.take gb → zyE P O lo sl gb o env F2 G2 v F2 G2
          rw [ho] at hf
          simp only at hf
          split at hf
          · cases hf
          · rename_i p hx
            obtain ⟨v, q⟩ := zGG ho hx h
            refine ⟨v, fun F2 G2 e => up _ _ _ _ _ ?_⟩
            cases p with
            | none => simp only [opC, ho, hx, zdh] at h; cases h
            | some a =>
              have hb : a.b < gb := by
                rw [ho] at hob
                simp only [zDj, hx] at hob
                exact Nat.le_of_ble_eq_true hob
              intro k'
              have h0 := q F2 [] k'
              rw [List.append_nil] at h0
              simp only [opC, ho, hx] at h0 ⊢
              rw [zu8 (zCa e hb)]
              have h1 : zdh P t (.ptr (some a)) F2 G2 (fun v => k' v F2 G2) = zdh P t (.ptr (some a)) F2 G (fun v => k' v F2 G2) := zu8 (zCa e hb)
              have h2 := q F2 [] (fun v _ _ => k' v F2 G2)
              rw [List.append_nil] at h2
              simp only [opC, ho, hx] at h2
              exact h2
          · cases hf
        | slice t x l hh mx =>
          show ∃ v, ∀ F2 N, zyE P O lo sl gb o env F2 (G ++ N) v F2 (G ++ N)
          obtain ⟨v, q⟩ := zEz ho h
          exact ⟨v, fun F2 N => up _ _ _ _ _ (q F2 N)⟩
        | store t x y => rw [ho] at hf; simp only at hf; split at hf <;> cases hf
        | alloc t => rw [ho] at hf; simp only at hf; split at hf <;> cases hf
        | box t x => rw [ho] at hf; simp only at hf; split at hf <;> cases hf
        | convert s d x => rw [ho] at hf; simp only at hf; split at hf <;> cases hf
        | call c =>
          rw [ho] at hf
          cases hcc : c.callee with
          | value f => simp [hcc] at hf
          | builtin b => cases b <;> simp [hcc] at hf
          | invoke x n => simp [hcc] at hf
        | _ => rw [ho] at hf; simp at hf
theorem zf5 (o : Oper) (os : List Oper) (env : List IV) (F : List (List IV)) (G : GH) (k : List IV → List (List IV) → GH → Option R) :
    zzx P O lo sl gb all (o :: os) env F G k = match zcZ all o env with
      | some true => opS P O lo sl gb o env F G fun v F G => zzx P O lo sl gb all os (zg9 env o.dst v) F G k
      | some false => zzx P O lo sl gb all os (zg9 env o.dst za) F G k
      | none => none := rfl
def zi4 (P : Program) (O : Ora R) (lo : List Nat) (sl : Oper → Option Nat) (gb : Nat) (all : Array Oper) (os : List Oper) (env : List IV) (F : List (List IV)) (G : GH) (env' : List IV) (F' : List (List IV)) (G' : GH) : Prop :=
  ∀ k : List IV → List (List IV) → GH → Option R, zzx P O lo sl gb all os env F G k = k env' F' G'
theorem HRel.setF {B K : Nat → Prop} {w0 : World} {m : Map} {F : List (List IV)} {G : GH} {w : World} (h : HRel P B K w0 m F G w) {w' : World} {c : Array Value} {t : TypeId} (hg : Grown w w' c t (0, 0)) {cells : List IV} (hc : zgq m cells c) {s : Nat} (hs : F[s]? = some zFx) :
    m.le (m.addF s w.heap.size) ∧ HRel P B K w0 (m.addF s w.heap.size) (F.set s cells) G w' := by
  have hf0 : m.f s = none := by
    cases hm : m.f s with
    | none => rfl
    | some b =>
      exfalso
      obtain ⟨c', t', hf⟩ := h.fblk s _ b hs hm
      obtain ⟨v, _, hv⟩ := hf.cells 0 (.slice none 1) rfl
      cases hv
  have hlt : s < F.length := (List.getElem?_eq_some_iff.1 hs).1
  have hle : m.le (m.addF s w.heap.size) := Map.le_addF hf0
  refine ⟨hle, ?_⟩
  have h' := h.grow hg.below
  have hfm : ∀ i b, (m.addF s w.heap.size).f i = some b → (i = s ∧ b = w.heap.size) ∨ (i ≠ s ∧ m.f i = some b) := by
    intro b e he
    simp only [Map.addF] at he
    split at he
    · rename_i hb; injection he with he; exact .inl ⟨hb, he.symm⟩
    · rename_i hb; exact .inr ⟨hb, he⟩
  have hget : ∀ b, b ≠ s → (F.set s cells)[b]? = F[b]? := fun b hb => List.getElem?_set_ne (Ne.symm hb)
  have hget' : (F.set s cells)[s]? = some cells := by simp [hlt]
  have hold : ∀ i r, m.f i = some r → r < w.heap.size := fun i r hr => by
    have hi : i < F.length := h.fdom _ _ hr
    obtain ⟨c', t', hf⟩ := h.fblk i F[i] r (List.getElem?_eq_getElem hi) hr
    exact zbK hf.row
  refine { bk := h.bk, frame := h'.frame, os := h'.os, tape := h'.tape, output := h'.output, size := h'.size, gdom := h.gdom, fdom := ?_, gblk := ?_, fblk := ?_, ginj := h.ginj, gf := ?_, finj := ?_ }
  · intro b e he
    rw [List.length_set]
    rcases hfm b e he with ⟨rfl, _⟩ | ⟨_, hb⟩
    · exact hlt
    · exact h.fdom _ _ hb
  · intro b k e hk hm he
    obtain ⟨c', t', fr', hgb⟩ := h'.gblk b k e hk hm he
    exact ⟨c', t', fr', { hgb with cells := fun i iv hi => by obtain ⟨v, h1, h2, h3⟩ := hgb.cells i iv hi; exact ⟨v, h1, h2.mono (Map.noF_mono hle), h3⟩ }⟩
  · intro i cs b hi hb
    rcases hfm i b hb with ⟨rfl, rfl⟩ | ⟨hi', hb'⟩
    · rw [hget'] at hi
      injection hi with hi
      subst hi
      refine ⟨c, t, { row := hg.row, size := hc.1.symm, cells := fun i iv hi => ?_, own := fun hK => ?_ }⟩
      · obtain ⟨v, h1, h2⟩ := hc.get hi
        exact ⟨v, h1, h2.mono hle⟩
      · have := (h.frame _ hK).1
        have := h.size
        omega
    · rw [hget i hi'] at hi
      obtain ⟨c', t', hf⟩ := h'.fblk i cs b hi hb'
      exact ⟨c', t', { hf with cells := fun j iv hj => by obtain ⟨v, h1, h2⟩ := hf.cells j iv hj; exact ⟨v, h1, h2.mono hle⟩ }⟩
  · intro b i k e r h1 h2 g1 hr
    rcases hfm i r hr with ⟨rfl, rfl⟩ | ⟨hi', hr'⟩
    · obtain ⟨c', t', fr', hgb⟩ := h.gblk b k e h1 (by omega) g1
      have := zbK hgb.row
      omega
    · exact h.gf b i k e r h1 h2 g1 hr'
  · intro i j r s' hr hs' hne
    rcases hfm i r hr with ⟨rfl, rfl⟩ | ⟨hi', hr'⟩
    · rcases hfm j s' hs' with ⟨rfl, rfl⟩ | ⟨hj', hs''⟩
      · exact absurd rfl hne
      · have := hold j s' hs''; omega
    · rcases hfm j s' hs' with ⟨rfl, rfl⟩ | ⟨hj', hs''⟩
      · have := hold i r hr'; omega
      · exact h.finj i j r s' hr' hs'' hne
theorem HRel.holes {B K : Nat → Prop} {w0 : World} {m : Map} {F : List (List IV)} {G : GH} {w : World} (h : HRel P B K w0 m F G w) (X : List (List IV)) : HRel P B K w0 m (F ++ X) G w where
  bk := h.bk
  frame := h.frame
  os := h.os
  tape := h.tape
  output := h.output
  size := h.size
  gdom := h.gdom
  fdom := fun k b hb => by have := h.fdom k b hb; rw [List.length_append]; omega
  gblk := h.gblk
  fblk := fun i cs b hi hb => h.fblk i cs b (by rw [List.getElem?_append_left (h.fdom i b hb)] at hi; exact hi) hb
  ginj := h.ginj
  gf := h.gf
  finj := h.finj
theorem zFM (hO : zqa P O) {o : Oper} {F : List (List IV)} {G : GH} {k : IV → List (List IV) → GH → Option R} {r : R} (h : opS P O lo sl gb o env F G k = some r) :
    ∃ v F' G', k v F' G' = some r ∧ ∀ (B K : Nat → Prop) (w0 : World) (m : Map) (w : World) (a : Act), HRel P B K w0 m F G w → zbb m env a.tmps →
      zGj P o a w fun v' w' => ∃ m', m.le m' ∧ HRel P B K w0 m' F' G' w' ∧ VRel m' v v' := by
  unfold opS at h
  split at h
  · rename_i s hs
    split at h
    · rename_i t ho
      split at h
      · rename_i z hz
        unfold zkN at h
        split at h
        · rename_i hh
          refine ⟨_, _, _, h, fun B K w0 m w a hR hE next Q hn => ?_⟩
          obtain ⟨i, zv, h1, h2, h3⟩ := ze6 hz
          obtain ⟨p1, p2⟩ := hR.setF (zeS w zv.cells t) (zbL (zck h3)) (znu hh)
          refine zA (v' := .pointer (some ⟨w.heap.size, 0, none⟩)) (w' := zd2 w zv.cells t) ?_ next Q (hn _ _ ⟨_, p1, p2, .loc _ _ _ (by simp [Map.addF])⟩)
          simp only [execOp, ho]
          refine zcH ?_
          simp only [Instr.alloc, zeroValue, typeInfo, Sem.run_bind, run_program, Result.andThen_ok, h1, h2, Sem.run_pure, newVar, zcL]
        · cases h
      · cases h
    · rename_i t x ho
      split at h
      · rename_i z hz
        unfold zkN at h
        split at h
        · rename_i hh
          refine ⟨_, _, _, h, fun B K w0 m w a hR hE next Q hn => ?_⟩
          obtain ⟨p1, p2⟩ := hR.setF (zeS w (a.eval x).cells t) (zbL (zO hE hz)) (znu hh)
          refine zA (v' := .pointer (some ⟨w.heap.size, 0, none⟩)) (w' := zd2 w (a.eval x).cells t) ?_ next Q (hn _ _ ⟨_, p1, p2, .loc _ _ _ (by simp [Map.addF])⟩)
          simp only [execOp, ho]
          refine zcH ?_
          simp only [Instr.box, newVar, Sem.run_bind, zcL, Result.andThen_ok, Sem.run_pure]
        · cases h
      · cases h
    · cases h
  · split at h
    · split at h
      · obtain ⟨v, F', G', h1, h2⟩ := zzK hO h
        split at h1
        · exact ⟨v, F', G', h1, h2⟩
        · cases h1
      · cases h
    · split at h
      · exact zzK hO h
      · cases h
theorem ztp (hN : zrD O) {all : Array Oper} : ∀ {os : List Oper} {env : List IV} {F : List (List IV)} {G : GH} {k : List IV → List (List IV) → GH → Option R} {r : R}, zzx P O lo sl gb all os env F G k = some r →
    ∃ env' F' G', zi4 P O lo sl gb all os env F G env' F' G'
  | [], env, F, G, k, r, h => ⟨env, F, G, fun k' => rfl⟩
  | o :: os, env, F, G, k, r, h => by
    rw [zf5] at h
    cases hw : zcZ all o env with
    | none => rw [hw] at h; cases h
    | some b =>
      rw [hw] at h
      cases b
      · obtain ⟨env', F', G', h1⟩ := ztp hN h
        exact ⟨env', F', G', fun k' => by rw [zf5, hw]; exact h1 k'⟩
      · obtain ⟨v, F1, G1, h1⟩ := zzn hN h
        rw [h1] at h
        obtain ⟨env', F', G', h2⟩ := ztp hN h
        exact ⟨env', F', G', fun k' => by rw [zf5, hw]; simp only; rw [h1]; exact h2 k'⟩
def zdF (P : Program) (O : Ora R) (lo : List Nat) (sl : Oper → Option Nat) (gb : Nat) (all : Array Oper) (o : Oper) (env : List IV) (F : List (List IV)) (G : GH) (v : IV) (F' : List (List IV)) (G' : GH) : Prop :=
  (zcZ all o env = some true ∧ zyE P O lo sl gb o env F G v F' G') ∨ (zcZ all o env = some false ∧ v = za ∧ F' = F ∧ G' = G)
theorem zdF.eq {o : Oper} {env : List IV} {F F' : List (List IV)} {G G' : GH} {v : IV} (h : zdF P O lo sl gb all o env F G v F' G') (os : List Oper) (k : List IV → List (List IV) → GH → Option R) :
    zzx P O lo sl gb all (o :: os) env F G k = zzx P O lo sl gb all os (zg9 env o.dst v) F' G' k := by
  rcases h with ⟨hw, h⟩ | ⟨hw, rfl, rfl, rfl⟩
  · rw [zf5, hw]; simp only; rw [h]
  · rw [zf5, hw]
theorem ztK {o : Oper} {env : List IV} {F F' : List (List IV)} {G G' : GH} {v : IV} (hw : zcZ all o env = some true) (h : zyE P O lo sl gb o env F G v F' G') : zdF P O lo sl gb all o env F G v F' G' := .inl ⟨hw, h⟩
theorem zqP {o : Oper} {env : List IV} (hw : zcZ all o env = some false) (F : List (List IV)) (G : GH) : zdF P O lo sl gb all o env F G za F G := .inr ⟨hw, rfl, rfl, rfl⟩
theorem zx4 (hN : zrD O) {o : Oper} {os : List Oper} {env : List IV} {F : List (List IV)} {G : GH} {k : List IV → List (List IV) → GH → Option R} {r : R} (h : zzx P O lo sl gb all (o :: os) env F G k = some r) :
    ∃ v F' G', zdF P O lo sl gb all o env F G v F' G' := by
  rw [zf5] at h
  cases hw : zcZ all o env with
  | none => rw [hw] at h; cases h
  | some b =>
    rw [hw] at h
    cases b
    · exact ⟨_, _, _, zqP hw F G⟩
    · obtain ⟨v, F1, G1, h1⟩ := zzn hN h
      exact ⟨v, F1, G1, ztK hw h1⟩
theorem zxb (hN : zrD O) {o : Oper} {os : List Oper} {env : List IV} {F : List (List IV)} {G : GH} {k : List IV → List (List IV) → GH → Option R} {r : R} (h : zzx P O lo sl gb all (o :: os) env F G k = some r) :
    zEF gb (zdF P O lo sl gb all o env) F G (zvu P lo sl all env o) := by
  rw [zf5] at h
  unfold zvu
  cases hw : zcZ all o env with
  | none => rw [hw] at h; cases h
  | some b =>
    rw [hw] at h
    cases b
    · exact ⟨za, fun F2 G2 => zqP hw F2 G2⟩
    · exact (zGB hN h).mono fun F G v F' G' q => ztK hw q
theorem zz5 {o : Oper} {env env2 : List IV} (h : ∀ t, t ∈ zcu all o → env[t]? = env2[t]?) : zvu P lo sl all env o = zvu P lo sl all env2 o := by
  unfold zvu
  rw [zwP h]
  unfold fpS
  rw [zAa h]
theorem ztE {o : Oper} {env env2 : List IV} (h : ∀ t, t ∈ o.looksAt all → env[t]? = env2[t]?) {F F' : List (List IV)} {G G' : GH} {v : IV} (hs : zdF P O lo sl gb all o env F G v F' G') :
    zdF P O lo sl gb all o env2 F G v F' G' := by
  have hop : ∀ t, Operand.tmp t ∈ o.op.operands → env[t]? = env2[t]? := fun t ht => h t (by
    unfold Oper.looksAt
    refine List.mem_append.2 (.inl (List.mem_filterMap.2 ⟨.tmp t, by simpa using ht, rfl⟩)))
  have hw : zcZ all o env = zcZ all o env2 := by
    unfold zcZ
    cases hg : o.guard with
    | none => rfl
    | some jw =>
      obtain ⟨j, want⟩ := jw
      simp only
      cases hd : (all[j]?).bind (·.dst) with
      | none => rfl
      | some d =>
        simp only
        rw [h d (by simp [Oper.looksAt, hg, hd])]
  rcases hs with ⟨h1, h2⟩ | ⟨h1, h2⟩
  · exact .inl ⟨hw ▸ h1, fun k => by rw [← zGy hop]; exact h2 k⟩
  · exact .inr ⟨hw ▸ h1, h2⟩
theorem ztP (hN : zrD O) (r : R) {d : Nat} : ∀ {os : List Oper} {env E : List IV} {F F' : List (List IV)} {G G' : GH}, zi4 P O lo sl gb all os env F G E F' G' → (∀ o ∈ os, o.dst ≠ some d) → E[d]? = env[d]?
  | [], env, E, F, F', G, G', h, _ => by
    classical
    have := h fun e _ _ => if e[d]? = env[d]? then some r else none
    simp only [zzx, if_true] at this
    by_cases hc : E[d]? = env[d]?
    · exact hc
    · rw [if_neg hc] at this; cases this
  | o :: os, env, E, F, F', G, G', h, hd => by
    obtain ⟨v, F1, G1, h1⟩ := zx4 hN (h fun _ _ _ => some r)
    have h2 : zi4 P O lo sl gb all os (zg9 env o.dst v) F1 G1 E F' G' := fun k => by rw [← h1.eq]; exact h k
    rw [ztP hN r h2 fun o ho => hd o (by simp [ho])]
    exact zha fun d' hd' => fun e => hd o (by simp) (by rw [hd', e])
theorem zCH (hN : zrD O) (r : R) {x y : Oper} {rest : List Oper} {env E : List IV} {F F' : List (List IV)} {G G' : GH} (H : zi4 P O lo sl gb all (x :: y :: rest) env F G E F' G')
    (hap : x.apart all y = true) (hp : zDs (zvu P lo sl all E x) (zvu P lo sl all E y) = true) (hxs : zhZ all x = true) (hys : zhZ all y = true) (hxl : ∀ z ∈ y :: rest, zeO all x z = true) (hyl : ∀ z ∈ rest, zeO all y z = true) :
    zi4 P O lo sl gb all (y :: x :: rest) env F G E F' G' := by
  obtain ⟨a1, a2, a3⟩ := Oper.apart_spec hap
  have Hs := H fun _ _ _ => some r
  have kx : ∀ t, t ∈ zcu all x → env[t]? = E[t]? := fun t ht => (ztP hN r H fun o ho => by
    rcases List.mem_cons.1 ho with rfl | ho
    · exact zoG hxs t ht
    · exact (zjw (hxl o ho)).1 t ht).symm
  have ky : ∀ t, t ∈ zcu all y → env[t]? = E[t]? := fun t ht => (ztP hN r H fun o ho => by
    rcases List.mem_cons.1 ho with rfl | ho
    · exact fun e => a1 t e (ze4 ht)
    · rcases List.mem_cons.1 ho with rfl | ho
      · exact zoG hys t ht
      · exact (zjw (hyl o ho)).1 t ht).symm
  have cx := zxb hN Hs
  rw [zz5 kx] at cx
  have yenv : ∀ v t, t ∈ y.looksAt all → (zg9 env x.dst v)[t]? = env[t]? := fun v t ht => zha fun d hd e => a1 d hd (e ▸ ht)
  have xenv : ∀ v t, t ∈ x.looksAt all → env[t]? = (zg9 env y.dst v)[t]? := fun v t ht => (zha fun d hd e => a3 d hd (e ▸ ht)).symm
  have after : ∀ {v1 F1 G1}, zdF P O lo sl gb all x env F G v1 F1 G1 → zi4 P O lo sl gb all (y :: rest) (zg9 env x.dst v1) F1 G1 E F' G' := fun h k => by rw [← h.eq]; exact H k
  have cy : ∀ v1 F1 G1, zdF P O lo sl gb all x env F G v1 F1 G1 → zEF gb (zdF P O lo sl gb all y env) F1 G1 (zvu P lo sl all E y) := fun v1 F1 G1 h1 => by
    have h2 := zxb hN (after h1 fun _ _ _ => some r)
    have he : zvu P lo sl all (zg9 env x.dst v1) y = zvu P lo sl all E y := zz5 fun t ht => by rw [yenv v1 t (ze4 ht), ky t ht]
    rw [he] at h2
    exact h2.mono fun _ _ _ _ _ q => ztE (yenv v1) q
  obtain ⟨v1, F1, G1, v2, F2, G2, Fa, Ga, s1, s2, s3, s4⟩ := zH6 cx cy hp
  intro k
  have t2 : zdF P O lo sl gb all y (zg9 env x.dst v1) F1 G1 v2 F2 G2 := ztE (fun t ht => (yenv v1 t ht).symm) s2
  have t4 : zdF P O lo sl gb all x (zg9 env y.dst v2) Fa Ga v1 F2 G2 := ztE (xenv v2) s4
  rw [s3.eq, t4.eq, ← zxJ fun d hd => a2 d hd, ← t2.eq, ← s1.eq]
  exact H k
theorem zvb (hN : zrD O) (r : R) {y : Oper} {post : List Oper} {E : List IV} {F' : List (List IV)} {G' : GH} : ∀ {pre : List Oper} {env : List IV} {F : List (List IV)} {G : GH}, zi4 P O lo sl gb all (pre ++ y :: post) env F G E F' G' →
    (∀ x ∈ pre, x.apart all y = true ∧ zDs (zvu P lo sl all E x) (zvu P lo sl all E y) = true) → (pre ++ y :: post).Pairwise (fun x z => zeO all x z = true) → (∀ x ∈ pre ++ y :: post, zhZ all x = true) →
    zi4 P O lo sl gb all (y :: (pre ++ post)) env F G E F' G'
  | [], env, F, G, H, _, _, _ => H
  | x :: pre, env, F, G, H, hx, hl, hs => by
    obtain ⟨v, F1, G1, h1⟩ := zx4 hN (H fun _ _ _ => some r)
    have hl2 := List.pairwise_cons.1 hl
    have h2 : zi4 P O lo sl gb all (pre ++ y :: post) (zg9 env x.dst v) F1 G1 E F' G' := fun k => by rw [← h1.eq]; exact H k
    have h3 := zvb hN r h2 (fun z hz => hx z (by simp [hz])) hl2.2 (fun z hz => hs z (by simp only [List.cons_append, List.mem_cons]; exact .inr hz))
    have h4 : zi4 P O lo sl gb all (x :: y :: (pre ++ post)) env F G E F' G' := fun k => by rw [h1.eq]; exact h3 k
    obtain ⟨p1, p2⟩ := hx x (by simp)
    refine zCH hN r h4 p1 p2 (hs x (by simp)) (hs y (by simp)) (fun z hz => hl2.1 z ?_) (fun z hz => ?_)
    · rcases List.mem_cons.1 hz with h | h
      · exact List.mem_append.2 (.inr (List.mem_cons.2 (.inl h)))
      · rcases List.mem_append.1 h with h | h
        · exact List.mem_append.2 (.inl h)
        · exact List.mem_append.2 (.inr (List.mem_cons.2 (.inr h)))
    · rcases List.mem_append.1 hz with h | h
      · obtain ⟨q, _⟩ := hx z (by simp [h])
        obtain ⟨b1, b2, b3⟩ := Oper.apart_spec q
        unfold zeO
        cases hd : z.dst with
        | none => rfl
        | some d =>
          simp only [Bool.and_eq_true, Bool.not_eq_true', List.contains_eq_mem, decide_eq_false_iff_not]
          refine ⟨fun hm => b1 d hd (ze4 hm), ?_⟩
          have := b2 d hd
          simp [this]
      · have := (List.pairwise_append.1 hl2.2).2.1
        exact (List.pairwise_cons.1 this).1 z h
end
structure DrawN (P : Program) (lo : List Nat) (sl : Oper → Option Nat) (ops : Array Oper) (E : List IV) : Prop where
  self : ∀ (j : Nat) (y : Oper), ops[j]? = some y → zhZ ops y = true
  edge : ∀ (j : Nat) (y : Oper), ops[j]? = some y → ∀ e ∈ y.after, Region.binds .any e = true → e.on < j
  late : ∀ (i j : Nat) (x y : Oper), ops[i]? = some x → ops[j]? = some y → i < j → zeO ops x y = true
  pair : ∀ (i j : Nat) (x y : Oper), ops[i]? = some x → ops[j]? = some y → i < j → ((zun ops.toList []).getD j 0).testBit i = false → x.apart ops y = true ∧ zDs (zvu P lo sl ops E x) (zvu P lo sl ops E y) = true
theorem zAz {P : Program} {lo : List Nat} {sl : Oper → Option Nat} {gb : Nat} {ops : Array Oper} {E : List IV} (h : zEH P lo sl ops E = true) : DrawN P lo sl ops E := by
  unfold zEH at h
  have H : ∀ (j : Nat) (y : Oper), ops[j]? = some y → (zhZ ops y = true ∧ y.after.toList.all (fun e => !Region.binds .any e || decide (e.on < j)) = true) ∧ (List.range j).all (fun i => match ops[i]? with
        | none => true
        | some x => zeO ops x y && (((zun ops.toList []).getD j 0).testBit i || (x.apart ops y && zDs (zvu P lo sl ops E x) (zvu P lo sl ops E y)))) = true := fun j y hy => by
    have := List.all_eq_true.1 h j (List.mem_range.2 (Array.getElem?_eq_some_iff.1 hy).1)
    simp only [hy, Bool.and_eq_true] at this
    exact this
  have H2 : ∀ (i j : Nat) (x y : Oper), ops[i]? = some x → ops[j]? = some y → i < j → zeO ops x y = true ∧ (((zun ops.toList []).getD j 0).testBit i = true ∨ (x.apart ops y = true ∧ zDs (zvu P lo sl ops E x) (zvu P lo sl ops E y) = true)) := fun i j x y hx hy hij => by
    have := List.all_eq_true.1 (H j y hy).2 i (List.mem_range.2 hij)
    simp only [hx, Bool.and_eq_true, Bool.or_eq_true] at this
    exact this
  refine ⟨fun j y hy => (H j y hy).1.1, fun j y hy e he hb => ?_, fun i j x y hx hy hij => (H2 i j x y hx hy hij).1, fun i j x y hx hy hij hn => ?_⟩
  · have := List.all_eq_true.1 (H j y hy).1.2 e (by simpa using he)
    simpa [hb] using this
  · rcases (H2 i j x y hx hy hij).2 with h | h
    · rw [hn] at h; cases h
    · exact h
section
variable {R : Type} {P : Program} {O : Ora R} {lo : List Nat} {sl : Oper → Option Nat} {gb : Nat} {ops : Array Oper} {E : List IV} {F' : List (List IV)} {G' : GH} {B K : Nat → Prop} {w0 : World}
theorem zBx (r : R) {env : List IV} {F : List (List IV)} {G : GH} (h : zi4 P O lo sl gb ops [] env F G E F' G') : env = E ∧ F = F' ∧ G = G' := by
  classical
  have h' : ∀ k : List IV → List (List IV) → GH → Option R, k env F G = k E F' G' := h
  by_cases h1 : env = E ∧ F = F' ∧ G = G'
  · exact h1
  · have := h' fun e f g => if e = E ∧ f = F' ∧ g = G' then some r else none
    simp only [and_self, if_true] at this
    rw [if_neg h1] at this
    cases this
theorem zt8 (hO : zqa P O) (hN : zrD O) (r : R) (hD : DrawN P lo sl ops E) {Q : Exit → Act → World → Prop} : ∀ (n : Nat) (rem : List (Nat × Oper)) (listed : Array Bool) (a : Act) (w : World) (env : List IV) (F : List (List IV)) (G : GH) (m : Map),
    rem.length = n → Rest ops listed rem → zi4 P O lo sl gb ops (rem.map (·.2)) env F G E F' G' → HRel P B K w0 m F G w → zbb m env a.tmps → zmL P B K w0 m E F' G' a (Q .normal) →
    wpAny P .any ops Q n listed a w
  | 0, rem, listed, a, w, env, F, G, m, hn, hr, H, hR, hE, hQ => by
    have : rem = [] := List.length_eq_zero_iff.1 hn
    subst this
    obtain ⟨rfl, rfl, rfl⟩ := zBx r H
    refine ⟨List.eq_nil_iff_forall_not_mem.2 fun i hi => ?_, hQ m w a m.le_refl hR hE rfl⟩
    obtain ⟨h1, o, h2, _⟩ := mem_ready.1 hi
    have := hr.all i o h2 h1
    cases this
  | n + 1, rem, listed, a, w, env, F, G, m, hn, hr, H, hR, hE, hQ => by
    refine ⟨fun h0 => ?_, fun i hi => ?_⟩
    · exfalso
      cases rem with
      | nil => simp at hn
      | cons p rem =>
        have hp := hr.at_ p (by simp)
        have hin : p.1 ∈ Region.ready .any ops listed := mem_ready.2 ⟨hr.un p (by simp), p.2, hp, fun e he hb => by
          have hlt := hD.edge _ _ hp e he hb
          have hpz := (Array.getElem?_eq_some_iff.1 hp).1
          cases hl : listed.getD e.on false with
          | true => rfl
          | false =>
            have h1 := hr.all e.on ops[e.on] (Array.getElem?_eq_getElem (by omega)) (zCz (by rw [hr.size]; omega) hl)
            rcases List.mem_cons.1 h1 with h1 | h1
            · rw [← h1] at hlt; simp at hlt
            · have := (List.pairwise_cons.1 hr.sorted).1 _ h1
              simp at this; omega⟩
        rw [h0] at hin
        cases hin
    · obtain ⟨hun, o, hio, hedges⟩ := mem_ready.1 hi
      obtain ⟨pre, post, hsplit⟩ := List.append_of_mem (hr.all i o hio hun)
      have hsort := hr.sorted
      rw [hsplit] at hsort
      have hanc : ∀ j, ((zun ops.toList []).getD i 0).testBit j = true → listed.getD j false = true := fun j hb => by
        obtain ⟨o', h1, e, he, hbd, h2⟩ := zzJ hb
        rw [hio] at h1
        injection h1 with h1
        subst h1
        rcases h2 with h2 | h2
        · rw [← h2]; exact hedges e he hbd
        · exact hr.down e.on (hedges e he hbd) j h2
      have H' : zi4 P O lo sl gb ops (o :: (pre ++ post).map (·.2)) env F G E F' G' := by
        rw [hsplit, List.map_append, List.map_cons] at H
        rw [List.map_append]
        refine zvb hN r H (fun x hx => ?_) ?_ (fun x hx => ?_)
        · obtain ⟨p, hp, rfl⟩ := List.mem_map.1 hx
          have hpr : p ∈ rem := by rw [hsplit]; exact List.mem_append.2 (.inl hp)
          have hlt : p.1 < i := (List.pairwise_append.1 hsort).2.2 p hp (i, o) (by simp)
          refine hD.pair p.1 i p.2 o (hr.at_ p hpr) hio hlt ?_
          cases hb : ((zun ops.toList []).getD i 0).testBit p.1 with
          | false => rfl
          | true =>
            have h1 := hanc _ hb
            have h2 := getD_both (hr.un p hpr)
            rw [h1] at h2
            cases h2
        · rw [show pre.map (·.2) ++ o :: post.map (·.2) = (pre ++ (i, o) :: post).map (·.2) by simp, List.pairwise_map, ← hsplit]
          exact hr.sorted.imp_of_mem fun {p q} hp hq h => hD.late _ _ _ _ (hr.at_ p hp) (hr.at_ q hq) h
        · rw [show pre.map (·.2) ++ o :: post.map (·.2) = (pre ++ (i, o) :: post).map (·.2) by simp, ← hsplit] at hx
          obtain ⟨p, hp, rfl⟩ := List.mem_map.1 hx
          exact hD.self _ _ (hr.at_ p hp)
      have hi_size : i < listed.size := by rw [hr.size]; exact (Array.getElem?_eq_some_iff.1 hio).1
      have hmem : ∀ p ∈ pre ++ post, p ∈ rem ∧ p.1 ≠ i := fun p hp => by
        rw [hsplit]
        rcases List.mem_append.1 hp with h | h
        · exact ⟨List.mem_append.2 (.inl h), fun e => by
            have : p.1 < i := (List.pairwise_append.1 hsort).2.2 p h (i, o) (by simp)
            omega⟩
        · exact ⟨List.mem_append.2 (.inr (List.mem_cons.2 (.inr h))), fun e => by
            have : i < p.1 := (List.pairwise_cons.1 (List.pairwise_append.1 hsort).2.1).1 p h
            omega⟩
      have hr' : Rest ops (listed.setIfInBounds i true) (pre ++ post) := by
        refine ⟨fun p hp => hr.at_ p (hmem p hp).1, ?_, fun j oj hj hu => ?_, fun p hp => ?_, by simp [hr.size], fun j hj k hk => ?_⟩
        · refine hsort.sublist ?_
          exact List.Sublist.append_left (List.sublist_cons_self _ _) pre
        · by_cases hji : i = j
          · subst hji; simp [hi_size] at hu
          · rw [getD_set_ne true hji] at hu
            have := hr.all j oj hj hu
            rw [hsplit] at this
            rcases List.mem_append.1 this with h | h
            · exact List.mem_append.2 (.inl h)
            · rcases List.mem_cons.1 h with h | h
              · injection h with h; exact absurd h.symm hji
              · exact List.mem_append.2 (.inr h)
        · rw [getD_set_ne true (Ne.symm (hmem p hp).2)]
          exact hr.un p (hmem p hp).1
        · refine getD_set_true ?_
          by_cases hji : i = j
          · subst hji; exact hanc k hk
          · rw [getD_set_ne false hji] at hj
            exact hr.down j hj k hk
      have hlen : (pre ++ post).length = n := by
        rw [hsplit] at hn; simp at hn ⊢; omega
      unfold wpOp
      rw [hio]
      simp only
      have h0 := H' fun _ _ _ => some r
      rw [zf5] at h0
      cases hw : zcZ ops o env with
      | none => rw [hw] at h0; cases h0
      | some b =>
        have hwant := zr8 hw hE
        rw [hw] at h0
        cases b
        · rw [hwant]
          simp only [Bool.false_eq_true, if_false]
          have hs : zdF P O lo sl gb ops o env F G za F G := zqP hw F G
          exact zt8 hO hN r hD n (pre ++ post) _ _ w _ F G m hlen hr' (fun k => by rw [← hs.eq]; exact H' k) hR (hE.put (VRel.undef m) o.dst) fun m2 w2 a2 l q e d => hQ m2 w2 a2 l q e (d.trans (zcD a _ _))
        · rw [hwant]
          simp only [if_true]
          simp only at h0
          obtain ⟨v, F1, G1, h1⟩ := zzn hN h0
          have hs : zdF P O lo sl gb ops o env F G v F1 G1 := ztK hw h1
          classical
          have h2 : opS P O lo sl gb o env F G (fun v' f g => if v' = v ∧ f = F1 ∧ g = G1 then some r else none) = some r := by rw [h1]; simp
          obtain ⟨v', F1', G1', h3, h4⟩ := zFM hO h2
          split at h3
          · rename_i he
            obtain ⟨rfl, rfl, rfl⟩ := he
            refine .inl (h4 B K w0 m w a hR hE _ Q fun u w' ⟨m', q1, q2, q3⟩ => ?_)
            exact zt8 hO hN r hD n (pre ++ post) _ _ w' _ F1' G1' m' hlen hr' (fun k => by rw [← hs.eq]; exact H' k) q2 ((hE.mono q1).put q3 o.dst) fun m2 w2 a2 l q e d =>
              hQ m2 w2 a2 (Map.le_trans q1 l) q e (d.trans (zcD a _ _))
          · cases h3
theorem zx9 (hm : P.follows .mixedOrders = true) (hO : zqa P O) (hN : zrD O) {id : Nat} {env : List IV} {F X : List (List IV)} {G : GH} {k : List IV → List (List IV) → GH → Option R} {r : R}
    (h : zzx P O lo sl gb ops ops.toList env (F ++ X) G (fun env F G => if zEH P lo sl ops env = true then k env F G else none) = some r) :
    ∃ env' F' G', k env' F' G' = some r ∧ ∀ (B K : Nat → Prop) (w0 : World) (m : Map) (w : World) (a : Act) (Q : Exit → Act → World → Prop), HRel P B K w0 m F G w → zbb m env a.tmps →
      zmL P B K w0 m env' F' G' a (Q .normal) → (Code.region id ops true).wp P Q a w := by
  obtain ⟨E, F', G', h1⟩ := ztp hN h
  rw [h1] at h
  split at h
  · rename_i hD
    refine ⟨E, F', G', h, fun B K w0 m w a Q hR hE hQ => wp_region_any hm ?_⟩
    refine zt8 hO hN r (zAz (gb := gb) hD) ops.size _ _ a _ env (F ++ X) G m ?_ zve (by rw [zpg]; exact h1) ((hR.grow (zct w _)).holes X) hE hQ
    have := congrArg List.length (zpg (ops := ops))
    simpa using this
  · cases h
end
end Go.LI
namespace Go.LI
open Go Go.RowKit
section
variable {R : Type} {P : Program} {O : Ora R} {lo : List Nat}
theorem zAD {t : TypeId} {x v : IV} {F : List (List IV)} {G : GH} {k : List (List IV) → GH → Option R} {r : R} (h : zf2 P t x v F G k = some r) : ∃ F' G', ∀ k' : List (List IV) → GH → Option R, zf2 P t x v F G k' = k' F' G' := by
  rw [zfX] at h
  cases hs : zf2 P t x v F G (fun F G => some (F, G)) with
  | none => rw [hs] at h; cases h
  | some p => exact ⟨p.1, p.2, fun k' => by rw [zfX, hs]; rfl⟩
theorem zBc (hN : zrD O) {fuel id : Nat} {ops : Array Oper} {draw : Bool} {env : List IV} {F : List (List IV)} {G : GH} {k : Ex → List IV → List (List IV) → GH → Option R} {r : R} (h : zN P O lo fuel (.region id ops draw) env F G k = some r) :
    ∃ env' F' G', ∀ k' : Ex → List IV → List (List IV) → GH → Option R, zN P O lo fuel (.region id ops draw) env F G k' = k' .normal env' F' G' := by
  simp only [zN] at h
  cases draw
  · simp only [Bool.false_eq_true, if_false] at h
    obtain ⟨env', F', G', h1⟩ := zjT hN h
    exact ⟨env', F', G', fun k' => by simp only [zN, Bool.false_eq_true, if_false]; exact h1 _⟩
  · simp only [if_true] at h
    by_cases hmk : lo.contains (zGo + id) = true
    · rw [if_pos hmk] at h
      obtain ⟨env1, F1, G1, h1⟩ := ztp hN h
      rw [h1] at h
      split at h
      · rename_i hD
        exact ⟨env1, F1, G1, fun k' => by
          simp only [zN, if_true]
          rw [if_pos hmk, h1, if_pos hD]⟩
      · cases h
    rw [if_neg hmk] at h
    split at h
    · rename_i hd
      obtain ⟨env1, F1, G1, h1⟩ := zjT hN h
      rw [h1] at h
      obtain ⟨env2, F2, G2, h2⟩ := zjT hN h
      exact ⟨env2, F2, G2, fun k' => by simp only [zN, if_true]; rw [if_neg hmk, if_pos hd, h1, h2]⟩
    · rename_i hd
      split at h
      · rename_i hs
        split at h
        · rename_i t x v ty pos after guard hop
          split at h
          · rename_i b i hx
            obtain ⟨env1, F1, G1, h1⟩ := zjT hN h
            rw [h1] at h
            split at h
            · rename_i b' i' v' hx1 hv1
              split at h
              · rename_i hbi
                obtain ⟨F2, G2, h2⟩ := zAD h
                rw [h2] at h
                obtain ⟨env3, F3, G3, h3⟩ := zjT hN h
                exact ⟨env3, F2, G2, fun k' => by
                  simp only [zN, if_true]
                  rw [if_neg hmk, if_neg hd, if_pos hs, hop]
                  simp only
                  rw [hx]
                  simp only
                  rw [h1, hx1, hv1]
                  simp only
                  rw [if_pos hbi, h2, h3]⟩
              · cases h
            · cases h
          · cases h
        · cases h
      · rename_i hs
        obtain ⟨env1, F1, G1, h1⟩ := zjT hN h
        rw [h1] at h
        split at h
        · rename_i hD
          exact ⟨env1, F1, G1, fun k' => by
            simp only [zN, if_true]
            rw [if_neg hmk, if_neg hd, if_neg hs, h1, if_pos hD]⟩
        · cases h
def zHu (P : Program) (O : Ora R) (lo : List Nat) (fuel : Nat) (c : Code) (env : List IV) (F : List (List IV)) (G : GH) : Prop :=
  ∃ e env' F' G', ∀ k : Ex → List IV → List (List IV) → GH → Option R, zN P O lo fuel c env F G k = k e env' F' G'
theorem zvv {n : Nat} {x : Option R} {r : R} (h : zi n x = some r) : ∃ m, n = m + 1 ∧ x = some r := by
  cases n with
  | zero => cases h
  | succ m => exact ⟨m, rfl, h⟩
theorem zdl (hN : zrD O) {fuel : Nat} : ∀ (c : Code) {env : List IV} {F : List (List IV)} {G : GH} {k : Ex → List IV → List (List IV) → GH → Option R} {r : R}, zN P O lo fuel c env F G k = some r → zHu P O lo fuel c env F G
  | .skip, env, F, G, k, r, h => ⟨.normal, env, F, G, fun k' => rfl⟩
  | .region id ops draw, env, F, G, k, r, h => by
    obtain ⟨env', F', G', h1⟩ := zBc hN h
    exact ⟨.normal, env', F', G', h1⟩
  | .seq x y, env, F, G, k, r, h => by
    simp only [zN] at h
    by_cases hc : zI3 x y = true
    · rw [if_pos hc] at h
      cases hmq : zAA lo (4 * zeq y + 2)
      · rw [hmq, cond_false] at h
        obtain ⟨n, rfl, h⟩ := zvv h
        obtain ⟨e, env1, F1, G1, h1⟩ := zdl hN x h
        rw [h1] at h
        cases e with
        | normal =>
          obtain ⟨e2, env2, F2, G2, h2⟩ := zdl hN y h
          exact ⟨e2, env2, F2, G2, fun k' => by simp only [zN]; rw [if_pos hc, hmq, cond_false]; simp only [zi]; rw [h1]; exact h2 k'⟩
        | exit id => exact ⟨.exit id, env1, F1, G1, fun k' => by simp only [zN]; rw [if_pos hc, hmq, cond_false]; simp only [zi]; rw [h1]⟩
        | ret => exact ⟨.ret, env1, F1, G1, fun k' => by simp only [zN]; rw [if_pos hc, hmq, cond_false]; simp only [zi]; rw [h1]⟩
      · rw [hmq, cond_true] at h
        obtain ⟨n, rfl, h⟩ := zvv h
        obtain ⟨e, env1, F1, G1, h1⟩ := zdl hN x h
        rw [h1] at h
        simp only [kpD] at h
        cases e with
        | normal =>
          obtain ⟨e2, env2, F2, G2, h2⟩ := zdl hN y h
          exact ⟨e2, env2, F2, G2, fun k' => by simp only [zN]; rw [if_pos hc, hmq, cond_true]; simp only [zi]; rw [h1]; simp only [kpD]; exact h2 k'⟩
        | exit id => exact ⟨.exit id, _, _, G1, fun k' => by simp only [zN]; rw [if_pos hc, hmq, cond_true]; simp only [zi]; rw [h1]; rfl⟩
        | ret => exact ⟨.ret, _, _, G1, fun k' => by simp only [zN]; rw [if_pos hc, hmq, cond_true]; simp only [zi]; rw [h1]; rfl⟩
    · rw [if_neg hc] at h
      obtain ⟨e, env1, F1, G1, h1⟩ := zdl hN x h
      rw [h1] at h
      cases e with
      | normal =>
        obtain ⟨e2, env2, F2, G2, h2⟩ := zdl hN y h
        exact ⟨e2, env2, F2, G2, fun k' => by simp only [zN]; rw [if_neg hc, h1]; exact h2 k'⟩
      | exit id => exact ⟨.exit id, env1, F1, G1, fun k' => by simp only [zN]; rw [if_neg hc, h1]⟩
      | ret => exact ⟨.ret, env1, F1, G1, fun k' => by simp only [zN]; rw [if_neg hc, h1]⟩
  | .cond c x y, env, F, G, k, r, h => by
    simp only [zN] at h
    split at h
    · rename_i t ht
      cases t
      · obtain ⟨e, env1, F1, G1, h1⟩ := zdl hN y h
        exact ⟨e, env1, F1, G1, fun k' => by simp only [zN]; rw [ht]; exact h1 k'⟩
      · obtain ⟨e, env1, F1, G1, h1⟩ := zdl hN x h
        exact ⟨e, env1, F1, G1, fun k' => by simp only [zN]; rw [ht]; exact h1 k'⟩
    · cases h
  | .block id c, env, F, G, k, r, h => by
    simp only [zN] at h
    obtain ⟨e, env1, F1, G1, h1⟩ := zdl hN c h
    cases e with
    | normal => exact ⟨.normal, env1, F1, G1, fun k' => by simp only [zN]; rw [h1]⟩
    | exit j =>
      by_cases hj : j = id
      · exact ⟨.normal, env1, F1, G1, fun k' => by simp only [zN]; rw [h1]; simp only; rw [if_pos hj]⟩
      · exact ⟨.exit j, env1, F1, G1, fun k' => by simp only [zN]; rw [h1]; simp only; rw [if_neg hj]⟩
    | ret => exact ⟨.ret, env1, F1, G1, fun k' => by simp only [zN]; rw [h1]⟩
  | .loop c, env, F, G, k, r, h => by
    simp only [zN] at h
    cases hmq : zAA lo (4 * zeq c)
    · rw [hmq, cond_false] at h
      have key : ∀ (n : Nat) {env : List IV} {F : List (List IV)} {G : GH}, zJ (fun env F G k => zN P O lo fuel c env F G k) n env F G k = some r →
          ∃ e env' F' G', ∀ k' : Ex → List IV → List (List IV) → GH → Option R, zJ (fun env F G k => zN P O lo fuel c env F G k) n env F G k' = k' e env' F' G' := by
        intro n
        induction n with
        | zero => intro env F G h; simp [zJ] at h
        | succ n ih =>
          intro env F G h
          simp only [zJ] at h
          obtain ⟨e, env1, F1, G1, h1⟩ := zdl hN c h
          rw [h1] at h
          cases e with
          | normal =>
            obtain ⟨e2, env2, F2, G2, h2⟩ := ih h
            exact ⟨e2, env2, F2, G2, fun k' => by simp only [zJ]; rw [h1]; exact h2 k'⟩
          | exit j => exact ⟨.exit j, env1, F1, G1, fun k' => by simp only [zJ]; rw [h1]⟩
          | ret => exact ⟨.ret, env1, F1, G1, fun k' => by simp only [zJ]; rw [h1]⟩
      obtain ⟨e, env1, F1, G1, h1⟩ := key fuel h
      exact ⟨e, env1, F1, G1, fun k' => by simp only [zN]; rw [hmq, cond_false]; exact h1 k'⟩
    · rw [hmq, cond_true] at h
      have key : ∀ (n : Nat) {env : List IV} {F : List (List IV)} {G : GH}, zJ (fun env F G k => zN P O lo fuel c env F G (kpD lo (4 * zeq c) F.length k)) n env F G k = some r →
          ∃ e env' F' G', ∀ k' : Ex → List IV → List (List IV) → GH → Option R, zJ (fun env F G k => zN P O lo fuel c env F G (kpD lo (4 * zeq c) F.length k)) n env F G k' = k' e env' F' G' := by
        intro n
        induction n with
        | zero => intro env F G h; simp [zJ] at h
        | succ n ih =>
          intro env F G h
          simp only [zJ] at h
          obtain ⟨e, env1, F1, G1, h1⟩ := zdl hN c h
          rw [h1] at h
          simp only [kpD] at h
          cases e with
          | normal =>
            obtain ⟨e2, env2, F2, G2, h2⟩ := ih h
            exact ⟨e2, env2, F2, G2, fun k' => by simp only [zJ]; rw [h1]; simp only [kpD]; exact h2 k'⟩
          | exit j => exact ⟨.exit j, _, _, G1, fun k' => by simp only [zJ]; rw [h1]; rfl⟩
          | ret => exact ⟨.ret, _, _, G1, fun k' => by simp only [zJ]; rw [h1]; rfl⟩
      obtain ⟨e, env1, F1, G1, h1⟩ := key fuel h
      exact ⟨e, env1, F1, G1, fun k' => by simp only [zN]; rw [hmq, cond_true]; exact h1 k'⟩
  | .exit id, env, F, G, k, r, h => ⟨.exit id, env, F, G, fun k' => rfl⟩
  | .ret, env, F, G, k, r, h => ⟨.ret, env, F, G, fun k' => rfl⟩
  | .rangeFunc _ _ _ _, env, F, G, k, r, h => by simp [zN] at h
  | .scope _, env, F, G, k, r, h => by simp [zN] at h
  | .label _, env, F, G, k, r, h => by simp [zN] at h
  | .goto _, env, F, G, k, r, h => by simp [zN] at h
  | .refuse _, env, F, G, k, r, h => by simp [zN] at h
theorem zwq {env : List IV} {F : List (List IV)} {G : GH} : ∀ {rs : List ResultVar} {k : List IV → Option R} {r : R}, zBG P env F G rs k = some r → ∃ vs, ∀ k' : List IV → Option R, zBG P env F G rs k' = k' vs
  | [], k, r, h => ⟨[], fun k' => rfl⟩
  | .tmp t :: rs, k, r, h => by
    simp only [zBG] at h
    split at h
    · rename_i v hv
      obtain ⟨vs, h1⟩ := zwq h
      exact ⟨v :: vs, fun k' => by simp only [zBG]; rw [hv]; exact h1 _⟩
    · cases h
  | .cell a t :: rs, k, r, h => by
    simp only [zBG] at h
    split at h
    · rename_i x hx
      rw [zce] at h
      cases hl : zdh P t x F G some with
      | none => rw [hl] at h; cases h
      | some v =>
        rw [hl] at h
        obtain ⟨vs, h1⟩ := zwq h
        exact ⟨v :: vs, fun k' => by simp only [zBG]; rw [hx]; simp only; rw [zce, hl]; exact h1 _⟩
    · cases h
theorem zz3 {fn : Func} {env : List IV} {F : List (List IV)} {G : GH} {k : IV → GH → Option R} {r : R} (h : zEx P fn env F G k = some r) : ∃ v, ∀ k' : IV → GH → Option R, zEx P fn env F G k' = k' v G := by
  unfold zEx at h
  obtain ⟨vs, h1⟩ := zwq h
  rw [h1] at h
  split at h
  · rename_i v
    split at h
    · rename_i hn
      exact ⟨v, fun k' => by unfold zEx; rw [h1]; simp only; rw [if_pos hn]⟩
    · cases h
  · rename_i hne
    split at h
    · rename_i hn
      refine ⟨.tuple vs, fun k' => ?_⟩
      unfold zEx
      rw [h1]
      split
      · rename_i v; exact absurd rfl (hne v)
      · rw [if_pos hn]
    · cases h
theorem zAw {fn : Func} {args : List IV} {G : GH} {k : IV → GH → Option R} {r : R} (h : ziA fn args G k = some r) : ∃ v, ∀ k' : IV → GH → Option R, ziA fn args G k' = k' v G := by
  have key : ∀ k' : IV → GH → Option R, ziA fn args G k' = (ziA fn args G fun v _ => some v).bind fun v => k' v G := by
    intro k'
    have ib : ∀ (c : Prop) [Decidable c] (x y : Option R) (x' y' : Option IV), x = x'.bind (fun v => k' v G) → y = y'.bind (fun v => k' v G) → (if c then x else y) = (if c then x' else y').bind (fun v => k' v G) := by
      intro c _ x y x' y' h1 h2
      split <;> assumption
    unfold ziA zwg
    repeat' first
      | rfl
      | refine ib _ _ _ _ _ ?_ ?_
      | split
  rw [key] at h
  cases hx : ziA fn args G fun v _ => some v with
  | none => rw [hx] at h; cases h
  | some v => exact ⟨v, fun k' => by rw [key, hx]; rfl⟩
theorem zzT (hN : zrD O) {fuel : Nat} {fn : Func} {args : List IV} {G : GH} {k : IV → GH → Option R} {r : R} (h : zf P O lo fuel fn args G k = some r) : ∃ v G', ∀ k' : IV → GH → Option R, zf P O lo fuel fn args G k' = k' v G' := by
  unfold zf at h
  split at h
  · rename_i hb
    obtain ⟨v, h1⟩ := zAw h
    exact ⟨v, G, fun k' => by unfold zf; rw [hb]; exact h1 k'⟩
  · rename_i c hc
    obtain ⟨e, env', F', G', h1⟩ := zdl hN c h
    rw [h1] at h
    cases e with
    | exit id => cases h
    | normal =>
      obtain ⟨v, h2⟩ := zz3 h
      exact ⟨v, G', fun k' => by unfold zf; rw [hc]; simp only; rw [h1]; exact h2 k'⟩
    | ret =>
      obtain ⟨v, h2⟩ := zz3 h
      exact ⟨v, G', fun k' => by unfold zf; rw [hc]; simp only; rw [h1]; exact h2 k'⟩
end
end Go.LI
namespace Go.LI
open Go Go.RowKit
section
variable {R : Type} {P : Program} {B K : Nat → Prop} {w0 : World} {m : Map} {G : GH} {w : World} {r : R} {fn : Func}
theorem zxU (h : fn.name = "math.Float64bits") (ho : fn.origin = "") : Extern.findNext fn = none ∧ Extern.find fn = some Extern.MathFloatBits.float64bits := by
  unfold Extern.findNext Extern.find
  rw [h, ho]
  exact ⟨by kernel_rfl, by kernel_rfl⟩
theorem zyp (h : fn.name = "math.Float64frombits") (ho : fn.origin = "") : Extern.findNext fn = none ∧ Extern.find fn = some Extern.MathFloatBits.float64frombits := by
  unfold Extern.findNext Extern.find
  rw [h, ho]
  exact ⟨by kernel_rfl, by kernel_rfl⟩
theorem zxs (h : fn.name = "math.Float32bits") (ho : fn.origin = "") : Extern.findNext fn = none ∧ Extern.find fn = some Extern.MathFloatBits.float32bits := by
  unfold Extern.findNext Extern.find
  rw [h, ho]
  exact ⟨by kernel_rfl, by kernel_rfl⟩
theorem zw6 (h : fn.name = "math.Float32frombits") (ho : fn.origin = "") : Extern.findNext fn = none ∧ Extern.find fn = some Extern.MathFloatBits.float32frombits := by
  unfold Extern.findNext Extern.find
  rw [h, ho]
  exact ⟨by kernel_rfl, by kernel_rfl⟩
theorem zAx (h : fn.name = "math/bits.Add64") (ho : fn.origin = "") : Extern.findNext fn = none ∧ Extern.find fn = some (fun args => do
    let (x, y, c) ← Extern.MathBitsCarry.three "Add64" args
    pure (Extern.MathBitsCarry.pair ((x + y + c) % Extern.MathBitsCarry.m64) ((x + y + c) / Extern.MathBitsCarry.m64))) := by
  unfold Extern.findNext Extern.find
  rw [h, ho]
  exact ⟨by kernel_rfl, by kernel_rfl⟩
theorem zAR (h : fn.name = "math/bits.Sub64") (ho : fn.origin = "") : Extern.findNext fn = none ∧ Extern.find fn = some (fun args => do
    let (x, y, b) ← Extern.MathBitsCarry.three "Sub64" args
    pure (Extern.MathBitsCarry.pair ((x + Extern.MathBitsCarry.m64 - y - b) % Extern.MathBitsCarry.m64) (if x < y + b then 1 else 0))) := by
  unfold Extern.findNext Extern.find
  rw [h, ho]
  exact ⟨by kernel_rfl, by kernel_rfl⟩
theorem zAC (h : fn.name = "math.archFloor") (ho : fn.origin = "") : Extern.findNext fn = none ∧ Extern.find fn = some (Extern.MathFloor.toIntegral "math.archFloor" .down) := by
  unfold Extern.findNext Extern.find
  rw [h, ho]
  exact ⟨by kernel_rfl, by kernel_rfl⟩
theorem zAP (h : fn.name = "internal/bytealg.IndexByteString") (ho : fn.origin = "") : Extern.findNext fn = none ∧ Extern.find fn = some Extern.BytealgIndexByte.indexByte := by
  unfold Extern.findNext Extern.find
  rw [h, ho]
  exact ⟨by kernel_rfl, by kernel_rfl⟩
theorem zyN (h : fn.name = "internal/bytealg.IndexByte") (ho : fn.origin = "") : Extern.findNext fn = none ∧ Extern.find fn = some Extern.BytealgIndexByte.indexByte := by
  unfold Extern.findNext Extern.find
  rw [h, ho]
  exact ⟨by kernel_rfl, by kernel_rfl⟩
theorem zBu (h : fn.name = "internal/bytealg.CountString") (ho : fn.origin = "") : Extern.findNext fn = none ∧ Extern.find fn = some Extern.BytealgCount.count := by
  unfold Extern.findNext Extern.find
  rw [h, ho]
  exact ⟨by kernel_rfl, by kernel_rfl⟩
theorem zBn {f : FuncId} {args' : Array Value} {e : Array Value → Sem Value} {v' : Value} (hf : P.funcs[f]? = some fn) (hn : (fn.name == "runtime.NumGoroutine") = false) (hb : fn.body = none)
    (hx : Extern.findNext fn = none ∧ Extern.find fn = some e) (hr : (e args').run P w = .ok v' w) : (callFunc f args').run P w = .ok (.value v') w := by
  have hn' : ¬ fn.name = "runtime.NumGoroutine" := by simpa using hn
  simp [callFunc, hf, hn', hb, hx.1, hx.2, hr]
theorem zC6 {a : IV} {args' : Array Value} (h : zgq m [a] args') : ∃ x, args' = #[x] ∧ VRel m a x := by
  obtain ⟨hs, hv⟩ := h
  obtain ⟨l⟩ := args'
  match l, hs with
  | [x], _ => exact ⟨x, rfl, hv 0 a x rfl rfl⟩
theorem zFm {a b : IV} {args' : Array Value} (h : zgq m [a, b] args') : ∃ x y, args' = #[x, y] ∧ VRel m a x ∧ VRel m b y := by
  obtain ⟨hs, hv⟩ := h
  obtain ⟨l⟩ := args'
  match l, hs with
  | [x, y], _ => exact ⟨x, y, rfl, hv 0 a x rfl rfl, hv 1 b y rfl rfl⟩
theorem zGT {a b c : IV} {args' : Array Value} (h : zgq m [a, b, c] args') : ∃ x y z, args' = #[x, y, z] ∧ VRel m a x ∧ VRel m b y ∧ VRel m c z := by
  obtain ⟨hs, hv⟩ := h
  obtain ⟨l⟩ := args'
  match l, hs with
  | [x, y, z], _ => exact ⟨x, y, z, rfl, hv 0 a x rfl rfl, hv 1 b y rfl rfl, hv 2 c z rfl rfl⟩
theorem zyq (m : Map) (a b : Int) : VRel m (.tuple [.int .u64 a, .int .u64 b]) (.tuple #[.int .u64 a, .int .u64 b]) := .tuple _ _ rfl fun i iv v h1 h2 => by
  match i with
  | 0 => simp at h1 h2; subst h1; subst h2; exact .int _ _
  | 1 => simp at h1 h2; subst h1; subst h2; exact .int _ _
  | i + 2 => simp at h1
def zHd (P : Program) (fn : Func) (args : List IV) (G : GH) (k : IV → GH → Option R) (r : R) : Prop :=
  ∃ v, k v G = some r ∧ zeN v = true ∧ ∃ e, (Extern.findNext fn = none ∧ Extern.find fn = some e) ∧ ∀ (m : Map) (w : World) (args' : Array Value), zgq m args args' → MemOk P m [] G w → ∃ v', (e args').run P w = .ok v' w ∧ VRel m v v'
theorem zwJ (name : String) (kx ky kc : IntKind) (x y c : Int) (hc : ¬ c.toNat > 1) (w : World) : (Extern.MathBitsCarry.three name #[.int kx x, .int ky y, .int kc c]).run P w = .ok (x.toNat, y.toNat, c.toNat) w := by
  have e : Extern.MathBitsCarry.three name #[.int kx x, .int ky y, .int kc c] = (if c.toNat > 1 then ((unsupported (.noEntry ("extern/math/bits." ++ name ++ ": a carry that is neither 0 nor 1")) : Sem PUnit) >>= fun _ => pure (x.toNat, y.toNat, c.toNat)) else pure (x.toNat, y.toNat, c.toNat)) := rfl
  rw [e, if_neg hc]
  rfl
def zHc (x : Nat) (d : Ieee.Datum) : Sem Value :=
  match d with
  | .nan s t =>
    if FloatKind.f64.format.quiet t = t then pure (.float .f64 x) else
      choose (.extern "math.Floor,Ceil,Trunc,RoundToEven.signallingNaN kept" 2) >>= fun kept => pure (.float .f64 (if kept == 1 then x else FloatKind.f64.encode (.nan s (FloatKind.f64.format.quiet t))))
  | d => pure (.float .f64 (FloatKind.f64.encode (d.integral .down)))
theorem zBY {x : Nat} (hd : ∀ s t, FloatKind.f64.decode x = .nan s t → False) (w : World) : (Extern.MathFloor.toIntegral "math.archFloor" .down #[.float .f64 x]).run P w = .ok (.float .f64 (FloatKind.f64.encode ((FloatKind.f64.decode x).integral .down))) w := by
  have e : Extern.MathFloor.toIntegral "math.archFloor" .down #[.float .f64 x] = zHc x (FloatKind.f64.decode x) := rfl
  rw [e]
  cases h : FloatKind.f64.decode x with
  | nan s t => exact (hd s t h).elim
  | number s m i => rfl
  | infinity s => rfl
theorem zyK (ho : fn.origin = "") {args : List IV} {k : IV → GH → Option R} (h : zwg fn args G k = some r) : zHd P fn args G k r := by
  unfold zwg at h
  split at h
  · rename_i hn
    split at h
    · rename_i a n c
      split at h
      · rename_i l hl
        refine ⟨_, h, rfl, _, zyN hn ho, fun m w args' hA hM => ?_⟩
        obtain ⟨x, y, rfl, hx, hy⟩ := zFm hA
        cases hy
        cases a with
        | none =>
          simp only [zBZ] at hl
          split at hl
          · rename_i h0
            injection hl with hl
            subst hl
            cases hx
            exact ⟨_, Go.Lib.run_indexByteNil w _ _ _, .int _ _⟩
          · cases hl
        | some ga =>
          simp only [zBZ] at hl
          cases hg : grd G ga n with
          | none => rw [hg] at hl; cases hl
          | some cs =>
            rw [hg] at hl
            obtain ⟨ns, e1, e2⟩ := zlR hl
            subst e1
            cases hx with
            | slice _ en _ cc he hnc hrw =>
              obtain ⟨l', g1, g2, g3, g4⟩ := zlQ hM hg he
              have hlen : ns.length = n := by have := (zgs hg).1; simpa using this
              have h4 := zAs (by rw [g1]; exact hlen.symm) g3
              refine ⟨_, Go.Lib.run_indexByteSlice w _ _ n cc ns hlen (fun i hi => ?_) _, ?_⟩
              · refine g4 i _ ?_
                rw [h4, List.getElem?_map, List.getElem?_eq_getElem (by omega)]
                simp [List.getD, List.getElem?_eq_getElem (by omega : i < ns.length)]
              · rw [show l = Go.Lib.bytesOf ns from e2]; exact .int _ _
            | sliceE _ a' =>
              have h0 : ns = [] := by
                have := (zgs hg).1
                simpa using this
              subst h0
              rw [e2]
              exact ⟨_, Go.Lib.run_indexByteString (P := P) .empty c w, .int _ _⟩
      · cases h
    · cases h
  · cases h
theorem zAE {args : List IV} {k : IV → GH → Option R} (h : ziA fn args G k = some r) : zHd P fn args G k r := by
  unfold ziA at h
  split at h
  · rename_i ho
    split at h
    · rename_i hn
      split at h
      · exact ⟨_, h, rfl, _, zxU hn ho, fun m w args' hA hM => by
          obtain ⟨x, rfl, hx⟩ := zC6 hA
          cases hx
          exact ⟨_, rfl, .int _ _⟩⟩
      · cases h
    split at h
    · rename_i hn
      split at h
      · exact ⟨_, h, rfl, _, zyp hn ho, fun m w args' hA hM => by
          obtain ⟨x, rfl, hx⟩ := zC6 hA
          cases hx
          exact ⟨_, rfl, .float _ _⟩⟩
      · cases h
    split at h
    · rename_i hn
      split at h
      · exact ⟨_, h, rfl, _, zxs hn ho, fun m w args' hA hM => by
          obtain ⟨x, rfl, hx⟩ := zC6 hA
          cases hx
          exact ⟨_, rfl, .int _ _⟩⟩
      · cases h
    split at h
    · rename_i hn
      split at h
      · exact ⟨_, h, rfl, _, zw6 hn ho, fun m w args' hA hM => by
          obtain ⟨x, rfl, hx⟩ := zC6 hA
          cases hx
          exact ⟨_, rfl, .float _ _⟩⟩
      · cases h
    split at h
    · rename_i hn
      split at h
      · split at h
        · cases h
        · rename_i hc
          exact ⟨_, h, rfl, _, zAx hn ho, fun m w args' hA hM => by
            obtain ⟨x, y, z, rfl, hx, hy, hz⟩ := zGT hA
            cases hx; cases hy; cases hz
            refine ⟨_, ?_, zyq m _ _⟩
            simp only [Sem.run_bind, zwJ _ _ _ _ _ _ _ hc, Result.andThen_ok, Sem.run_pure]
            rfl⟩
      · cases h
    split at h
    · rename_i hn
      split at h
      · split at h
        · cases h
        · rename_i hc
          exact ⟨_, h, rfl, _, zAR hn ho, fun m w args' hA hM => by
            obtain ⟨x, y, z, rfl, hx, hy, hz⟩ := zGT hA
            cases hx; cases hy; cases hz
            refine ⟨_, ?_, zyq m _ _⟩
            simp only [Sem.run_bind, zwJ _ _ _ _ _ _ _ hc, Result.andThen_ok, Sem.run_pure]
            rfl⟩
      · cases h
    split at h
    · rename_i hn
      split at h
      · split at h
        · cases h
        · rename_i d hd
          exact ⟨_, h, rfl, _, zAC hn ho, fun m w args' hA hM => by
            obtain ⟨x, rfl, hx⟩ := zC6 hA
            cases hx
            exact ⟨_, zBY hd w, .float _ _⟩⟩
      · cases h
    split at h
    · rename_i hn
      split at h
      · exact ⟨_, h, rfl, _, zAP hn ho, fun m w args' hA hM => by
          obtain ⟨x, y, rfl, hx, hy⟩ := zFm hA
          cases hx; cases hy
          exact ⟨_, Go.Lib.run_indexByteString _ _ w, .int _ _⟩⟩
      · cases h
    split at h
    · rename_i hn
      split at h
      · exact ⟨_, h, rfl, _, zBu hn ho, fun m w args' hA hM => by
          obtain ⟨x, y, rfl, hx, hy⟩ := zFm hA
          cases hx; cases hy
          exact ⟨_, Go.Lib.run_countString _ _ w, .int _ _⟩⟩
      · cases h
    · exact zyK ho h
  · cases h
theorem zBh {f : FuncId} (hf : P.funcs[f]? = some fn) (hn : (fn.name == "runtime.NumGoroutine") = false) (hb : fn.body = none) {args : List IV} {k : IV → GH → Option R} (h : ziA fn args G k = some r) :
    ∃ v G', k v G' = some r ∧ zeN v = true ∧ ∀ (B K : Nat → Prop) (w0 : World) (m : Map) (w : World) (args' : Array Value), (∀ i, m.f i = none) → zgq m args args' → HRel P B K w0 m [] G w →
      zgi P f args' w fun v' w' => ∃ m', m.le m' ∧ (∀ i, m'.f i = none) ∧ HRel P B K w0 m' [] G' w' ∧ VRel m' v v' := by
  obtain ⟨v, h1, h2, e, h3, h4⟩ := zAE (P := P) h
  refine ⟨v, G, h1, h2, fun B K w0 m w args' hmf hA hR => ?_⟩
  obtain ⟨v', q1, q2⟩ := h4 m w args' hA hR.mem
  exact .inr ⟨v', zBn hf hn hb h3 q1, m, m.le_refl, hmf, hR, q2⟩
end
end Go.LI
namespace Go.LI
open Go Go.RowKit
section
variable {P : Program} {ops : Array Oper} {md : Region.Mode} {D : Bool → World} {s : Nat}
def zxj (P : Program) (o : Oper) (a : Act) (w : World) (v : Value) (w' : World) : Prop :=
  (execOp a.eval o).run P w = .ok (.value v) w' ∨ ((execOp a.eval o).run P w = .ok .skip w' ∧ v = Go.undef)
def YO (P : Program) (D : Bool → World) (s : Nat) (i : Nat) (o : Oper) (v : Value) (a : Act) : Prop :=
  ∀ d, (i = s → d = false) → zxj P o a (D d) v (D (d || decide (i = s)))
def qO (P : Program) (ops : Array Oper) (D : Bool → World) (s : Nat) (i : Nat) (K : Act → Prop) (a : Act) : Prop := ∃ o v, ops[i]? = some o ∧ YO P D s i o v a ∧ K (a.put o.dst v)
def zyo (P : Program) (md : Region.Mode) (ops : Array Oper) (D : Bool → World) (s : Nat) (L : Act → Prop) : Nat → Array Bool → Act → Prop
  | 0, listed, a => Region.ready md ops listed = [] ∧ listed.getD s false = true ∧ L a
  | f + 1, listed, a => Region.ready md ops listed ≠ [] ∧ ∀ i ∈ Region.ready md ops listed, qO P ops D s i (zyo P md ops D s L f (listed.setIfInBounds i true)) a
theorem zGA {i : Nat} {K K' : Act → Prop} {a : Act} (h : ∀ a, K a → K' a) (hh : qO P ops D s i K a) : qO P ops D s i K' a := by
  obtain ⟨o, v, h1, h2, h3⟩ := hh
  exact ⟨o, v, h1, h2, h _ h3⟩
theorem z6 {listed : Array Bool} {i : Nat} (h : i < listed.size) : (listed.setIfInBounds i true).getD i false = true := by
  simp [h]
theorem zva {L : Act → Prop} {Q' : Exit → Act → World → Prop} (hg : ∀ (i : Nat) (o : Oper), ops[i]? = some o → o.guard = none) (hQ : ∀ a, L a → Q' .normal a (D true)) :
    ∀ (f : Nat) (listed : Array Bool) (a : Act), zyo P md ops D s L f listed a → wpAny P md ops Q' f listed a (D (listed.getD s false))
  | 0, listed, a, h => ⟨h.1, by rw [h.2.1]; exact hQ a h.2.2⟩
  | f + 1, listed, a, h => by
    refine ⟨fun h0 => absurd h0 h.1, fun i hi => ?_⟩
    obtain ⟨o, v, h1, h2, h3⟩ := h.2 i hi
    have hun := (mem_ready.1 hi).1
    have hd : i = s → listed.getD s false = false := fun h => by subst h; exact getD_both hun
    have hw : (listed.getD s false || decide (i = s)) = (listed.setIfInBounds i true).getD s false := by
      by_cases his : i = s
      · subst his
        have hlt : i < listed.size := by
          rcases Nat.lt_or_ge i listed.size with h | h
          · exact h
          · simp [Array.getElem?_eq_none h] at hun
        rw [z6 hlt]
        simp
      · rw [getD_set_ne false his]
        simp [his]
    have ih := zva hg hQ f _ _ h3
    rw [← hw] at ih
    unfold wpOp
    rw [h1]
    have hwant : Region.wanted o (yielded ops a.tmps) = true := by simp [Region.wanted, hg i o h1]
    simp only [hwant, if_true]
    refine .inl ?_
    unfold Oper.wp
    rcases h2 _ hd with h4 | ⟨h4, rfl⟩
    · rw [h4, Oper.upon_value]; exact ih
    · rw [h4, Oper.upon_skip]; exact ih
theorem zHw {i j : Nat} {oi oj : Oper} {v : Value} (hj : ops[j]? = some oj) (hap : oi.apart ops oj = true)
    (hsi : ∀ cs b, oi.op ≠ .select cs b) (hsj : ∀ cs b, oj.op ≠ .select cs b) {K : Act → Prop} {a : Act} (hy : YO P D s i oi v a) (h : qO P ops D s j K (a.put oi.dst v)) :
    qO P ops D s j (fun a' => YO P D s i oi v a' ∧ K (a'.put oi.dst v)) a := by
  obtain ⟨h1, h2, h3⟩ := Oper.apart_spec hap
  obtain ⟨o, u, q1, q2, q3⟩ := h
  rw [hj] at q1
  injection q1 with q1
  subst q1
  refine ⟨oj, u, hj, fun d hd => ?_, fun d hd => ?_, by rw [← Act.put_comm a v u h2]; exact q3⟩
  · have := q2 d hd
    unfold zxj at *
    rwa [execOp_put oj hsj a oi.dst v h1] at this
  · have := hy d hd
    unfold zxj at *
    rwa [execOp_put oi hsi a oj.dst u h3]
theorem zxk {L : Act → Prop} {i : Nat} {oi : Oper} {v : Value} (hi : ops[i]? = some oi) (hsel : ∀ (j : Nat) (o : Oper) cs b, ops[j]? = some o → o.op ≠ .select cs b) :
    ∀ (fuel : Nat) (listed : Array Bool) (a : Act),
      (∀ j oj, ops[j]? = some oj → j ≠ i → listed.getD j true = false → (∀ e ∈ oj.after, Region.binds md e = true → e.on ≠ i) → oi.apart ops oj = true) →
      i ∈ Region.ready md ops listed → YO P D s i oi v a →
      zyo P md ops D s L fuel (listed.setIfInBounds i true) (a.put oi.dst v) → zyo P md ops D s L (fuel + 1) listed a := by
  intro fuel
  induction fuel with
  | zero =>
    intro listed a _ hr hy H
    refine ⟨fun h => (by rw [h] at hr; cases hr), fun j hj => ?_⟩
    by_cases hji : j = i
    · subst hji; exact ⟨oi, v, hi, hy, H⟩
    · have := ready_mono hj hji
      rw [H.1] at this
      cases this
  | succ fuel ih =>
    intro listed a hfree hr hy H
    have hun := (mem_ready.1 hr).1
    refine ⟨fun h => (by rw [h] at hr; cases hr), fun j hj => ?_⟩
    by_cases hji : j = i
    · subst hji; exact ⟨oi, v, hi, hy, H⟩
    · have h1 := H.2 j (ready_mono hj hji)
      obtain ⟨hjun, oj, hoj, hall⟩ := mem_ready.1 hj
      have hnot : ∀ e ∈ oj.after, Region.binds md e = true → e.on ≠ i := fun e he hb heq => by
        have h1 := hall e he hb
        rw [heq, getD_both hun] at h1
        cases h1
      have h2 := zHw hoj (hfree j oj hoj hji hjun hnot) (fun cs b => hsel i oi cs b hi) (fun cs b => hsel j oj cs b hoj) hy h1
      have hfree' : ∀ k ok, ops[k]? = some ok → k ≠ i → (listed.setIfInBounds j true).getD k true = false → (∀ e ∈ ok.after, Region.binds md e = true → e.on ≠ i) → oi.apart ops ok = true := fun k ok hk hki hun hno => by
        refine hfree k ok hk hki ?_ hno
        by_cases hjk : j = k
        · subst hjk; exact hjun
        · rw [getD_set_ne true hjk] at hun; exact hun
      refine zGA (fun a' h3 => ih (listed.setIfInBounds j true) a' hfree' (ready_mono hr (Ne.symm hji)) h3.1 ?_) h2
      rw [Array.setIfInBounds_comm _ _ hji]
      exact h3.2
def zE7 (P : Program) (D : Bool → World) (s : Nat) (L : Act → Prop) : List Oper → Nat → Act → Prop
  | [], _, a => L a
  | o :: l, k, a => ∃ v, YO P D s k o v a ∧ zE7 P D s L l (k + 1) (a.put o.dst v)
theorem zuy {L : Act → Prop} : ∀ (l1 l2 : List Oper) (k : Nat) (a : Act), zE7 P D s (fun a' => zE7 P D s L l2 (k + l1.length) a') l1 k a → zE7 P D s L (l1 ++ l2) k a
  | [], l2, k, a, h => h
  | o :: l1, l2, k, a, h => by
    obtain ⟨v, h1, h2⟩ := h
    refine ⟨v, h1, zuy l1 l2 (k + 1) _ ?_⟩
    rw [show k + 1 + l1.length = k + (o :: l1).length by simp; omega]
    exact h2
theorem zvl {L : Act → Prop} (hs : Region.noSelect ops = true) : ∀ (l : List Oper) (k : Nat) (listed : Array Bool) (a : Act), (∀ j, l[j]? = ops[k + j]?) → listed.size = ops.size → (s < k → listed.getD s false = true) → s < k + l.length →
    Region.lexFrom md ops l.length k listed = true → zE7 P D s L l k a → zyo P md ops D s L l.length listed a
  | [], k, listed, a, hl, hz, hk, hlt, hB, h => ⟨by simpa [Region.lexFrom] using hB, hk (by simpa using hlt), h⟩
  | o :: l, k, listed, a, hl, hz, hk, hlt, hB, h => by
    have h0 : ops[k]? = some o := by simpa using (hl 0).symm
    simp only [List.length_cons, Region.lexFrom, Bool.and_eq_true] at hB
    obtain ⟨⟨hr, hf⟩, hB'⟩ := hB
    obtain ⟨v, hy, hK⟩ := h
    have hkz : k < listed.size := by rw [hz]; exact (Array.getElem?_eq_some_iff.1 h0).1
    refine zxk h0 (Region.noSelect_spec hs) l.length listed a (Region.free_spec h0 hf) (by simpa using hr) hy
      (zvl hs l (k + 1) _ _ (fun j => by have := hl (j + 1); simpa [Nat.add_assoc, Nat.add_comm 1 j] using this) (by simpa using hz) (fun hsk => ?_) (by simp at hlt; omega) hB' hK)
    by_cases hks : k = s
    · subst hks; exact z6 hkz
    · rw [getD_set_ne false hks]; exact hk (by omega)
theorem zt2 {id : Nat} {Q : Exit → Act → World → Prop} {a : Act} {w : World} (hm : P.follows .mixedOrders = true) (hB : Region.lexB .any ops = true) (hg : ∀ (i : Nat) (o : Oper), ops[i]? = some o → o.guard = none)
    (hs : s < ops.size) (hD : D false = { w with drawn := w.drawn + 1 }) (h : zE7 P D s (fun a' => Q .normal a' (D true)) ops.toList 0 a) : (Code.region id ops true).wp P Q a w := by
  simp only [Region.lexB, Bool.and_eq_true] at hB
  have H := zvl (md := .any) hB.1 ops.toList 0 (Array.replicate ops.size false) a (by simp) (by simp) (by omega) (by simpa using hs) (by simpa using hB.2) h
  refine wp_region_any hm ?_
  have := zva (Q' := Q) hg (fun a h => h) _ _ _ H
  rw [getD_replicate_false, hD] at this
  simpa using this
end
section
variable {R : Type} {P : Program} {B K : Nat → Prop} {w0 : World} {m : Map} {F : List (List IV)} {G : GH} {w : World} {O : Ora R} {lo : List Nat} {o : Oper} {env : List IV} {a : Act} {r : R}
structure ButRow (w w' : World) (b : Nat) : Prop where
  os : w'.os = w.os
  tape : w'.tape = w.tape
  output : w'.output = w.output
  other : ∀ i, i ≠ b → w'.heap[i]? = w.heap[i]?
theorem zDM {k : IV → List (List IV) → GH → Option R} (hl : zls o.op = true) (h : opC P O lo true o env F G k = some r) :
    ∃ v, k v F G = some r ∧ ∀ (m : Map) (w : World) (a : Act), MemOk P m F G w → zbb m env a.tmps →
      ∃ v', VRel m v v' ∧ ∀ w' : World, Vis m F G w w' → w'.os = w.os → w'.tape = w.tape → w'.output = w.output → zxj P o a w' v' w' := by
  have hc : zbF o.op = false := by cases ho : o.op <;> rw [ho] at hl <;> first | rfl | (simp [zls] at hl)
  have hq : zch o.op = true := by cases ho : o.op <;> rw [ho] at hl <;> first | rfl | (simp [zls] at hl)
  have hcm : za2 P o.op = false := by cases ho : o.op <;> rw [ho] at hl <;> first | rfl | (simp [zls] at hl)
  rw [zu6 (O' := fun _ _ _ _ => none) env F G k hc hq hcm] at h
  cases hx : opC P (fun _ _ _ _ => none) lo true o env F G (fun v _ _ => some v) with
  | none => rw [hx] at h; cases h
  | some v =>
    rw [hx] at h
    refine ⟨v, h, fun m w a hM hE => ?_⟩
    have still : zaR P m o a { w with heap := #[] } F G (fun v _ _ => some v) v → ∃ v', VRel m v v' ∧ ∀ w' : World, Vis m F G w w' → w'.os = w.os → w'.tape = w.tape → w'.output = w.output → zxj P o a w' v' w' := by
      rintro ⟨v1, v', q1, q2, q3⟩
      injection q3 with q3
      subst q3
      exact ⟨v', q2, fun w' _ h1 h2 h3 => .inl (q1 w' ⟨h1, h2, h3, Nat.zero_le _, fun k hk => absurd hk (Nat.not_lt_zero k)⟩)⟩
    cases ho : o.op with
    | move x => exact still (zzN (.inl ho) hx hE)
    | assign x => exact still (zzN (.inr ho) hx hE)
    | pick c x y => exact still (zEJ ho hx hE)
    | build t ps => exact still (zB9 ho hx hE)
    | nilCheck x => exact still (zu7 ho hx hE)
    | binOp op t x y yt => exact still (zCh (by simp) ho hx hE)
    | unOp op t x => exact still (zEL ho hx hE)
    | makeInterface t x => exact still (zlS ho hx hE)
    | fieldAddr t x f => exact still (ztY ho hx hE)
    | field t x f => exact still (zB2 ho hx hE)
    | indexAddr t x y => exact still (ztz ho hx hE)
    | index t x y => exact still (zCE ho hx hE)
    | extract x i => exact still (zxt ho hx hE)
    | load t x =>
      simp only [opC, ho] at hx
      split at hx
      · rename_i vx hvx
        obtain ⟨ad, v1, v', q1, q2, q3, q4⟩ := zvP hM hx (zO hE hvx)
        injection q4 with q4
        subst q4
        refine ⟨v', q3, fun w' hV _ _ _ => .inl ?_⟩
        simp only [execOp, ho]
        refine zcH ?_
        simp [Instr.loadAt, q1, Instr.sureAddr, q2 w' hV]
      · cases hx
    | _ => rw [ho] at hl; simp [zls] at hl
theorem Vis.self (m : Map) (F : List (List IV)) (G : GH) (w : World) : Vis m F G w w := ⟨fun _ _ _ _ _ => rfl, fun _ _ _ _ _ _ _ _ => rfl⟩
theorem zlI {all : Array Oper} : ∀ {os : List Oper} {env : List IV} {k : List IV → List (List IV) → GH → Option R} {r : R}, (∀ o ∈ os, zls o.op = true ∧ o.guard = none) → zld P O lo true all os env F G k = some r →
    ∃ env', k env' F G = some r ∧ ∀ (m : Map) (w : World) (a : Act), MemOk P m F G w → zbb m env a.tmps → ∃ a', zbb m env' a'.tmps ∧ a'.defers = a.defers ∧
      ∀ (D : Bool → World) (s n : Nat) (L : Act → Prop), D false = w → Vis m F G w (D true) → (D true).os = w.os → (D true).tape = w.tape → (D true).output = w.output → (s < n ∨ n + os.length ≤ s) → L a' → zE7 P D s L os n a
  | [], env, k, r, _, h => ⟨env, h, fun m w a _ hE => ⟨a, hE, rfl, fun D s n L _ _ _ _ _ _ hL => hL⟩⟩
  | o :: os, env, k, r, hl, h => by
    obtain ⟨hlo, hg⟩ := hl o (by simp)
    simp only [zld, hg] at h
    obtain ⟨v, h1, h2⟩ := zDM hlo h
    obtain ⟨env', h3, h4⟩ := zlI (fun x hx => hl x (by simp [hx])) h1
    refine ⟨env', h3, fun m w a hM hE => ?_⟩
    obtain ⟨v', p1, p2⟩ := h2 m w a hM hE
    obtain ⟨a', e1, e2, e3⟩ := h4 m w _ hM (hE.put p1 o.dst)
    refine ⟨a', e1, e2.trans (zcD a _ _), fun D s n L hD hV q1 q2 q3 hs hL => ?_⟩
    have hne : n ≠ s := by simp only [List.length_cons] at hs; omega
    refine ⟨v', fun d _ => ?_, e3 D s (n + 1) L hD hV q1 q2 q3 (by simp only [List.length_cons] at hs; omega) hL⟩
    rw [show (d || decide (n = s)) = d by simp [hne]]
    cases d
    · rw [hD]; exact p2 w (Vis.self m F G w) rfl rfl rfl
    · exact p2 _ hV q1 q2 q3
theorem zCd {b i : Nat} (h0 : HRel P B K w0 m F G w) {t : TypeId} {v : IV} {vx vv : Value} {k : List (List IV) → GH → Option R} {r : R} (h : zf2 P t (.loc b i) v F G k = some r) (hx : VRel m (.loc b i) vx) (hv : VRel m v vv) :
    ∃ w' F' q, (Instr.storeAt t vx vv).run P w = .ok () w' ∧ HRel P B K w0 m F' G w' ∧ k F' G = some r ∧ m.f b = some q ∧ ButRow w w' q := by
  unfold zf2 at h
  split at h
  · rename_i hc
    obtain ⟨hlen, hcell, hz⟩ := hc
    have hcr := zbL hv
    have hL : zv4 m v.cells vv.cells.toList := ⟨by have := hcr.1; simpa using this, fun i iv v a b => hcr.2 i iv v a (by simpa using b)⟩
    obtain ⟨ii, hii, hs⟩ := zeV hz
    have hrun : ∀ ad w', (storeCells ad vv.cells.toList).run P w = .ok () w' → (Instr.storeAt t (.pointer (some ad)) vv).run P w = .ok () w' := by
      intro ad w' hw
      have : vv.cells.size = ii.size := by rw [hs, ← hlen]; exact hcr.1.symm
      simp only [Instr.storeAt, Instr.sureAddr, storeVar, Sem.run_bind, Sem.run_pure, Result.andThen_ok, zV hii, this, ne_eq, not_true_eq_false, if_false]
      exact hw
    simp only at h
    split at h
    · rename_i cs hcs
      split at h
      · rename_i hl
        cases hx with
        | loc _ _ q hq =>
          obtain ⟨c, t', hf⟩ := h0.fblk _ _ _ hcs hq
          obtain ⟨w', hw1, hw2⟩ := zdN (P := P) q i t' (0, 0) vv.cells.toList 0 c w hf.row (by have := hL.1; have := hf.size; omega) (fun x _ => by omega) (zrp hL hcell)
          refine ⟨w', _, q, hrun _ w' hw1, ?_, h, hq, ⟨hw2.os, hw2.tape, hw2.output, hw2.other⟩⟩
          refine h0.writeF hcs hq hf hw2 ⟨by rw [zhb hl, zcr, hf.size], ?_⟩
          have := zmx (b0 := 0) (Q := fun iv v => VRel m iv v) hl (by rw [hf.size]; omega) hL.1 (fun i iv hi => by rw [Nat.zero_add]; exact hf.cells i iv hi) hL.2
          intro j iv v hj hjv
          obtain ⟨v', h1, h2⟩ := this j iv hj
          rw [Nat.add_zero] at hjv
          rw [Nat.zero_add, Nat.zero_add] at h1
          rw [h1] at hjv
          injection hjv with hjv
          rw [← hjv]; exact h2
      · cases h
    · cases h
  · cases h
theorem zBC {b q : Nat} (h : HRel P B K w0 m F G w) {cs : List IV} (hcs : F[b]? = some cs) (hq : m.f b = some q) {w' : World} (hb : ButRow w w' q) : Vis m (F.set b []) G w w' where
  g := fun a iv e hg he => by
    refine hb.other _ fun hc => ?_
    obtain ⟨c, t, hf⟩ := h.fblk _ _ _ hcs hq
    unfold gld at hg
    split at hg
    · rename_i k hk
      split at hg
      · rename_i hmo
        obtain ⟨c1, t1, fr, hgb⟩ := h.gblk _ _ _ hk hmo he
        by_cases h1 : k.mode = 1
        · exact h.gf _ _ _ _ _ hk h1 he hq hc
        · exact hf.own (h.bk _ (hc ▸ hgb.ro (by omega)))
      · cases hg
    · cases hg
  f := fun i ds r o iv hi hr ho => by
    refine hb.other _ fun hc => ?_
    by_cases hib : b = i
    · subst hib
      rw [List.getElem?_set_self (List.getElem?_eq_some_iff.1 hcs).1] at hi
      injection hi with hi
      subst hi
      simp at ho
    · exact h.finj i b r q hr hq (Ne.symm hib) hc
theorem zrY {b : Nat} (h : MemOk P m F G w) : MemOk P m (F.set b []) G w where
  g := h.g
  z := h.z
  f := fun i cs r hi hr => by
    by_cases hib : b = i
    · subst hib
      have hlt : b < F.length := by have := (List.getElem?_eq_some_iff.1 hi).1; simpa using this
      rw [List.getElem?_set_self hlt] at hi
      injection hi with hi
      subst hi
      exact ⟨(h.f b F[b] r (List.getElem?_eq_getElem hlt) hr).1, fun o iv ho => by simp at ho⟩
    · rw [List.getElem?_set_ne hib] at hi
      exact h.f i cs r hi hr
theorem zym : ∀ (os : List Oper), ∀ o ∈ os.take (zf6 os), zls o.op = true
  | [], o, h => by simp at h
  | x :: os, o, h => by
    simp only [zf6] at h
    split at h
    · rename_i hq
      simp only [List.take_succ_cons, List.mem_cons] at h
      rcases h with rfl | h
      · exact hq
      · exact zym os o h
    · simp at h
theorem zxE (hm : P.follows .mixedOrders = true) {id : Nat} {ops : Array Oper} {k : Ex → List IV → List (List IV) → GH → Option R} (hds : zGs ops = true)
    (h : (match ops.toList[zf6 ops.toList]? with
        | some ⟨none, .store t x v, _, _, _, _⟩ => match ev env x with
          | some (.loc b i) => zld P O lo true ops (ops.toList.take (zf6 ops.toList)) env (F.set b []) G fun env _ _ => match ev env x, ev env v with
            | some (.loc b' i'), some v => if b' = b ∧ i' = i then zf2 P t (.loc b i) v F G fun F' G' =>
                zld P O lo true ops (ops.toList.drop (zf6 ops.toList + 1)) env (F.set b []) G fun env _ _ => k .normal env F' G'
              else none
            | _, _ => none
          | _ => none
        | _ => none) = some r) :
    ∃ env' F' G', k .normal env' F' G' = some r ∧ ∀ (B K : Nat → Prop) (w0 : World) (m : Map) (w : World) (a : Act) (Q : Exit → Act → World → Prop), HRel P B K w0 m F G w → zbb m env a.tmps →
      zmL P B K w0 m env' F' G' a (Q .normal) → (Code.region id ops true).wp P Q a w := by
  simp only [zGs, Bool.and_eq_true, decide_eq_true_eq] at hds
  obtain ⟨⟨⟨⟨hn, hpost⟩, hguard⟩, hB⟩, _⟩ := hds
  have hg : ∀ o ∈ ops.toList, o.guard = none := fun o ho => by have := List.all_eq_true.1 hguard o ho; simpa using this
  have hpre : ∀ o ∈ ops.toList.take (zf6 ops.toList), zls o.op = true ∧ o.guard = none := fun o ho => ⟨zym _ o ho, hg o (List.mem_of_mem_take ho)⟩
  have hpo : ∀ o ∈ ops.toList.drop (zf6 ops.toList + 1), zls o.op = true ∧ o.guard = none := fun o ho => ⟨List.all_eq_true.1 hpost o ho, hg o (List.mem_of_mem_drop ho)⟩
  split at h
  · rename_i t x v ty pos after guard hop
    split at h
    · rename_i b i hx
      obtain ⟨env1, h1, h2⟩ := zlI hpre h
      split at h1
      · rename_i b' i' v' hx1 hv1
        split at h1
        · rename_i hbi
          obtain ⟨rfl, rfl⟩ := hbi
          rw [zfX] at h1
          cases hst : zf2 P t (.loc b' i') v' F G (fun F G => some (F, G)) with
          | none => rw [hst] at h1; cases h1
          | some p =>
            obtain ⟨F', G'⟩ := p
            rw [hst] at h1
            simp only [Option.bind_some] at h1
            obtain ⟨env2, h3, h4⟩ := zlI hpo h1
            refine ⟨env2, F', G', h3, fun B K w0 m w a Q hR hE hQ => ?_⟩
            have hRa : HRel P B K w0 m F G { w with drawn := w.drawn + 1 } := hR.grow (zct w _)
            obtain ⟨a1, e1, d1, L1⟩ := h2 m _ a (zrY hRa.mem) hE
            obtain ⟨w1, F1, q, s1, s2, s3, s4, s5⟩ := zCd hRa hst (zO e1 hx1) (zO e1 hv1)
            injection s3 with s3
            injection s3 with s3 s3'
            subst s3; subst s3'
            obtain ⟨a2, e2, d2, L2⟩ := h4 m _ a1 (zrY hRa.mem) e1
            have hFb : ∃ cs, F[b']? = some cs := ⟨_, List.getElem?_eq_getElem (hRa.fdom _ _ s4)⟩
            obtain ⟨cs, hcs⟩ := hFb
            have hV : Vis m (F.set b' []) G { w with drawn := w.drawn + 1 } w1 := zBC hRa hcs s4 s5
            have hlist : ops.toList = ops.toList.take (zf6 ops.toList) ++ (⟨none, .store t x v, ty, pos, after, guard⟩ :: ops.toList.drop (zf6 ops.toList + 1)) := by
              obtain ⟨hlt, heq⟩ := List.getElem?_eq_some_iff.1 hop
              rw [← heq, ← List.drop_eq_getElem_cons hlt, List.take_append_drop]
            have hlen : (ops.toList.take (zf6 ops.toList)).length = zf6 ops.toList := by simp; omega
            refine zt2 (D := fun d => if d then w1 else { w with drawn := w.drawn + 1 }) (s := zf6 ops.toList) hm hB (fun i o ho => hg o (List.mem_of_getElem? (by simpa using ho))) hn rfl ?_
            have key := zuy (P := P) (D := fun d => if d then w1 else { w with drawn := w.drawn + 1 }) (s := zf6 ops.toList) (L := fun a' => Q .normal a' w1) _ _ 0 a
              (L1 (fun d => if d then w1 else { w with drawn := w.drawn + 1 }) (zf6 ops.toList) 0
                (fun a' => zE7 P (fun d => if d then w1 else { w with drawn := w.drawn + 1 }) (zf6 ops.toList) (fun a' => Q .normal a' w1) (⟨none, .store t x v, ty, pos, after, guard⟩ :: ops.toList.drop (zf6 ops.toList + 1)) (0 + (ops.toList.take (zf6 ops.toList)).length) a') rfl hV s5.os s5.tape s5.output (.inr (by rw [hlen]; omega)) (by
                  refine ⟨Go.undef, fun d hd => ?_, ?_⟩
                  · have hd' : d = false := hd (by rw [hlen]; omega)
                    subst hd'
                    rw [show (false || decide (0 + (ops.toList.take (zf6 ops.toList)).length = zf6 ops.toList)) = true by rw [hlen]; simp]
                    refine .inr ⟨?_, rfl⟩
                    have s1' : (Instr.storeAt t (a1.eval x) (a1.eval v)).run P ((fun d : Bool => if d = true then w1 else { w with drawn := w.drawn + 1 }) false) = .ok () w1 := s1
                    simp only [execOp, Sem.run_bind, s1', Result.andThen_ok, Sem.run_pure, if_true]
                  · refine L2 _ _ _ _ rfl hV s5.os s5.tape s5.output (.inl (by rw [hlen]; omega)) ?_
                    exact hQ m w1 a2 m.le_refl s2 e2 (d2.trans d1)))
            rw [← hlist] at key
            exact key
        · cases h1
      · cases h1
    · cases h
  · cases h
end
end Go.LI
namespace Go.LI
open Go Go.RowKit
section
variable {R : Type} {P : Program} {B K : Nat → Prop} {w0 : World} {m : Map} {F : List (List IV)} {G : GH} {w : World} {O : Ora R} {lo : List Nat} {o : Oper} {env : List IV} {a : Act} {r : R}
theorem zBK (hO : zqa P O) {k : IV → List (List IV) → GH → Option R} (hq : zch o.op = true) (hcm : za2 P o.op = false) (h : opC P O lo true o env F G k = some r) :
    ∃ v, k v F G = some r ∧ ∀ (B K : Nat → Prop) (w0 : World) (m : Map) (w : World) (a : Act), HRel P B K w0 m F G w → zbb m env a.tmps →
      ∃ v', VRel m v v' ∧ ∀ w', Below w.heap.size w w' → o.quietAt P a (Below w.heap.size w) w' v' := by
  by_cases hc : zbF o.op = true
  · cases ho : o.op with
    | call c =>
      rw [ho] at hc
      cases hcc : c.callee with
      | value f =>
        simp only [opC, ho, hcc] at h
        split at h
        · rename_i args hargs
          split at h
          · rename_i fid caps hf
            split at h
            · rename_i hnl
              simp only [if_true] at h
              simp only [Bool.and_eq_true] at hnl
              obtain ⟨v, h1, h2⟩ := zjs hO h (noLocs_append hnl.1 hnl.2)
              refine ⟨v, h1, fun B K w0 m w a hR hE => ?_⟩
              have hA := zmz hE hargs
              have hfr := zO hE hf
              generalize hfv : a.eval f = fv at hfr
              cases hfr with
              | func _ _ cs' hs hcs =>
                have hAA : zgq m (args ++ caps) (c.args.map a.eval ++ cs') := hA.append ⟨hs, hcs⟩
                obtain ⟨v', q1, q2⟩ := h2 B K w0 m w _ hAA hR
                refine ⟨v', q1, fun w' hw' => ?_⟩
                unfold Oper.quietAt
                rw [zvi w' ho hcc hfv rfl]
                rcases q2 w' hw' with ⟨p1, p2⟩ | p1
                · rw [p1]; exact ⟨rfl, p2⟩
                · rw [p1]; exact ⟨rfl, rfl⟩
            · cases h
          · cases h
        · cases h
      | builtin b => simp [zbF, hcc] at hc
      | invoke x n => simp [zbF, hcc] at hc
    | _ => rw [ho] at hc; simp [zbF] at hc
  · have hc' : zbF o.op = false := by simpa using hc
    rw [zu6 (O' := fun _ _ _ _ => none) env F G k hc' hq hcm] at h
    cases hx : opC P (fun _ _ _ _ => none) lo true o env F G (fun v _ _ => some v) with
    | none => rw [hx] at h; cases h
    | some v =>
      rw [hx] at h
      refine ⟨v, h, fun B K w0 m w a hR hE => ?_⟩
      obtain ⟨v1, v', h1, h2, h3⟩ := zHm (by simp) hR.mem hq hcm hc' hx hE
      injection h3 with h3
      subst h3
      refine ⟨v', h2, fun w' hw' => ?_⟩
      unfold Oper.quietAt
      rw [h1 w' hw']
      exact ⟨rfl, rfl⟩
def zv1 (P : Program) (os : List Oper) : Prop := ∀ o ∈ os, zch o.op = true ∧ za2 P o.op = false
theorem zjU (hO : zqa P O) {all : Array Oper} : ∀ {os : List Oper} {env : List IV} {k : List IV → List (List IV) → GH → Option R} {r : R}, zv1 P os → zld P O lo true all os env F G k = some r →
    ∃ env', k env' F G = some r ∧ ∀ (B K : Nat → Prop) (w0 : World) (m : Map) (w : World) (a : Act) (T : Act → Prop), HRel P B K w0 m F G w → zbb m env a.tmps →
      (∀ a', zbb m env' a'.tmps → a'.defers = a.defers → T a') → wpQuiet P all (Below w.heap.size w) T os a
  | [], env, k, r, _, h => ⟨env, h, fun B K w0 m w a T hR hE hT => hT a hE rfl⟩
  | o :: os, env, k, r, hqa, h => by
    obtain ⟨hq, hcm⟩ := hqa o (by simp)
    have hqa' : zv1 P os := fun x hx => hqa x (by simp [hx])
    have run : ∀ {env1 : List IV}, (opC P O lo true o env1 F G fun v F G => zld P O lo true all os (zg9 env1 o.dst v) F G k) = some r →
        ∃ env', k env' F G = some r ∧ ∀ (B K : Nat → Prop) (w0 : World) (m : Map) (w : World) (a : Act) (T : Act → Prop), HRel P B K w0 m F G w → zbb m env1 a.tmps → Region.wanted o (yielded all a.tmps) = true →
          (∀ a', zbb m env' a'.tmps → a'.defers = a.defers → T a') → wpQuiet P all (Below w.heap.size w) T (o :: os) a := by
      intro env1 h
      obtain ⟨v, h1, h2⟩ := zBK hO hq hcm h
      obtain ⟨env', h3, h4⟩ := zjU hO hqa' h1
      refine ⟨env', h3, fun B K w0 m w a T hR hE hw hT => ?_⟩
      obtain ⟨v', q1, q2⟩ := h2 B K w0 m w a hR hE
      simp only [wpQuiet, hw, if_true]
      refine ⟨v', q2, ?_⟩
      exact h4 B K w0 m w _ T hR (hE.put q1 o.dst) fun a' e d => hT a' e (d.trans (zcD a _ _))
    have pass : ∀ {env1 : List IV}, zld P O lo true all os (zg9 env1 o.dst za) F G k = some r →
        ∃ env', k env' F G = some r ∧ ∀ (B K : Nat → Prop) (w0 : World) (m : Map) (w : World) (a : Act) (T : Act → Prop), HRel P B K w0 m F G w → zbb m env1 a.tmps → Region.wanted o (yielded all a.tmps) = false →
          (∀ a', zbb m env' a'.tmps → a'.defers = a.defers → T a') → wpQuiet P all (Below w.heap.size w) T (o :: os) a := by
      intro env1 h
      obtain ⟨env', h3, h4⟩ := zjU hO hqa' h
      refine ⟨env', h3, fun B K w0 m w a T hR hE hw hT => ?_⟩
      simp only [wpQuiet, hw, Bool.false_eq_true, if_false]
      exact h4 B K w0 m w _ T hR (hE.put (VRel.undef m) o.dst) fun a' e d => hT a' e (d.trans (zcD a _ _))
    simp only [zld] at h
    split at h
    · rename_i hg
      obtain ⟨env', h1, h2⟩ := run h
      exact ⟨env', h1, fun B K w0 m w a T hR hE hT => h2 B K w0 m w a T hR hE (by simp [Region.wanted, hg]) hT⟩
    · rename_i j want hg
      split at h
      · cases h
      · rename_i d hd
        split at h
        · rename_i b hb
          have hsame : env.set d (.bool b) = env := zwm hb
          cases b
          · simp only [cond_false] at h
            rw [hsame] at h
            split at h
            · rename_i hw
              obtain ⟨env', h1, h2⟩ := pass h
              exact ⟨env', h1, fun B K w0 m w a T hR hE hT => h2 B K w0 m w a T hR hE (by simp [Region.wanted, hg, zcX hd hb hE, hw]) hT⟩
            · rename_i hw
              obtain ⟨env', h1, h2⟩ := run h
              exact ⟨env', h1, fun B K w0 m w a T hR hE hT => h2 B K w0 m w a T hR hE (by simp [Region.wanted, hg, zcX hd hb hE]; simpa using hw) hT⟩
          · simp only [cond_true] at h
            rw [hsame] at h
            split at h
            · rename_i hw
              obtain ⟨env', h1, h2⟩ := run h
              exact ⟨env', h1, fun B K w0 m w a T hR hE hT => h2 B K w0 m w a T hR hE (by simp [Region.wanted, hg, zcX hd hb hE, hw]) hT⟩
            · rename_i hw
              obtain ⟨env', h1, h2⟩ := pass h
              exact ⟨env', h1, fun B K w0 m w a T hR hE hT => h2 B K w0 m w a T hR hE (by simp [Region.wanted, hg, zcX hd hb hE]; simpa using hw) hT⟩
        · rename_i hb
          obtain ⟨env', h1, h2⟩ := pass h
          exact ⟨env', h1, fun B K w0 m w a T hR hE hT => h2 B K w0 m w a T hR hE (by simp [Region.wanted, hg, znt hd hb hE]) hT⟩
        · cases h
theorem zu9 : ∀ (os : List Oper), ∀ o ∈ os.take (znl os), zch o.op = true
  | [], o, h => by simp at h
  | x :: os, o, h => by
    simp only [znl] at h
    split at h
    · rename_i hq
      simp only [List.take_succ_cons, List.mem_cons] at h
      rcases h with rfl | h
      · exact hq
      · exact zu9 os o h
    · simp at h
def zvk : Ex → Exit
  | .normal => .normal
  | .exit id => .exit id
  | .ret => .ret
theorem zAU (hm : P.follows .mixedOrders = true) (hO : zqa P O) (hN : zrD O) {id : Nat} {ops : Array Oper} {draw : Bool} {fuel : Nat} {k : Ex → List IV → List (List IV) → GH → Option R} (h : zN P O lo fuel (.region id ops draw) env F G k = some r) :
    ∃ env' F' G', k .normal env' F' G' = some r ∧ ∀ (B K : Nat → Prop) (w0 : World) (m : Map) (w : World) (a : Act) (Q : Exit → Act → World → Prop), HRel P B K w0 m F G w → zbb m env a.tmps →
      zmL P B K w0 m env' F' G' a (Q .normal) → (Code.region id ops draw).wp P Q a w := by
  simp only [zN] at h
  cases draw
  · simp only [Bool.false_eq_true, if_false] at h
    obtain ⟨env', F', G', h1, h2⟩ := zww hO h
    exact ⟨env', F', G', h1, fun B K w0 m w a Q hR hE hQ => wp_region_list (h2 B K w0 m w a Q hR hE hQ)⟩
  · simp only [if_true] at h
    by_cases hmk : lo.contains (zGo + id) = true
    · rw [if_pos hmk] at h
      exact zx9 hm hO hN h
    rw [if_neg hmk] at h
    split at h
    · rename_i hd
      replace hd : zCk P ops = true := (Bool.and_eq_true _ _ ▸ hd).1
      simp only [zCk] at hd
      simp only [Bool.and_eq_true] at hd
      obtain ⟨hd1, hd2⟩ := hd
      have hqa : zv1 P (ops.toList.take (znl ops.toList)) := fun o ho =>
        ⟨zu9 _ o ho, by have := List.all_eq_true.1 hd1 o ho; simpa using this⟩
      obtain ⟨env1, h1, h2⟩ := zjU hO hqa h
      obtain ⟨env', F', G', h3, h4⟩ := zww hO h1
      refine ⟨env', F', G', h3, fun B K w0 m w a Q hR hE hQ => ?_⟩
      have tail : ∀ a', zbb m env1 a'.tmps → a'.defers = a.defers → ∀ w', Below w.heap.size w w' → wpList P ops Q (ops.toList.drop (znl ops.toList)) a' w' := by
        intro a' he hdf w' hw'
        exact h4 B K w0 m w' a' Q (hR.grow hw') he fun m2 w2 a2 l r2 e2 d2 => hQ m2 w2 a2 l r2 e2 (d2.trans hdf)
      have hC : Below w.heap.size w { w with drawn := w.drawn + 1 } := zct w _
      split at hd2
      · rename_i hn
        refine wp_region_quiet (C := Below w.heap.size w) hm hd2 hC ?_
        have ht : ops.toList.take (znl ops.toList) = ops.toList := List.take_of_length_le (by rw [hn, Array.length_toList]; exact Nat.le_refl _)
        have hdr : ops.toList.drop (znl ops.toList) = [] := List.drop_eq_nil_of_le (by rw [hn, Array.length_toList]; exact Nat.le_refl _)
        rw [ht] at h2
        refine h2 B K w0 m w a _ hR hE fun a' he hdf w' hw' => ?_
        have := tail a' he hdf w' hw'
        rw [hdr] at this
        exact this
      · exact zna (C := Below w.heap.size w) _ hm hd2 hC (h2 B K w0 m w a _ hR hE tail)
    · split at h
      · rename_i hds
        exact zxE hm hds h
      · exact zy2 hm hO hN h
def Map.cut (m : Map) (n : Nat) : Map := { m with f := fun k => if k < n then m.f k else none }
theorem VRel.cut {m : Map} {n : Nat} {iv : IV} {v : Value} (h : VRel m iv v) (hl : zBB n iv = true) : VRel (m.cut n) iv v := by
  by_cases hn : zeN iv = true
  · exact VRel.mono (m := m.noF) (m' := m.cut n) ⟨fun _ _ x => x, fun _ _ x => nomatch x⟩ (h.noF hn)
  · cases iv with
    | loc b i =>
      cases h with
      | loc _ _ q hq => exact .loc b i q (by simp only [Map.cut]; rw [if_pos (by simpa [zBB] using hl)]; exact hq)
    | _ => exact absurd hl hn
theorem zzC {m1 : Map} {F1 : List (List IV)} {G1 : GH} {w1 : World} {env1 : List IV} {tmps : Array Value} (hR : HRel P B K w0 m F G w) (l : m.le m1) (r1 : HRel P B K w0 m1 F1 G1 w1) (e1 : zbb m1 env1 tmps) :
    ∃ m2, m.le m2 ∧ HRel P B K w0 m2 (dropF F.length env1 F1) G1 w1 ∧ zbb m2 env1 tmps := by
  unfold dropF
  cases Nat.ble F1.length F.length with
  | true => exact ⟨m1, l, r1, e1⟩
  | false =>
    rw [cond_false]
    cases hok : env1.all (zBB F.length) && (F1.take F.length).all (fun cs => cs.all (zBB F.length)) with
    | false => exact ⟨m1, l, r1, e1⟩
    | true =>
      rw [cond_true]
      simp only [Bool.and_eq_true] at hok
      have cf : ∀ {k b : Nat}, (m1.cut F.length).f k = some b → k < F.length ∧ m1.f k = some b := fun {k b} h => by
        simp only [Map.cut] at h
        split at h
        · rename_i hk; exact ⟨hk, h⟩
        · cases h
      refine ⟨m1.cut F.length, ⟨l.1, fun k b h => ?_⟩, ?_, e1.1, fun i iv v a b hn => (e1.2 i iv v a b hn).cut (List.all_eq_true.1 hok.1 iv (List.mem_of_getElem? a))⟩
      · simp only [Map.cut]
        rw [if_pos (hR.fdom k b h)]
        exact l.2 k b h
      · exact
          { bk := r1.bk, frame := r1.frame, os := r1.os, tape := r1.tape, output := r1.output, size := r1.size, gdom := r1.gdom
            fdom := fun k b h => by
              obtain ⟨h1, h2⟩ := cf h
              have := r1.fdom k b h2
              rw [List.length_take]; omega
            gblk := fun b k e hk hm he => by
              obtain ⟨c, t, fr, hg⟩ := r1.gblk b k e hk hm he
              exact ⟨c, t, fr, { row := hg.row, fits := hg.fits, cells := hg.cells, ro := hg.ro, esz := hg.esz, rw := hg.rw }⟩
            fblk := fun i cs b hi hb => by
              obtain ⟨h1, h2⟩ := cf hb
              have hi' : F1[i]? = some cs := by rw [List.getElem?_take_of_lt h1] at hi; exact hi
              obtain ⟨c, t, hf⟩ := r1.fblk i cs b hi' h2
              refine ⟨c, t, { row := hf.row, size := hf.size, own := hf.own, cells := fun j iv hj => ?_ }⟩
              obtain ⟨v, h3, h4⟩ := hf.cells j iv hj
              exact ⟨v, h3, h4.cut (List.all_eq_true.1 (List.all_eq_true.1 hok.2 cs (List.mem_of_getElem? hi)) iv (List.mem_of_getElem? hj))⟩
            ginj := r1.ginj
            gf := fun b i k e r hb hm he hr => r1.gf b i k e r hb hm he (cf hr).2
            finj := fun i j r s hr hs hij => r1.finj i j r s (cf hr).2 (cf hs).2 hij }
def zFK (P : Program) (c : Code) (env : List IV) (F : List (List IV)) (G : GH) (k : Ex → List IV → List (List IV) → GH → Option R) (r : R) : Prop :=
  ∃ e env' F' G', k e env' F' G' = some r ∧ ∀ (B K : Nat → Prop) (w0 : World) (m : Map) (w : World) (a : Act) (Q : Exit → Act → World → Prop), HRel P B K w0 m F G w → zbb m env a.tmps →
    zmL P B K w0 m env' F' G' a (Q (zvk e)) → c.wp P Q a w
theorem zmL.le {T : Act → World → Prop} {m m1 : Map} {a a1 : Act} {env' : List IV} {F' : List (List IV)} {G' : GH} (h : zmL P B K w0 m env' F' G' a T) (hl : m.le m1) (hd : a1.defers = a.defers) : zmL P B K w0 m1 env' F' G' a1 T :=
  fun m2 w2 a2 l r e d => h m2 w2 a2 (Map.le_trans hl l) r e (d.trans hd)
theorem zzy {R : Type} {n : Nat} {x : Option R} {r : R} (h : zi n x = some r) : x = some r := by
  cases n with
  | zero => cases h
  | succ n => exact h
theorem zdx (hm : P.follows .mixedOrders = true) (hO : zqa P O) (hN : zrD O) {fuel : Nat} : ∀ (c : Code) {env : List IV} {F : List (List IV)} {G : GH} {k : Ex → List IV → List (List IV) → GH → Option R} {r : R}, zN P O lo fuel c env F G k = some r → zFK P c env F G k r
  | .skip, env, F, G, k, r, h => ⟨.normal, env, F, G, h, fun B K w0 m w a Q hR hE hQ => wp_skip (hQ m w a m.le_refl hR hE rfl)⟩
  | .region id ops draw, env, F, G, k, r, h => by
    obtain ⟨env', F', G', h1, h2⟩ := zAU hm hO hN h
    exact ⟨.normal, env', F', G', h1, h2⟩
  | .seq x y, env, F, G, k, r, h => by
    simp only [zN] at h
    split at h
    · cases hmq : zAA lo (4 * zeq y + 2)
      · rw [hmq, cond_false] at h
        replace h := zzy h
        obtain ⟨e, env1, F1, G1, h1, h2⟩ := zdx hm hO hN x h
        cases e with
        | normal =>
          simp only at h1
          obtain ⟨e', env2, F2, G2, h3, h4⟩ := zdx hm hO hN y h1
          refine ⟨e', env2, F2, G2, h3, fun B K w0 m w a Q hR hE hQ => wp_seq (h2 B K w0 m w a _ hR hE fun m1 w1 a1 l r1 e1 d1 => ?_)⟩
          exact h4 B K w0 m1 w1 a1 Q r1 e1 (hQ.le l d1)
        | exit id => exact ⟨_, env1, F1, G1, h1, fun B K w0 m w a Q hR hE hQ => wp_seq (h2 B K w0 m w a _ hR hE hQ)⟩
        | ret => exact ⟨_, env1, F1, G1, h1, fun B K w0 m w a Q hR hE hQ => wp_seq (h2 B K w0 m w a _ hR hE hQ)⟩
      · rw [hmq, cond_true] at h
        replace h := zzy h
        obtain ⟨e, env1, F1, G1, h1, h2⟩ := zdx hm hO hN x h
        have drop := fun {B K : Nat → Prop} {w0 : World} {m m1 : Map} {w w1 : World} {tmps : Array Value} (hR : HRel P B K w0 m F G w) (l : m.le m1) (r1 : HRel P B K w0 m1 F1 G1 w1) (e1 : zbb m1 env1 tmps) =>
          zzC hR l r1 (e1.keepE lo (4 * zeq y + 3) e)
        cases e with
        | normal =>
          simp only [kpD] at h1
          obtain ⟨e', env2, F2, G2, h3, h4⟩ := zdx hm hO hN y h1
          refine ⟨e', env2, F2, G2, h3, fun B K w0 m w a Q hR hE hQ => wp_seq (h2 B K w0 m w a _ hR (hE.keep lo _) fun m1 w1 a1 l r1 e1 d1 => ?_)⟩
          obtain ⟨m2, l2, r2, e2⟩ := drop hR l r1 e1
          exact h4 B K w0 m2 w1 a1 Q r2 e2 (hQ.le l2 d1)
        | exit id => exact ⟨_, _, _, G1, h1, fun B K w0 m w a Q hR hE hQ => wp_seq (h2 B K w0 m w a _ hR (hE.keep lo _) fun m1 w1 a1 l r1 e1 d1 => by
            obtain ⟨m2, l2, r2, e2⟩ := drop hR l r1 e1
            exact hQ m2 w1 a1 l2 r2 e2 d1)⟩
        | ret => exact ⟨_, _, _, G1, h1, fun B K w0 m w a Q hR hE hQ => wp_seq (h2 B K w0 m w a _ hR (hE.keep lo _) fun m1 w1 a1 l r1 e1 d1 => by
            obtain ⟨m2, l2, r2, e2⟩ := drop hR l r1 e1
            exact hQ m2 w1 a1 l2 r2 e2 d1)⟩
    · obtain ⟨e, env1, F1, G1, h1, h2⟩ := zdx hm hO hN x h
      cases e with
      | normal =>
        simp only at h1
        obtain ⟨e', env2, F2, G2, h3, h4⟩ := zdx hm hO hN y h1
        refine ⟨e', env2, F2, G2, h3, fun B K w0 m w a Q hR hE hQ => wp_seq (h2 B K w0 m w a _ hR hE fun m1 w1 a1 l r1 e1 d1 => ?_)⟩
        exact h4 B K w0 m1 w1 a1 Q r1 e1 (hQ.le l d1)
      | exit id => exact ⟨_, env1, F1, G1, h1, fun B K w0 m w a Q hR hE hQ => wp_seq (h2 B K w0 m w a _ hR hE hQ)⟩
      | ret => exact ⟨_, env1, F1, G1, h1, fun B K w0 m w a Q hR hE hQ => wp_seq (h2 B K w0 m w a _ hR hE hQ)⟩
  | .cond c x y, env, F, G, k, r, h => by
    simp only [zN] at h
    split at h
    · rename_i t ht
      have hc : ∀ {m : Map} {a : Act}, zbb m env a.tmps → a.eval c = .bool t := by
        intro m a hE
        have hb := zO hE ht
        generalize a.eval c = cv at hb
        cases hb
        rfl
      cases t
      · obtain ⟨e, env1, F1, G1, h1, h2⟩ := zdx hm hO hN y h
        exact ⟨e, env1, F1, G1, h1, fun B K w0 m w a Q hR hE hQ => wp_cond_false (hc hE) (h2 B K w0 m w a Q hR hE hQ)⟩
      · obtain ⟨e, env1, F1, G1, h1, h2⟩ := zdx hm hO hN x h
        exact ⟨e, env1, F1, G1, h1, fun B K w0 m w a Q hR hE hQ => wp_cond_true (hc hE) (h2 B K w0 m w a Q hR hE hQ)⟩
    · cases h
  | .block id c, env, F, G, k, r, h => by
    simp only [zN] at h
    obtain ⟨e, env1, F1, G1, h1, h2⟩ := zdx hm hO hN c h
    cases e with
    | normal => exact ⟨_, env1, F1, G1, h1, fun B K w0 m w a Q hR hE hQ => wp_block (h2 B K w0 m w a _ hR hE hQ)⟩
    | exit j =>
      simp only at h1
      by_cases hj : j = id
      · rw [if_pos hj] at h1
        exact ⟨_, env1, F1, G1, h1, fun B K w0 m w a Q hR hE hQ => wp_block (h2 B K w0 m w a _ hR hE fun m1 w1 a1 l r1 e1 d1 => by
          simp only [zvk, Exit.inBlock, hj, if_true]; exact hQ m1 w1 a1 l r1 e1 d1)⟩
      · rw [if_neg hj] at h1
        exact ⟨_, env1, F1, G1, h1, fun B K w0 m w a Q hR hE hQ => wp_block (h2 B K w0 m w a _ hR hE fun m1 w1 a1 l r1 e1 d1 => by
          simp only [zvk, Exit.inBlock, hj, if_false]; exact hQ m1 w1 a1 l r1 e1 d1)⟩
    | ret => exact ⟨_, env1, F1, G1, h1, fun B K w0 m w a Q hR hE hQ => wp_block (h2 B K w0 m w a _ hR hE hQ)⟩
  | .loop c, env, F, G, k, r, h => by
    simp only [zN] at h
    cases hmq : zAA lo (4 * zeq c)
    · rw [hmq, cond_false] at h
      have key : ∀ (n : Nat) {env : List IV} {F : List (List IV)} {G : GH}, zJ (fun env F G k => zN P O lo fuel c env F G k) n env F G k = some r →
          ∃ e env' F' G', k e env' F' G' = some r ∧ ∀ (B K : Nat → Prop) (w0 : World) (m : Map) (w : World) (a : Act) (Q : Exit → Act → World → Prop), HRel P B K w0 m F G w → zbb m env a.tmps →
            zmL P B K w0 m env' F' G' a (Q (zvk e)) → Code.rounds P c Q n a w := by
        intro n
        induction n with
        | zero => intro env F G h; simp [zJ] at h
        | succ n ih =>
          intro env F G h
          simp only [zJ] at h
          obtain ⟨e, env1, F1, G1, h1, h2⟩ := zdx hm hO hN c h
          cases e with
          | normal =>
            simp only at h1
            obtain ⟨e', env2, F2, G2, h3, h4⟩ := ih h1
            refine ⟨e', env2, F2, G2, h3, fun B K w0 m w a Q hR hE hQ => ?_⟩
            rw [rounds_succ]
            exact h2 B K w0 m w a _ hR hE fun m1 w1 a1 l r1 e1 d1 => h4 B K w0 m1 w1 a1 Q r1 e1 (hQ.le l d1)
          | exit j => exact ⟨_, _, F1, G1, h1, fun B K w0 m w a Q hR hE hQ => by rw [rounds_succ]; exact h2 B K w0 m w a _ hR hE hQ⟩
          | ret => exact ⟨_, _, F1, G1, h1, fun B K w0 m w a Q hR hE hQ => by rw [rounds_succ]; exact h2 B K w0 m w a _ hR hE hQ⟩
      obtain ⟨e, env1, F1, G1, h1, h2⟩ := key fuel h
      exact ⟨e, env1, F1, G1, h1, fun B K w0 m w a Q hR hE hQ => wp_loop_rounds fuel (h2 B K w0 m w a Q hR hE hQ)⟩
    · rw [hmq, cond_true] at h
      have key : ∀ (n : Nat) {env : List IV} {F : List (List IV)} {G : GH}, zJ (fun env F G k => zN P O lo fuel c env F G (kpD lo (4 * zeq c) F.length k)) n env F G k = some r →
          ∃ e env' F' G', k e env' F' G' = some r ∧ ∀ (B K : Nat → Prop) (w0 : World) (m : Map) (w : World) (a : Act) (Q : Exit → Act → World → Prop), HRel P B K w0 m F G w → zbb m env a.tmps →
            zmL P B K w0 m env' F' G' a (Q (zvk e)) → Code.rounds P c Q n a w := by
        intro n
        induction n with
        | zero => intro env F G h; simp [zJ] at h
        | succ n ih =>
          intro env F G h
          simp only [zJ] at h
          obtain ⟨e, env1, F1, G1, h1, h2⟩ := zdx hm hO hN c h
          have drop := fun {B K : Nat → Prop} {w0 : World} {m m1 : Map} {w w1 : World} {tmps : Array Value} (hR : HRel P B K w0 m F G w) (l : m.le m1) (r1 : HRel P B K w0 m1 F1 G1 w1) (e1 : zbb m1 env1 tmps) =>
            zzC hR l r1 (e1.keepE lo (4 * zeq c) e)
          cases e with
          | normal =>
            simp only [kpD] at h1
            obtain ⟨e', env2, F2, G2, h3, h4⟩ := ih h1
            refine ⟨e', env2, F2, G2, h3, fun B K w0 m w a Q hR hE hQ => ?_⟩
            rw [rounds_succ]
            exact h2 B K w0 m w a _ hR hE fun m1 w1 a1 l r1 e1 d1 => by
              obtain ⟨m2, l2, r2, e2⟩ := drop hR l r1 e1
              exact h4 B K w0 m2 w1 a1 Q r2 e2 (hQ.le l2 d1)
          | exit j => exact ⟨_, _, _, G1, h1, fun B K w0 m w a Q hR hE hQ => by
              rw [rounds_succ]
              exact h2 B K w0 m w a _ hR hE fun m1 w1 a1 l r1 e1 d1 => by
                obtain ⟨m2, l2, r2, e2⟩ := drop hR l r1 e1
                exact hQ m2 w1 a1 l2 r2 e2 d1⟩
          | ret => exact ⟨_, _, _, G1, h1, fun B K w0 m w a Q hR hE hQ => by
              rw [rounds_succ]
              exact h2 B K w0 m w a _ hR hE fun m1 w1 a1 l r1 e1 d1 => by
                obtain ⟨m2, l2, r2, e2⟩ := drop hR l r1 e1
                exact hQ m2 w1 a1 l2 r2 e2 d1⟩
      obtain ⟨e, env1, F1, G1, h1, h2⟩ := key fuel h
      exact ⟨e, env1, F1, G1, h1, fun B K w0 m w a Q hR hE hQ => wp_loop_rounds fuel (h2 B K w0 m w a Q hR (hE.keep lo _) hQ)⟩
  | .exit id, env, F, G, k, r, h => ⟨.exit id, env, F, G, h, fun B K w0 m w a Q hR hE hQ => wp_exit (hQ m w a m.le_refl hR hE rfl)⟩
  | .ret, env, F, G, k, r, h => ⟨.ret, env, F, G, h, fun B K w0 m w a Q hR hE hQ => wp_ret (hQ m w a m.le_refl hR hE rfl)⟩
  | .rangeFunc _ _ _ _, env, F, G, k, r, h => by simp [zN] at h
  | .scope _, env, F, G, k, r, h => by simp [zN] at h
  | .label _, env, F, G, k, r, h => by simp [zN] at h
  | .goto _, env, F, G, k, r, h => by simp [zN] at h
  | .refuse _, env, F, G, k, r, h => by simp [zN] at h
theorem zCr {R : Type} {t : TypeId} {x : IV} {k : IV → Option R} {r : R} (h : zdh P t x F G k = some r) : ∃ v, k v = some r ∧ zdh P t x F G some = some v := by
  rw [zce] at h
  cases hv : zdh P t x F G some with
  | none => rw [hv] at h; cases h
  | some v => rw [hv] at h; exact ⟨v, h, rfl⟩
def zGI (tmps : Array Value) : ResultVar → Sem Value
  | .tmp t => pure (tmps.getD t Go.undef)
  | .cell a t => do loadVar t (← asAddr (tmps.getD a Go.undef))
theorem zAJ (fn : Func) (tmps : Array Value) : results fn tmps = (do let vs ← fn.results.mapM (zGI tmps); pure (if h : vs.size = 1 then vs[0] else .tuple vs)) := by
  unfold results
  congr 1
theorem zAF (ad : Addr) : (asAddr (.pointer (some ad))).run P w = .ok ad w := rfl
theorem zy9 : ∀ (rs : List ResultVar) {k : List IV → Option R} {r : R}, zBG P env F G rs k = some r →
    ∃ vs, k vs = some r ∧ ∀ (m : Map) (w : World) (tmps : Array Value), MemOk P m F G w → zbb m env tmps →
      ∃ vs' : List Value, (rs.mapM (zGI tmps)).run P w = .ok vs' w ∧ zv4 m vs vs'
  | [], k, r, h => ⟨[], h, fun m w tmps hM hE => ⟨[], rfl, rfl, fun i iv v h => by simp at h⟩⟩
  | .tmp t :: rs, k, r, h => by
    simp only [zBG] at h
    split at h
    · rename_i v hv
      obtain ⟨vs, h1, h2⟩ := zy9 rs h
      refine ⟨v :: vs, h1, fun m w tmps hM hE => ?_⟩
      obtain ⟨vs', h3, h4⟩ := h2 m w tmps hM hE
      obtain ⟨v', hv', hr⟩ := hE.getv hv
      refine ⟨v' :: vs', ?_, by simp [h4.1], fun i iv x a b => ?_⟩
      · rw [List.mapM_cons]
        simp only [Sem.run_bind, zGI, Sem.run_pure, Result.andThen_ok, zuf hv']
        rw [h3]; rfl
      · cases i with
        | zero => simp at a b; subst a; subst b; exact hr
        | succ i => exact h4.2 i iv x (by simpa using a) (by simpa using b)
    · cases h
  | .cell c t :: rs, k, r, h => by
    simp only [zBG] at h
    split at h
    · rename_i x hx
      obtain ⟨v, h0, hl⟩ := zCr h
      obtain ⟨vs, h1, h2⟩ := zy9 rs h0
      refine ⟨v :: vs, h1, fun m w tmps hM hE => ?_⟩
      obtain ⟨vs', h3, h4⟩ := h2 m w tmps hM hE
      obtain ⟨x', hx', hr⟩ := hE.getv hx
      obtain ⟨ad, v1, v', q1, q2, q3, q4⟩ := zvP hM hl hr
      injection q4 with q4
      subst q4
      refine ⟨v' :: vs', ?_, by simp [h4.1], fun i iv y a b => ?_⟩
      · rw [List.mapM_cons]
        have hc : (zGI tmps (.cell c t)).run P w = .ok v' w := by
          simp only [zGI, zuf hx', q1, Sem.run_bind, zAF, Result.andThen_ok, q2 w ⟨fun _ _ _ _ _ => rfl, fun _ _ _ _ _ _ _ _ => rfl⟩]
        simp only [Sem.run_bind, hc, h3, Result.andThen_ok, Sem.run_pure]
      · cases i with
        | zero => simp at a b; subst a; subst b; exact q3
        | succ i => exact h4.2 i iv y (by simpa using a) (by simpa using b)
    · cases h
theorem zA0 {m : Map} {args : List IV} {args' : Array Value} (hA : zgq m args args') (n : Nat) : zgq m (args ++ List.replicate (n - args.length) za) (args' ++ Array.replicate (n - args'.size) Go.undef) := by
  have hs := hA.1
  refine hA.append ⟨by simp [hs], fun i iv v a b => ?_⟩
  have h1 : iv = za := by
    have := List.mem_of_getElem? a
    exact (List.mem_replicate.1 this).2
  have h2 : v = Go.undef := by
    have := Array.mem_of_getElem? b
    exact (Array.mem_replicate.1 this).2
  rw [h1, h2]; exact VRel.undef m
theorem HRel.dropF (h : HRel P B K w0 m F G w) : HRel P B K w0 m.noF [] G w :=
  { bk := h.bk, frame := h.frame, os := h.os, tape := h.tape, output := h.output, size := h.size, gdom := h.gdom, fdom := fun k b hb => by cases hb
    gblk := fun b k e hk hm he => by
      obtain ⟨c, t, fr, hg⟩ := h.gblk b k e hk hm he
      exact ⟨c, t, fr, { row := hg.row, fits := hg.fits, cells := hg.cells, ro := hg.ro, esz := hg.esz, rw := hg.rw }⟩
    fblk := fun i cs b hi => by simp at hi
    ginj := h.ginj
    gf := fun b i k e r _ _ _ hr => by cases hr
    finj := fun i j r s hr => by cases hr }
theorem zzF (hm : P.follows .mixedOrders = true) (hO : zqa P O) (hN : zrD O) {f : FuncId} {fn : Func} (hf : P.funcs[f]? = some fn) (hn : (fn.name == "runtime.NumGoroutine") = false) {fuel : Nat} {args : List IV} {k : IV → GH → Option R}
    (h : zf P O lo fuel fn args G k = some r) :
    ∃ v G', k v G' = some r ∧ zeN v = true ∧ ∀ (B K : Nat → Prop) (w0 : World) (m : Map) (w : World) (args' : Array Value), (∀ i, m.f i = none) → zgq m args args' → HRel P B K w0 m [] G w →
      zgi P f args' w fun v' w' => ∃ m', m.le m' ∧ (∀ i, m'.f i = none) ∧ HRel P B K w0 m' [] G' w' ∧ VRel m' v v' := by
  unfold zf at h
  split at h
  · rename_i hb
    exact zBh hf hn hb h
  · rename_i c hc
    obtain ⟨e, env', F', G', h1, h2⟩ := zdx hm hO hN c h
    have fin : ∀ {e : Ex}, (e = .normal ∨ e = .ret) → zEx P fn env' F' G' k = some r → (∀ (B K : Nat → Prop) (w0 : World) (m : Map) (w : World) (a : Act) (Q : Exit → Act → World → Prop), HRel P B K w0 m [] G w → zbb m (args ++ List.replicate (fn.ntmps - args.length) za) a.tmps →
        zmL P B K w0 m env' F' G' a (Q (zvk e)) → c.wp P Q a w) →
        ∃ v G', k v G' = some r ∧ zeN v = true ∧ ∀ (B K : Nat → Prop) (w0 : World) (m : Map) (w : World) (args' : Array Value), (∀ i, m.f i = none) → zgq m args args' → HRel P B K w0 m [] G w →
          zgi P f args' w fun v' w' => ∃ m', m.le m' ∧ (∀ i, m'.f i = none) ∧ HRel P B K w0 m' [] G' w' ∧ VRel m' v v' := by
      intro e he h1 h2
      unfold zEx at h1
      obtain ⟨vs, h3, h4⟩ := zy9 _ h1
      have out : ∃ v, k v G' = some r ∧ zeN v = true ∧ ∀ (m : Map) (w : World) (tmps : Array Value), MemOk P m F' G' w → zbb m env' tmps → ∃ v', (results fn tmps).run P w = .ok v' w ∧ VRel m v v' := by
        have hres : ∀ (tmps : Array Value) (w : World) (vs' : List Value), (fn.results.toList.mapM (zGI tmps)).run P w = .ok vs' w →
            (results fn tmps).run P w = .ok (if h : vs'.toArray.size = 1 then vs'.toArray[0] else .tuple vs'.toArray) w := by
          intro tmps w vs' hvs
          rw [zAJ, Sem.run_bind, Array.mapM_eq_mapM_toList, Sem.run_map, hvs]
          rfl
        by_cases hl : ∃ v, vs = [v]
        · obtain ⟨v, rfl⟩ := hl
          simp only at h3
          split at h3
          · rename_i hnl
            refine ⟨v, h3, hnl, fun m w tmps hM hE => ?_⟩
            obtain ⟨vs', h5, h6⟩ := h4 m w tmps hM hE
            have hlen : vs'.length = 1 := h6.1.symm
            match vs', hlen with
            | [v'], _ => exact ⟨v', hres tmps w [v'] h5, h6.2 0 v v' rfl rfl⟩
          · cases h3
        · have h3' : (if zab vs then k (.tuple vs) G' else none) = some r := by
            match vs, hl, h3 with
            | [], _, h3 => exact h3
            | [v], hl, _ => exact absurd ⟨v, rfl⟩ hl
            | _ :: _ :: _, _, h3 => exact h3
          split at h3'
          · rename_i hnl
            refine ⟨.tuple vs, h3', by simpa [zeN] using hnl, fun m w tmps hM hE => ?_⟩
            obtain ⟨vs', h5, h6⟩ := h4 m w tmps hM hE
            have hne : vs'.toArray.size ≠ 1 := by
              intro hc
              have : vs.length = 1 := by rw [h6.1]; simpa using hc
              match vs, hl, this with
              | [v], hl, _ => exact hl ⟨v, rfl⟩
            refine ⟨.tuple vs'.toArray, ?_, .tuple vs vs'.toArray (by simpa using h6.1) fun i iv v a b => h6.2 i iv v a (by simpa using b)⟩
            have := hres tmps w vs' h5
            rw [dif_neg hne] at this
            exact this
          · cases h3'
      obtain ⟨v, h5, h6, h7⟩ := out
      refine ⟨v, G', h5, h6, fun B K w0 m w args' hmf hA hR => .inl ⟨?_, ?_⟩⟩
      · have hn' : ¬ fn.name = "runtime.NumGoroutine" := by simpa using hn
        simp [callFunc, hf, hn', hc]
      · refine calls_of_wp hf hc (h2 B K w0 m w _ _ hR (zA0 hA fn.ntmps).toE fun m1 w1 a1 l r1 e1 d1 => ?_)
        obtain ⟨v', q1, q2⟩ := h7 m1 w1 a1.tmps r1.mem e1
        have hle : m.le m1.noF := ⟨l.1, fun k b hk => by rw [hmf k] at hk; cases hk⟩
        have hpost : a1.defers = [] ∧ ∃ v, (results fn a1.tmps).run P w1 = .ok v w1 ∧ (∃ v2, Ending.returned v = .returned v2 ∧ ∃ m', m.le m' ∧ (∀ i, m'.f i = none) ∧ HRel P B K w0 m' [] G' w1 ∧ VRel m' _ v2) :=
          ⟨d1, v', q1, v', rfl, m1.noF, hle, fun _ => rfl, r1.dropF, q2.noF h6⟩
        rcases he with rfl | rfl <;> exact hpost
    cases e with
    | normal => exact fin (.inl rfl) h1 h2
    | ret => exact fin (.inr rfl) h1 h2
    | exit j => cases h1
theorem HRel.empty (w : World) : HRel P (fun b => b < w.heap.size) (fun b => b < w.heap.size) w ⟨fun _ => none, fun _ => none⟩ [] [] w where
  bk := fun b hb => hb
  frame := fun b hb => ⟨hb, rfl⟩
  os := rfl
  tape := rfl
  output := rfl
  size := Nat.le_refl _
  gdom := fun b e h => by cases h
  fdom := fun k b h => by cases h
  gblk := fun b k e h => by simp at h
  fblk := fun i cs b h => by simp at h
  ginj := fun b1 b2 k1 k2 e1 e2 h => by simp at h
  gf := fun b i k e r h => by simp at h
  finj := fun i j r s h => by cases h
theorem zB4 {f : FuncId} {args : List IV} {G : GH} {k : IV → GH → Option R} {r : R} {X : (IV → GH → Option R) → Option R} (hfl : zeU args = true)
    (H : X (fun v _ => if zax v then k v G else none) = some r → ∃ v G', (fun v (_ : GH) => if zax v then k v G else none) v G' = some r ∧ zeN v = true ∧ ∀ (B K : Nat → Prop) (w0 : World) (m : Map) (w : World) (args' : Array Value), (∀ i, m.f i = none) → zgq m args args' → HRel P B K w0 m [] [] w →
      zgi P f args' w fun v' w' => ∃ m', m.le m' ∧ (∀ i, m'.f i = none) ∧ HRel P B K w0 m' [] G' w' ∧ VRel m' v v')
    (h : X (fun v _ => if zax v then k v G else none) = some r) :
    ∃ v G', k v G' = some r ∧ zeN v = true ∧ ∀ (B K : Nat → Prop) (w0 : World) (m : Map) (w : World) (args' : Array Value), (∀ i, m.f i = none) → zgq m args args' → HRel P B K w0 m [] G w →
      zgi P f args' w fun v' w' => ∃ m', m.le m' ∧ (∀ i, m'.f i = none) ∧ HRel P B K w0 m' [] G' w' ∧ VRel m' v v' := by
  obtain ⟨v, G', h1, h2, h3⟩ := H h
  simp only at h1
  split at h1
  · rename_i hv
    refine ⟨v, G, h1, h2, fun B K w0 m w args' hmf hA hR => ?_⟩
    refine (h3 _ _ w ⟨fun _ => none, fun _ => none⟩ w args' (fun _ => rfl) ⟨hA.1, fun i iv x a b => zjs.flat_any (hA.2 i iv x a b) (zms.flats_get hfl a)⟩ (HRel.empty w)).mono ?_
    rintro v' w' ⟨m', q1, q2, q3, q4⟩
    refine ⟨m, m.le_refl, hmf, hR.grow ⟨q3.os, q3.tape, q3.output, q3.size, fun b hb => (q3.frame b hb).2⟩, zjs.flat_any q4 hv⟩
  · cases h1
end
end Go.LI
namespace Go.LI
open Go
def nav (c : Code) : List Nat → Code
  | [] => c
  | d :: ds => match c with
    | .seq a b => nav (if d = 0 then a else b) ds
    | .cond _ a b => nav (if d = 0 then a else b) ds
    | .block _ c => nav c ds
    | .loop c => nav c ds
    | c => c
def ze {R : Type} (P : Program) (O : Ora R) (lo : List Nat) (fuel : Nat) (c : Code) : List Nat → (Ex → List IV → List (List IV) → GH → Option R) → (Ex → List IV → List (List IV) → GH → Option R)
  | [], k => k
  | d :: ds, k => match c with
    | .seq a b => if d = 0 then ze P O lo fuel a ds (fun e env F G => match e with
        | .normal => zN P O lo fuel b env F G k
        | e => k e env F G) else ze P O lo fuel b ds k
    | .cond _ a b => if d = 0 then ze P O lo fuel a ds k else ze P O lo fuel b ds k
    | .block id c => ze P O lo fuel c ds (fun e env F G => match e with
        | .exit j => if j = id then k .normal env F G else k (.exit j) env F G
        | e => k e env F G)
    | _ => k
end Go.LI
namespace Go.LI
def zDX {R : Type} (body : List IV → List (List IV) → GH → (Ex → List IV → List (List IV) → GH → Option R) → Option R) (n : Nat) (k : Ex → List IV → List (List IV) → GH → Option R) :
    Ex → List IV → List (List IV) → GH → Option R := fun e env F G => match e with
  | .normal => zJ body n env F G k
  | e => k e env F G
variable {R : Type} {body : List IV → List (List IV) → GH → (Ex → List IV → List (List IV) → GH → Option R) → Option R} {n : Nat} {env : List IV} {F : List (List IV)} {G : GH} {k : Ex → List IV → List (List IV) → GH → Option R}
theorem zaU : zJ body (n + 1) env F G k = body env F G (zDX body n k) := rfl
theorem zah : zDX body n k .normal env F G = zJ body n env F G k := rfl
theorem zaS {i : Nat} : zDX body n k (.exit i) env F G = k (.exit i) env F G := rfl
theorem zbI : zDX body n k .ret env F G = k .ret env F G := rfl
theorem zaV {x : Option R} : zi (n + 1) x = x := rfl
end Go.LI
namespace Go.LI
open Go Go.RowKit
section
variable {P : Program}
def zCn (P : Program) : Bool := P.funcs.toList.all fun fn => !(fn.name == "runtime.NumGoroutine")
theorem noCount_spec (h : zCn P = true) (f : Nat) (fn : Func) (hf : P.funcs[f]? = some fn) : (fn.name == "runtime.NumGoroutine") = false := by
  have := List.all_eq_true.1 h fn (by
    obtain ⟨hlt, he⟩ := Array.getElem?_eq_some_iff.1 hf
    rw [← he]; simp)
  simpa using this
theorem run_pure {R : Type} {lo : Nat → List Nat} {l : List Nat} {fuel n : Nat} {f : Nat} {fn : Func} {args : List IV} {G : GH} {k : IV → GH → Option R} (hf : P.funcs[f]? = some fn) (hl : lo f = l) (hp : l.contains zp5 = true) (ha : zeU args = true) :
    runC P lo fuel (n + 1) f args G k = zf P (runC P lo fuel n) l fuel fn args [] (fun v _ => if zax v then k v G else none) := by
  simp only [runC, hf, hl, hp, ha, if_true]
theorem zh {R : Type} {lo : Nat → List Nat} {l : List Nat} {fuel n : Nat} {f : Nat} {fn : Func} {args : List IV} {G : GH} {k : IV → GH → Option R} (hf : P.funcs[f]? = some fn) (hl : lo f = l) (hp : l.contains zp5 = false) :
    runC P lo fuel (n + 1) f args G k = zf P (runC P lo fuel n) l fuel fn args G k := by
  simp only [runC, hf, hl, hp, Bool.false_eq_true, if_false]
end
end Go.LI
namespace Go.LI
open Go
def mkG : Nat → Nat → List (Nat × IV) → List IV
  | 0, _, _ => []
  | n + 1, i, [] => .any :: mkG n (i + 1) []
  | n + 1, i, (j, v) :: l => bif j == i then v :: mkG n (i + 1) l else .any :: mkG n (i + 1) ((j, v) :: l)
def mkE (n : Nat) (l : List (Nat × IV)) : List IV := mkG n 0 l
section
variable {R : Type}
def zd (P : Program) (O : Ora R) (lo : List Nat) (fuel : Nat) (c : Code) (h : Nat) : List IV → List (List IV) → GH → (Ex → List IV → List (List IV) → GH → Option R) → Option R :=
  fun env F G k => zN P O lo fuel c env F G (kpD lo h F.length k)
end
end Go.LI
namespace Go.LI
open Go Ieee
def nn (f : Format) (x : Nat) : Prop := (f.read x).isNaN = false
theorem zFP (f : Format) (neg : Bool) {rung : Nat} (h : rung ≤ f.infRung) : nn f (f.word neg rung) := by
  have hlt : rung < f.signWeight := Nat.lt_of_le_of_lt h f.infRung_lt
  have hmod : f.word neg rung % f.signWeight = rung := by
    unfold Format.word
    split
    · rw [Nat.add_mod_left, Nat.mod_eq_of_lt hlt]
    · exact Nat.mod_eq_of_lt hlt
  unfold nn Format.read
  simp only [hmod]
  split
  · rfl
  · split
    · rfl
    · rw [if_pos (by omega)]; rfl
theorem zAS {d : Datum} (h : d.isNaN = false) : d.order d = some .eq := by
  cases d with
  | number s m e => simp [Datum.order, compare, compareOfLessAndEq]
  | infinity s => simp [Datum.order, compare, compareOfLessAndEq]
  | nan => cases h
theorem zD3 {k : FloatKind} {x : Nat} (h : nn k.format x) : feq k x x = true := by
  unfold feq Format.order
  rw [zAS h]
  rfl
end Go.LI
namespace Go.LI
open Go Go.RowKit Go.WideShapes Go.ChangeShapes
section
variable {H : Type} {enc : TypeId × Value → H} {P : Program}
theorem zEs {f : Func} {s : ChangeSpec} {apart fresh handsOn again : Bool} {W W' : World} {args : Array Value} {ds gs : List (DataW H)} {before pa pv : List MemPlace} {t : TypeId}
    (hW : DataW.Whole enc P f.params.toList s.vars apart W args.toList ds gs before)
    (ht : P.underlying t = some .bool) (hrt : f.resultTypes = #[t]) (hsr : (s.fn H (ds ++ gs)).results = [.lit (.bool true)])
    (hargs : ∀ sp : Nat → Bool, (∀ p ∈ before, sp p.block = true) → DataW.TrodAll enc P W' 0 sp true f.params.toList args.toList (s.fn H (ds ++ gs)).args pa)
    (hvars : ∀ sp : Nat → Bool, (∀ p ∈ before, sp p.block = true) → DataW.TrodVars enc P W' sp s.vars (s.fn H (ds ++ gs)).vars pv)
    (hps : before = pa ++ pv) (hb : Below W.heap.size W W') :
    s.post enc P f apart fresh handsOn again W args (.bool true) W' := by
  have hres : ∀ (b : Nat) (sp : Nat → Bool) (hd : Bool), DataW.TrodAll enc P W' b sp hd f.resultTypes.toList ((Value.bool true).resultList f.resultTypes.size) (s.fn H (ds ++ gs)).results [] := by
    intro b sp hd
    rw [hsr, hrt]
    exact trodAll_cons_mk (shut_bool ht _) trodAll_mk0
  have hok : ∀ (j : Nat) (u : TypeId) (r : Value), f.resultTypes[j]? = some u → ((Value.bool true).resultList f.resultTypes.size)[j]? = some r → Value.okWide P W' .any 0 u r :=
    ok_one hrt rfl (okWide_bool_mk ht _)
  have hin : ∀ p ∈ before, p.block < W.heap.size := fun p hp => hW.lt p hp
  have hmem : ∀ p ∈ before, (fun b => decide (b < W.heap.size)) p.block = true := fun p hp => decide_eq_true (hin p hp)
  have hkept : ∀ p ∈ ([] ++ pa) ++ pv, p ∈ before := fun p hp => by rw [hps]; simpa using hp
  refine ⟨ds, gs, before, [], pa, pv, hW, hres _ _ _, hargs _ hmem, hvars _ hmem, World.keptBut_mono (fun p hp => ⟨hp, Or.inr ?_⟩) (hb.frame (· ∈ before)), fun _ => ?_⟩
  · rw [hps] at hp
    exact List.mem_append.1 hp
  · obtain ⟨_, _, _, _, _, hz, hn⟩ := hW
    refine ⟨hok, _, _, ([] ++ pa) ++ pv, ⟨[] ++ pa, pv, trodAll_append (hargs _ (fun _ _ => rfl)) (hres _ _ _), hvars _ (fun _ _ => rfl), rfl, fun b off hp => ?_, fun ha => ?_⟩, fun p hp _ => hkept p hp⟩
    · have hq : MemPlace.cell b off ∈ before := by rw [hps]; simpa using hp
      rw [hb.frozen (hin _ hq)]
      exact hz b off hq
    · have hx := hn ha
      rw [hps] at hx
      simpa using hx
end
end Go.LI
namespace Go.LI
open Go Go.RowKit Go.ChangeShapes Go.WideShapes Go.WideElems
section
variable {H : Type} {enc : TypeId × Value → H} {P : Program}
def zFC (P : Program) (ts : List TypeId) : Bool := ts.all fun t => P.readableRec t && decide (t < P.types.size)
theorem zpi (hl : laidOutB P = true) {W W' : World} (hb : Below W.heap.size W W') {sp : Nat → Bool} : ∀ {ts : List TypeId} {vs : List Value} {ds : List (DataW H)} {ps : List MemPlace}, zFC P ts = true →
    DataW.TrodAll enc P W 0 (fun _ => true) true ts vs ds ps → (∀ p ∈ ps, p.block < W.heap.size) → (∀ p ∈ ps, sp p.block = true) → DataW.TrodAll enc P W' 0 sp true ts vs ds ps
  | [], [], [], ps, _, h, _, _ => h
  | t :: ts, v :: vs, d :: ds, ps, hr, h, hlt, hsp => by
    obtain ⟨v', vs', d', ds', p, q, e1, e2, e3, h1, h2⟩ := trodAll_cons h
    simp only [zFC, List.all_cons, Bool.and_eq_true, decide_eq_true_eq] at hr
    injection e1 with e1 e1'
    injection e2 with e2 e2'
    subst e1; subst e1'; subst e2; subst e2'; subst e3
    refine trodAll_cons_mk (Trod_stays hl hr.1.1 hr.1.2 h1 (fun x hx => hb.same (hlt x (List.mem_append.2 (.inl hx)))) fun x hx => hsp x (List.mem_append.2 (.inl hx))) ?_
    exact zpi hl hb hr.2 h2 (fun x hx => hlt x (List.mem_append.2 (.inr hx))) fun x hx => hsp x (List.mem_append.2 (.inr hx))
  | [], _ :: _, _, _, _, h, _, _ => by cases h
  | [], [], _ :: _, _, _, h, _, _ => by cases h
  | _ :: _, [], _, _, _, h, _, _ => by cases h
  | _ :: _, _ :: _, [], _, _, h, _, _ => by cases h
theorem law_post {f : Func} {s : ChangeSpec} {apart fresh handsOn again : Bool} {W W' : World} {args : Array Value} {ds gs : List (DataW H)} {before : List MemPlace} {t : TypeId}
    (hW : DataW.Whole enc P f.params.toList s.vars apart W args.toList ds gs before) (hl : laidOutB P = true) (hr : zFC P f.params.toList = true) (hvars : s.vars = [])
    (ht : P.underlying t = some .bool) (hrt : f.resultTypes = #[t]) (hfn : ∀ ds, ds.length = f.params.size → (s.fn H ds).results = [.lit (.bool true)] ∧ (s.fn H ds).args = ds ∧ (s.fn H ds).vars = [])
    (hb : Below W.heap.size W W') : s.post enc P f apart fresh handsOn again W args (.bool true) W' := by
  have hW' := hW
  obtain ⟨p, q, hA, hV, hpq, hfz, hnd⟩ := hW
  rw [hvars] at hV
  obtain ⟨hg, hq⟩ := trodVars_none hV
  subst hg; subst hq
  have hlen : ds.length = f.params.size := by
    have key : ∀ {ts : List TypeId} {vs : List Value} {ds : List (DataW H)} {ps : List MemPlace}, DataW.TrodAll enc P W 0 (fun _ => true) true ts vs ds ps → ds.length = ts.length := by
      intro ts
      induction ts with
      | nil =>
        intro vs ds ps h
        cases vs <;> cases ds <;> first | rfl | cases h
      | cons t ts ih =>
        intro vs ds ps h
        obtain ⟨v', vs', d', ds', p, q, e1, e2, e3, h1, h2⟩ := trodAll_cons h
        subst e2
        simp [ih h2]
    have := key hA
    simpa using this
  obtain ⟨f1, f2, f3⟩ := hfn ds hlen
  have hin : ∀ x ∈ before, x.block < W.heap.size := fun x hx => hW'.lt x hx
  refine zEs (pa := p) (pv := []) hW' ht hrt (by simpa using f1) (fun sp hsp => ?_) (fun sp hsp => ?_) hpq hb
  · have hp : ∀ x ∈ p, x ∈ before := fun x hx => by rw [hpq]; exact List.mem_append.2 (.inl hx)
    rw [List.append_nil, f2]
    exact zpi hl hb hr hA (fun x hx => hin x (hp x hx)) fun x hx => hsp x (hp x hx)
  · rw [List.append_nil, f3, hvars]
    exact hV
end
end Go.LI
namespace Go.LI
open Go Go.RowKit Go.ChangeShapes Go.WideShapes Go.ChangeAt
section
variable {P : Program} {w : World} {r : Reach} {base : Nat} {t : TypeId} {v : Value}
end
end Go.LI
namespace Go.LI
open Go Go.RowKit
abbrev Lib := Nat → List IV → Option IV
def zFf : Map := ⟨fun _ => none, fun _ => none⟩
def zAH {R : Type} (P : Program) (lib : Lib) (lo : Nat → List Nat) (fuel : Nat) : Nat → Ora R
  | 0, _, _, _, _ => none
  | n + 1, f, args, G, k => match lib f args with
    | some v => k v G
    | none => match P.funcs[f]? with
      | some fn => if (lo f).contains zp5 then (if zeU args then zf P (zAH P lib lo fuel n) (lo f) fuel fn args [] (fun v _ => if zax v then k v G else none) else none)
        else zf P (zAH P lib lo fuel n) (lo f) fuel fn args G k
      | none => none
def zzr (P : Program) (lib : Lib) : Prop :=
  ∀ (f : Nat) (args : List IV) (v : IV), lib f args = some v → zeU args = true ∧ zax v = true ∧ zeN v = true ∧
    ∀ (w : World) (args' : Array Value), zgq zFf args args' → zgi P f args' w fun v' w' => Below w.heap.size w w' ∧ VRel zFf v v'
section
variable {R : Type} {P : Program} {lib : Lib}
theorem zHI (lo : Nat → List Nat) (fuel : Nat) : ∀ n : Nat, zrD (R := R) (zAH P lib lo fuel n)
  | 0 => fun f args G k r h => by cases h
  | n + 1 => fun f args G k r h => by
    simp only [zAH] at h
    split at h
    · rename_i v hv
      exact ⟨v, G, fun k' => by simp only [zAH]; rw [hv]⟩
    · rename_i hv
      split at h
      · rename_i fn hf
        by_cases hp : (lo f).contains zp5 = true
        · rw [if_pos hp] at h
          split at h
          · rename_i hfl
            obtain ⟨v, G', h1⟩ := zzT (zHI lo fuel n) h
            rw [h1] at h
            split at h
            · rename_i hv2
              exact ⟨v, G, fun k' => by simp only [zAH]; rw [hv, hf]; simp only; rw [if_pos hp, if_pos hfl, h1, if_pos hv2]⟩
            · cases h
          · cases h
        · rw [if_neg hp] at h
          obtain ⟨v, G', h1⟩ := zzT (zHI lo fuel n) h
          exact ⟨v, G', fun k' => by simp only [zAH]; rw [hv, hf]; simp only; rw [if_neg hp]; exact h1 k'⟩
      · cases h
theorem zFp (hm : P.follows .mixedOrders = true) (hn : ∀ (f : Nat) (fn : Func), P.funcs[f]? = some fn → (fn.name == "runtime.NumGoroutine") = false) (hL : zzr P lib) (lo : Nat → List Nat) (fuel : Nat) : ∀ n, zqa P (zAH (R := R) P lib lo fuel n)
  | 0 => fun f args G k r h => by simp [zAH] at h
  | n + 1 => fun f args G k r h hl => by
    simp only [zAH] at h
    split at h
    · rename_i v hv
      obtain ⟨h1, h2, h3, h4⟩ := hL f args v hv
      refine ⟨v, G, h, h3, fun B K w0 m w args' hmf hA hR => ?_⟩
      refine (h4 w args' ⟨hA.1, fun i iv x a b => zjs.flat_any (hA.2 i iv x a b) (zms.flats_get h1 a)⟩).mono ?_
      rintro v' w' ⟨q1, q2⟩
      exact ⟨m, m.le_refl, hmf, hR.grow q1, zjs.flat_any q2 h2⟩
    · split at h
      · rename_i fn hf
        split at h
        · split at h
          · rename_i hfl
            exact zB4 hfl (fun h => zzF hm (zFp hm hn hL lo fuel n) (zHI lo fuel n) hf (hn f fn hf) h) h
          · cases h
        · exact zzF hm (zFp hm hn hL lo fuel n) (zHI lo fuel n) hf (hn f fn hf) h
      · cases h
end
end Go.LI
