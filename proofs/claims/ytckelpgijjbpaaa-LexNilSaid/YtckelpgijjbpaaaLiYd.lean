/- A region whose order is drawn: operations that are not ordered stand apart. -/
import Derived.Test.YtckelpgijjbpaaaLiYc
set_option linter.unusedVariables false
namespace Go.LI
open Go Go.RowKit

section
variable {R : Type} {P : Program} {O : Ora R} {lo : List Nat} {sand : Bool} {all : Array Oper}

/-- One step, carried out or passed over. -/
def StepTo (P : Program) (O : Ora R) (lo : List Nat) (sand : Bool) (all : Array Oper) (o : Oper) (env : List IV) (F : List (List IV)) (G : GH) (v : IV) (F' : List (List IV)) (G' : GH) : Prop :=
  (wantI all o env = some true ∧ OpTo P O lo sand o env F G v F' G') ∨ (wantI all o env = some false ∧ v = undefI ∧ F' = F ∧ G' = G)

theorem StepTo.eq {o : Oper} {env : List IV} {F F' : List (List IV)} {G G' : GH} {v : IV} (h : StepTo P O lo sand all o env F G v F' G') (os : List Oper) (k : List IV → List (List IV) → GH → Option R) :
    opsC P O lo sand all (o :: os) env F G k = opsC P O lo sand all os (putI env o.dst v) F' G' k := by
  rcases h with ⟨hw, h⟩ | ⟨hw, rfl, rfl, rfl⟩
  · rw [opsC_cons, hw]; simp only; rw [h]
  · rw [opsC_cons, hw]
theorem step_run {o : Oper} {env : List IV} {F F' : List (List IV)} {G G' : GH} {v : IV} (hw : wantI all o env = some true) (h : OpTo P O lo sand o env F G v F' G') : StepTo P O lo sand all o env F G v F' G' := .inl ⟨hw, h⟩
theorem step_pass {o : Oper} {env : List IV} (hw : wantI all o env = some false) (F : List (List IV)) (G : GH) : StepTo P O lo sand all o env F G undefI F G := .inr ⟨hw, rfl, rfl, rfl⟩

theorem step_nat (hN : NatO O) {o : Oper} {os : List Oper} {env : List IV} {F : List (List IV)} {G : GH} {k : List IV → List (List IV) → GH → Option R} {r : R} (h : opsC P O lo sand all (o :: os) env F G k = some r) :
    ∃ v F' G', StepTo P O lo sand all o env F G v F' G' := by
  rw [opsC_cons] at h
  cases hw : wantI all o env with
  | none => rw [hw] at h; cases h
  | some b =>
    rw [hw] at h
    cases b
    · exact ⟨_, _, _, step_pass hw F G⟩
    · obtain ⟨v, F1, G1, h1⟩ := op_nat hN h
      exact ⟨v, F1, G1, step_run hw h1⟩

theorem step_cls (hN : NatO O) {o : Oper} {os : List Oper} {env : List IV} {F : List (List IV)} {G : GH} {k : List IV → List (List IV) → GH → Option R} {r : R} (h : opsC P O lo sand all (o :: os) env F G k = some r) :
    ClsG (StepTo P O lo sand all o env) F G (fpW P lo sand all env o) := by
  rw [opsC_cons] at h
  unfold fpW
  cases hw : wantI all o env with
  | none => rw [hw] at h; cases h
  | some b =>
    rw [hw] at h
    cases b
    · exact ⟨undefI, fun F2 G2 => step_pass hw F2 G2⟩
    · exact (op_cls hN h).mono fun F G v F' G' q => step_run hw q

theorem wantI_env {o : Oper} {env env2 : List IV} (h : ∀ t, t ∈ opAddrs all o → env[t]? = env2[t]?) : wantI all o env = wantI all o env2 := by
  unfold wantI
  cases hg : o.guard with
  | none => rfl
  | some jw =>
    obtain ⟨j, want⟩ := jw
    simp only
    cases hd : (all[j]?).bind (·.dst) with
    | none => rfl
    | some d =>
      simp only
      rw [h d (by simp [opAddrs, hg, hd])]
theorem fpOp_env {o : Oper} {env env2 : List IV} (h : ∀ t, t ∈ opAddrs all o → env[t]? = env2[t]?) : fpOp P lo sand env o = fpOp P lo sand env2 o := by
  unfold fpOp
  cases ho : o.op with
  | load t x =>
    simp only
    rw [ev_env (env := env) (env2 := env2) (x := x) (fun t ht => h t (by simp [opAddrs, ho, ht]))]
  | store t x y =>
    simp only
    rw [ev_env (env := env) (env2 := env2) (x := x) (fun t ht => h t (by simp [opAddrs, ho, ht]))]
  | _ => rfl
theorem fpW_env {o : Oper} {env env2 : List IV} (h : ∀ t, t ∈ opAddrs all o → env[t]? = env2[t]?) : fpW P lo sand all env o = fpW P lo sand all env2 o := by
  unfold fpW
  rw [wantI_env h, fpOp_env h]

theorem put_get_ne {env : List IV} {dst : Option Tmp} {v : IV} {t : Nat} (h : ∀ d, dst = some d → d ≠ t) : (putI env dst v)[t]? = env[t]? := by
  cases dst with
  | none => rfl
  | some d => simp [putI, List.getElem?_set_ne (h d rfl)]
theorem put_commI {env : List IV} {d1 d2 : Option Tmp} {v1 v2 : IV} (h : ∀ d, d1 = some d → d2 ≠ some d) : putI (putI env d1 v1) d2 v2 = putI (putI env d2 v2) d1 v1 := by
  cases d1 with
  | none => rfl
  | some d1 =>
    cases d2 with
    | none => rfl
    | some d2 =>
      have := h d1 rfl
      simp only [putI]
      exact List.set_comm _ _ (fun e => this (by rw [e]))

/-- What an operation looks at. -/
theorem step_env {o : Oper} {env env2 : List IV} (h : ∀ t, t ∈ o.looksAt all → env[t]? = env2[t]?) {F F' : List (List IV)} {G G' : GH} {v : IV} (hs : StepTo P O lo sand all o env F G v F' G') :
    StepTo P O lo sand all o env2 F G v F' G' := by
  have hop : ∀ t, Operand.tmp t ∈ o.op.operands → env[t]? = env2[t]? := fun t ht => h t (by
    unfold Oper.looksAt
    refine List.mem_append.2 (.inl (List.mem_filterMap.2 ⟨.tmp t, by simpa using ht, rfl⟩)))
  have hw : wantI all o env = wantI all o env2 := by
    unfold wantI
    cases hg : o.guard with
    | none => rfl
    | some jw =>
      obtain ⟨j, want⟩ := jw
      simp only
      cases hd : (all[j]?).bind (·.dst) with
      | none => rfl
      | some d =>
        simp only
        rw [h d (by simp [Oper.looksAt, hg, hd])]
  rcases hs with ⟨h1, h2⟩ | ⟨h1, h2⟩
  · exact .inl ⟨hw ▸ h1, fun k => by rw [← opC_env hop]; exact h2 k⟩
  · exact .inr ⟨hw ▸ h1, h2⟩

theorem addrs_looks {o : Oper} {t : Tmp} (h : t ∈ opAddrs all o) : t ∈ o.looksAt all := by
  unfold opAddrs at h
  unfold Oper.looksAt
  rcases List.mem_append.1 h with h | h
  · refine List.mem_append.2 (.inl (List.mem_filterMap.2 ⟨.tmp t, ?_, rfl⟩))
    split at h
    · rename_i ty t' ho
      simp at h; subst h
      simp [ho, Op.operands]
    · rename_i ty t' vv ho
      simp at h; subst h
      simp [ho, Op.operands]
    · cases h
  · exact List.mem_append.2 (.inr h)

/-- What none of them sets stays as it is. -/
theorem keep_ops (hN : NatO O) (r : R) {d : Nat} : ∀ {os : List Oper} {env E : List IV} {F F' : List (List IV)} {G G' : GH}, OpsTo P O lo sand all os env F G E F' G' → (∀ o ∈ os, o.dst ≠ some d) → E[d]? = env[d]?
  | [], env, E, F, F', G, G', h, _ => by
    classical
    have := h fun e _ _ => if e[d]? = env[d]? then some r else none
    simp only [opsC, if_true] at this
    by_cases hc : E[d]? = env[d]?
    · exact hc
    · rw [if_neg hc] at this; cases this
  | o :: os, env, E, F, F', G, G', h, hd => by
    obtain ⟨v, F1, G1, h1⟩ := step_nat hN (h fun _ _ _ => some r)
    have h2 : OpsTo P O lo sand all os (putI env o.dst v) F1 G1 E F' G' := fun k => by rw [← h1.eq]; exact h k
    rw [keep_ops hN r h2 fun o ho => hd o (by simp [ho])]
    exact put_get_ne fun d' hd' => fun e => hd o (by simp) (by rw [hd', e])

theorem late_spec {x y : Oper} (h : lateOk all x y = true) : (∀ t, t ∈ opAddrs all x → y.dst ≠ some t) ∧ (isAlloc x.op = true → ∀ d, x.dst = some d → y.dst ≠ some d) := by
  unfold lateOk at h
  cases hd : y.dst with
  | none => simp
  | some d =>
    rw [hd] at h
    simp only [Bool.and_eq_true, Bool.not_eq_true', List.contains_eq_mem, decide_eq_false_iff_not] at h
    refine ⟨fun t ht e => ?_, fun ha d' hd' e => ?_⟩
    · injection e with e; subst e; exact h.1 ht
    · injection e with e; subst e
      have := h.2
      rw [ha, hd'] at this
      simp at this
theorem self_spec {x : Oper} (h : selfOk all x = true) : ∀ t, t ∈ opAddrs all x → x.dst ≠ some t := by
  unfold selfOk at h
  cases hd : x.dst with
  | none => simp
  | some d =>
    rw [hd] at h
    simp only [Bool.not_eq_true', List.contains_eq_mem, decide_eq_false_iff_not] at h
    intro t ht e
    injection e with e; subst e; exact h ht

theorem box_is {E : List IV} {o : Oper} {n : Nat} (h : boxOf E o = some n) : isAlloc o.op = true ∧ ∃ d i, o.dst = some d ∧ E[d]? = some (.loc n i) := by
  unfold boxOf at h
  split at h
  · rename_i ha
    split at h
    · rename_i d hd
      split at h
      · rename_i n' i hE
        injection h with h; subst h
        exact ⟨ha, d, i, hd, hE⟩
      · cases h
    · cases h
  · cases h

/-- Two neighbours change places. -/
theorem swap_ops (hN : NatO O) (r : R) {x y : Oper} {rest : List Oper} {env E : List IV} {F F' : List (List IV)} {G G' : GH} (H : OpsTo P O lo sand all (x :: y :: rest) env F G E F' G')
    (hap : x.apart all y = true) (hp : pairOk P lo sand all E x y = true) (hxs : selfOk all x = true) (hys : selfOk all y = true) (hxl : ∀ z ∈ y :: rest, lateOk all x z = true) (hyl : ∀ z ∈ rest, lateOk all y z = true) :
    OpsTo P O lo sand all (y :: x :: rest) env F G E F' G' := by
  obtain ⟨a1, a2, a3⟩ := Oper.apart_spec hap
  have Hs := H fun _ _ _ => some r
  have kx : ∀ t, t ∈ opAddrs all x → env[t]? = E[t]? := fun t ht => (keep_ops hN r H fun o ho => by
    rcases List.mem_cons.1 ho with rfl | ho
    · exact self_spec hxs t ht
    · exact (late_spec (hxl o ho)).1 t ht).symm
  have ky : ∀ t, t ∈ opAddrs all y → env[t]? = E[t]? := fun t ht => (keep_ops hN r H fun o ho => by
    rcases List.mem_cons.1 ho with rfl | ho
    · exact fun e => a1 t e (addrs_looks ht)
    · rcases List.mem_cons.1 ho with rfl | ho
      · exact self_spec hys t ht
      · exact (late_spec (hyl o ho)).1 t ht).symm
  have cx := step_cls hN Hs
  rw [fpW_env kx] at cx
  have yenv : ∀ v t, t ∈ y.looksAt all → (putI env x.dst v)[t]? = env[t]? := fun v t ht => put_get_ne fun d hd e => a1 d hd (e ▸ ht)
  have xenv : ∀ v t, t ∈ x.looksAt all → env[t]? = (putI env y.dst v)[t]? := fun v t ht => (put_get_ne fun d hd e => a3 d hd (e ▸ ht)).symm
  have after : ∀ {v1 F1 G1}, StepTo P O lo sand all x env F G v1 F1 G1 → OpsTo P O lo sand all (y :: rest) (putI env x.dst v1) F1 G1 E F' G' := fun h k => by rw [← h.eq]; exact H k
  have cy : ∀ v1 F1 G1, StepTo P O lo sand all x env F G v1 F1 G1 → ClsG (StepTo P O lo sand all y env) F1 G1 (fpW P lo sand all E y) := fun v1 F1 G1 h1 => by
    have h2 := step_cls hN (after h1 fun _ _ _ => some r)
    have he : fpW P lo sand all (putI env x.dst v1) y = fpW P lo sand all E y := fpW_env fun t ht => by rw [yenv v1 t (addrs_looks ht), ky t ht]
    rw [he] at h2
    exact h2.mono fun _ _ _ _ _ q => step_env (yenv v1) q
  have put_self : ∀ {e : List IV} {d : Nat} {v w : IV}, (putI e (some d) v)[d]? = some w → w = v := fun {e d v w} h => by
    simp only [putI, List.getElem?_set] at h
    split at h
    · split at h
      · injection h with h; exact h.symm
      · cases h
    · contradiction
  obtain ⟨v1, F1, G1, v2, F2, G2, Fa, Ga, s1, s2, s3, s4⟩ := comm2 cx cy hp
    (fun _ cs h1 n hn => by
      obtain ⟨ha, d, i, hd, hE⟩ := box_is hn
      rw [keep_ops hN r (after h1) fun o ho => (late_spec (hxl o ho)).2 ha d hd, hd] at hE
      have := put_self hE
      injection this)
    (fun _ u1 F1 G1 cs h1 h2 n hn => by
      obtain ⟨ha, d, i, hd, hE⟩ := box_is hn
      have h2' : StepTo P O lo sand all y (putI env x.dst u1) F1 G1 (.loc F1.length 0) (F1 ++ [cs]) G1 := step_env (fun t ht => (yenv u1 t ht).symm) h2
      have h3 : OpsTo P O lo sand all rest (putI (putI env x.dst u1) y.dst (.loc F1.length 0)) (F1 ++ [cs]) G1 E F' G' := fun k => by rw [← h2'.eq]; exact after h1 k
      rw [keep_ops hN r h3 fun o ho => (late_spec (hyl o ho)).2 ha d hd, hd] at hE
      have := put_self hE
      injection this)
  intro k
  have t2 : StepTo P O lo sand all y (putI env x.dst v1) F1 G1 v2 F2 G2 := step_env (fun t ht => (yenv v1 t ht).symm) s2
  have t4 : StepTo P O lo sand all x (putI env y.dst v2) Fa Ga v1 F2 G2 := step_env (xenv v2) s4
  rw [s3.eq, t4.eq, ← put_commI fun d hd => a2 d hd, ← t2.eq, ← s1.eq]
  exact H k

/-- One comes to the front. -/
theorem front_ops (hN : NatO O) (r : R) {y : Oper} {post : List Oper} {E : List IV} {F' : List (List IV)} {G' : GH} : ∀ {pre : List Oper} {env : List IV} {F : List (List IV)} {G : GH}, OpsTo P O lo sand all (pre ++ y :: post) env F G E F' G' →
    (∀ x ∈ pre, x.apart all y = true ∧ pairOk P lo sand all E x y = true) → (pre ++ y :: post).Pairwise (fun x z => lateOk all x z = true) → (∀ x ∈ pre ++ y :: post, selfOk all x = true) →
    OpsTo P O lo sand all (y :: (pre ++ post)) env F G E F' G'
  | [], env, F, G, H, _, _, _ => H
  | x :: pre, env, F, G, H, hx, hl, hs => by
    obtain ⟨v, F1, G1, h1⟩ := step_nat hN (H fun _ _ _ => some r)
    have hl2 := List.pairwise_cons.1 hl
    have h2 : OpsTo P O lo sand all (pre ++ y :: post) (putI env x.dst v) F1 G1 E F' G' := fun k => by rw [← h1.eq]; exact H k
    have h3 := front_ops hN r h2 (fun z hz => hx z (by simp [hz])) hl2.2 (fun z hz => hs z (by simp only [List.cons_append, List.mem_cons]; exact .inr hz))
    have h4 : OpsTo P O lo sand all (x :: y :: (pre ++ post)) env F G E F' G' := fun k => by rw [h1.eq]; exact h3 k
    obtain ⟨p1, p2⟩ := hx x (by simp)
    refine swap_ops hN r h4 p1 p2 (hs x (by simp)) (hs y (by simp)) (fun z hz => hl2.1 z ?_) (fun z hz => ?_)
    · rcases List.mem_cons.1 hz with h | h
      · exact List.mem_append.2 (.inr (List.mem_cons.2 (.inl h)))
      · rcases List.mem_append.1 h with h | h
        · exact List.mem_append.2 (.inl h)
        · exact List.mem_append.2 (.inr (List.mem_cons.2 (.inr h)))
    · rcases List.mem_append.1 hz with h | h
      · obtain ⟨q, _⟩ := hx z (by simp [h])
        obtain ⟨b1, b2, b3⟩ := Oper.apart_spec q
        unfold lateOk
        cases hd : z.dst with
        | none => rfl
        | some d =>
          simp only [Bool.and_eq_true, Bool.not_eq_true', List.contains_eq_mem, decide_eq_false_iff_not]
          refine ⟨fun hm => b1 d hd (addrs_looks hm), ?_⟩
          have := b2 d hd
          simp [this]
      · have := (List.pairwise_append.1 hl2.2).2.1
        exact (List.pairwise_cons.1 this).1 z h
end
end Go.LI
