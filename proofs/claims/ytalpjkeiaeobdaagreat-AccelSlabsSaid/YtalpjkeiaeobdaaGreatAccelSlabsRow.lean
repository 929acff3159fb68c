/-
  AccelSlabs returns true for every input, and leaves all as it was.
  Conditions: none beyond the row's own.
-/
import Derived.Test.YtalpjkeiaeobdaaGreatSlC
import Derived.Test.YtalpjkeiaeobdaaGreatSlD
import Derived.Test.YtalpjkeiaeobdaaGreatLiAll2
import Derived.ChangeMaps5
namespace Go.Proofs.YtalpjkeiaeobdaaGreat.accelSlabs
open Go.ChangeShapes Go.WideShapes Go.ChangeAt Go.RowKit Go.ChangeMaps
set_option linter.unusedVariables false
set_option maxRecDepth 100000

theorem own : ownKnob Tryz.prog.godebug = none := by kernel_rfl
theorem agg24 : LI.aggB Tryz.prog 24 = true := by kernel_rfl
theorem cells24 : LI.cellsB Tryz.prog 24 [22, 22, 22] = true := by kernel_rfl
theorem agg30 : LI.aggB Tryz.prog 30 = true := by kernel_rfl
theorem cells30 : LI.cellsB Tryz.prog 30 [22, 22, 22, 22, 22, 22, 22, 22, 22, 22, 22, 22] = true := by kernel_rfl

theorem law (H : Type) (ds : List (DataW H)) (hd : ds.length = Tryz.f3.params.size) : (Rows.accelSlabsSpec.fn H ds).results = [.lit (.bool true)] ∧ (Rows.accelSlabsSpec.fn H ds).args = ds ∧ (Rows.accelSlabsSpec.fn H ds).vars = [] := by
  match ds, hd with
  | [d1, d2, d3], _ => exact ⟨rfl, rfl, rfl⟩

theorem three {W : World} {r : Reach} {b : Nat} {v : Value} (h : Value.okWide Tryz.prog W r b 24 v) : ∃ c0 c1 c2 : Nat, v = .agg #[.float .f64 c0, .float .f64 c1, .float .f64 c2] ∧ c0 < 2 ^ 64 ∧ c1 < 2 ^ 64 ∧ c2 < 2 ^ 64 := by
  obtain ⟨cs, rfl, hs, hc⟩ := LI.agg_flo agg24 cells24 (by intro u hu; simp only [List.mem_cons, List.not_mem_nil, or_false, or_self] at hu; subst hu; exact Tryz.underlying22) h
  obtain ⟨l⟩ := cs
  match l, hs with
  | [x0, x1, x2], _ =>
    obtain ⟨c0, rfl, w0⟩ := hc 0 x0 rfl
    obtain ⟨c1, rfl, w1⟩ := hc 1 x1 rfl
    obtain ⟨c2, rfl, w2⟩ := hc 2 x2 rfl
    exact ⟨c0, c1, c2, rfl, w0, w1, w2⟩
theorem twelve {W : World} {r : Reach} {b : Nat} {v : Value} (h : Value.okWide Tryz.prog W r b 30 v) : ∃ c0 c1 c2 c3 c4 c5 c6 c7 c8 c9 c10 c11 : Nat, v = .agg #[.float .f64 c0, .float .f64 c1, .float .f64 c2, .float .f64 c3, .float .f64 c4, .float .f64 c5, .float .f64 c6, .float .f64 c7, .float .f64 c8, .float .f64 c9, .float .f64 c10, .float .f64 c11] ∧
    ∀ x ∈ [c0, c1, c2, c3, c4, c5, c6, c7, c8, c9, c10, c11], x < 2 ^ 64 := by
  obtain ⟨cs, rfl, hs, hc⟩ := LI.agg_flo agg30 cells30 (by intro u hu; simp only [List.mem_cons, List.not_mem_nil, or_false, or_self] at hu; subst hu; exact Tryz.underlying22) h
  obtain ⟨l⟩ := cs
  match l, hs with
  | [x0, x1, x2, x3, x4, x5, x6, x7, x8, x9, x10, x11], _ =>
    obtain ⟨c0, rfl, w0⟩ := hc 0 x0 rfl
    obtain ⟨c1, rfl, w1⟩ := hc 1 x1 rfl
    obtain ⟨c2, rfl, w2⟩ := hc 2 x2 rfl
    obtain ⟨c3, rfl, w3⟩ := hc 3 x3 rfl
    obtain ⟨c4, rfl, w4⟩ := hc 4 x4 rfl
    obtain ⟨c5, rfl, w5⟩ := hc 5 x5 rfl
    obtain ⟨c6, rfl, w6⟩ := hc 6 x6 rfl
    obtain ⟨c7, rfl, w7⟩ := hc 7 x7 rfl
    obtain ⟨c8, rfl, w8⟩ := hc 8 x8 rfl
    obtain ⟨c9, rfl, w9⟩ := hc 9 x9 rfl
    obtain ⟨c10, rfl, w10⟩ := hc 10 x10 rfl
    obtain ⟨c11, rfl, w11⟩ := hc 11 x11 rfl
    refine ⟨c0, c1, c2, c3, c4, c5, c6, c7, c8, c9, c10, c11, rfl, ?_⟩
    simp only [List.mem_cons, List.not_mem_nil, or_false, forall_eq_or_imp, forall_eq]
    exact ⟨w0, w1, w2, w3, w4, w5, w6, w7, w8, w9, w10, w11⟩

section
variable {R : Type}
/-- Calls as the interpreter has them; the fixed fact by its own run. -/
noncomputable def orX (F n : Nat) : LI.Ora R := fun f args G k => if f = 4 then (match args with | [] => k (.bool true) G | _ => none) else LI.runC Tryz.prog LI.Film.lo0 F n f args G k
theorem orX_ne {F n f : Nat} (h : f ≠ 4) (args : List LI.IV) (G : LI.GH) (k : LI.IV → LI.GH → Option R) : orX F n f args G k = LI.runC Tryz.prog LI.Film.lo0 F n f args G k := if_neg h
theorem orX_nat (F n : Nat) : LI.NatO (orX (R := R) F n) := by
  intro f args G k r h
  by_cases hf : f = 4
  · unfold orX at h
    rw [if_pos hf] at h
    match args, h with
    | [], h => exact ⟨.bool true, G, fun k' => by unfold orX; rw [if_pos hf]⟩
    | _ :: _, h => cases h
  · rw [orX_ne hf] at h
    obtain ⟨v, G', h1⟩ := LI.run_nat LI.Film.lo0 F n f args G k r h
    exact ⟨v, G', fun k' => by rw [orX_ne hf]; exact h1 k'⟩
theorem orX_good (F n : Nat) : LI.GoodO Tryz.prog (orX (R := R) F n) := by
  intro f args G k r h hl
  by_cases hf : f = 4
  · unfold orX at h
    rw [if_pos hf] at h
    match args, h, hl with
    | [], h, hl =>
      subst hf
      exact LI.goodL LI.Film.hm (LI.noCount_spec LI.Film.hn) LI.Film.libS_good LI.Film.lo0 1152921504606846976 50 4 [] G k r (by rw [LI.Film.awakeL]; exact h) hl
    | _ :: _, h, hl => cases h
  · rw [orX_ne hf] at h
    exact LI.run_good LI.Film.hm (LI.noCount_spec LI.Film.hn) LI.Film.lo0 F n f args G k r h hl
end

theorem run (a0 a1 a2 b0 b1 b2 o0 o1 o2 o3 o4 o5 d0 d1 d2 d3 d4 d5 : Nat) (w : ∀ x ∈ [a0, a1, a2, b0, b1, b2, o0, o1, o2, o3, o4, o5, d0, d1, d2, d3, d4, d5], x < 2 ^ 64) :
    LI.bodyC (R := LI.IV) Tryz.prog (orX 1200 50) (LI.Film.lo0 3) (1200 + 4) Tryz.f3 [.agg [.float .f64 a0, .float .f64 a1, .float .f64 a2], .agg [.float .f64 b0, .float .f64 b1, .float .f64 b2], LI.Film.R12 o0 o1 o2 o3 o4 o5 d0 d1 d2 d3 d4 d5] [] (fun v _ => some v) = some (.bool true) := by
  obtain ⟨G', h⟩ := LI.Film.slabs_body (O := orX (R := LI.IV) 1200 50) (fun G k => rfl)
    (fun o0 o1 o2 o3 o4 o5 d0 d1 d2 d3 d4 d5 G k => (orX_ne (by decide) _ G k).trans (LI.Film.wRRay (F := 1200) (n := 50) (by decide) o0 o1 o2 o3 o4 o5 d0 d1 d2 d3 d4 d5 G k))
    (fun a b G k => (orX_ne (by decide) _ G k).trans (LI.Film.wRValidS (F := 1200) (n := 50) (by decide) a b G k))
    (fun a0 a1 a2 b0 b1 b2 o0 o1 o2 o3 o4 o5 d0 d1 d2 d3 d4 d5 hp G k => (orX_ne (by decide) _ G k).trans (LI.Film.wSlab (F := 1200) (n := 50) (by decide) (by decide) a0 a1 a2 b0 b1 b2 o0 o1 o2 o3 o4 o5 d0 d1 d2 d3 d4 d5 hp G k))
    (fun a0 a1 a2 b0 b1 b2 o0 o1 o2 o3 o4 o5 d0 d1 d2 d3 d4 d5 hp G => by
      obtain ⟨G', h⟩ := LI.Film.wRSlab (R := LI.IV) (F := 1200) (n := 50) (by decide) (by decide) a0 a1 a2 b0 b1 b2 o0 o1 o2 o3 o4 o5 d0 d1 d2 d3 d4 d5 hp G
      exact ⟨G', fun k => (orX_ne (by decide) _ G k).trans (h k)⟩)
    (fun a b G k => (orX_ne (by decide) _ G k).trans (LI.Film.wRSame2 (F := 1200) (n := 50) (by decide) a b G k)) (F := 1200)
    a0 a1 a2 b0 b1 b2 o0 o1 o2 o3 o4 o5 d0 d1 d2 d3 d4 d5 w []
  exact h _

theorem walk (a0 a1 a2 b0 b1 b2 o0 o1 o2 o3 o4 o5 d0 d1 d2 d3 d4 d5 : Nat) (w : ∀ x ∈ [a0, a1, a2, b0, b1, b2, o0, o1, o2, o3, o4, o5, d0, d1, d2, d3, d4, d5], x < 2 ^ 64) (W : World) :
    Calls Tryz.prog 3 #[.agg #[.float .f64 a0, .float .f64 a1, .float .f64 a2], .agg #[.float .f64 b0, .float .f64 b1, .float .f64 b2], .agg #[.float .f64 o0, .float .f64 o1, .float .f64 o2, .float .f64 o3, .float .f64 o4, .float .f64 o5, .float .f64 d0, .float .f64 d1, .float .f64 d2, .float .f64 d3, .float .f64 d4, .float .f64 d5]] W fun e w' => e = .returned (.bool true) ∧ Below W.heap.size W w' := by
  have hnc := LI.noCount_spec LI.Film.hn 3 Tryz.f3 Tryz.func3
  obtain ⟨v, G', h1, h2, h3⟩ := LI.body_sim LI.Film.hm (orX_good 1200 50) (orX_nat 1200 50) Tryz.func3 hnc (run a0 a1 a2 b0 b1 b2 o0 o1 o2 o3 o4 o5 d0 d1 d2 d3 d4 d5 w)
  injection h1 with h1
  subst h1
  have hA : LI.ARel LI.nil0 [.agg [.float .f64 a0, .float .f64 a1, .float .f64 a2], .agg [.float .f64 b0, .float .f64 b1, .float .f64 b2], LI.Film.R12 o0 o1 o2 o3 o4 o5 d0 d1 d2 d3 d4 d5]
      #[.agg #[.float .f64 a0, .float .f64 a1, .float .f64 a2], .agg #[.float .f64 b0, .float .f64 b1, .float .f64 b2], .agg #[.float .f64 o0, .float .f64 o1, .float .f64 o2, .float .f64 o3, .float .f64 o4, .float .f64 o5, .float .f64 d0, .float .f64 d1, .float .f64 d2, .float .f64 d3, .float .f64 d4, .float .f64 d5]] :=
    LI.arel_cons (LI.vrel_agg (LI.arel_cons (by constructor) (LI.arel_cons (by constructor) (LI.arel_cons (by constructor) (LI.arel_nil _))))) (LI.arel_cons (LI.vrel_agg (LI.arel_cons (by constructor) (LI.arel_cons (by constructor) (LI.arel_cons (by constructor) (LI.arel_nil _)))))
      (LI.arel_cons (LI.vrel_agg (LI.arel_cons (by constructor) (LI.arel_cons (by constructor) (LI.arel_cons (by constructor) (LI.arel_cons (by constructor) (LI.arel_cons (by constructor) (LI.arel_cons (by constructor) (LI.arel_cons (by constructor) (LI.arel_cons (by constructor) (LI.arel_cons (by constructor) (LI.arel_cons (by constructor) (LI.arel_cons (by constructor) (LI.arel_cons (by constructor) (LI.arel_nil _)))))))))))))) (LI.arel_nil _)))
  rcases h3 _ _ W LI.nil0 W _ (fun _ => rfl) hA (LI.HRel.empty W) with ⟨_, hcall⟩ | ⟨v', hv, _⟩
  · refine hcall.mono ?_
    rintro e w' ⟨v', rfl, m', q1, q2, q3, q4⟩
    refine ⟨?_, ⟨q3.os, q3.tape, q3.output, q3.size, fun b hb => (q3.frame b hb).2⟩⟩
    cases q4
    rfl
  · have hn' : ¬ Tryz.f3.name = "runtime.NumGoroutine" := by simpa using hnc
    have hc : Tryz.f3.body.isSome = true := rfl
    obtain ⟨c, hc⟩ := Option.isSome_iff_exists.1 hc
    simp [callFunc, Tryz.func3, hn', hc] at hv

theorem lifted (os : Os) (started : os.Started) (H : Type) (enc : TypeId × Value → H) :
    ReturnsInHanded {} Tryz.checked os 3 .any (Rows.accelSlabsSpec.pre6 enc Tryz.prog Tryz.f3 Rows.accelSlabsRow.domain false) (Rows.accelSlabsSpec.post enc Tryz.prog Tryz.f3 false true false false) := by
  refine returnsInHanded_of_change (C := Tryz.checked) own started (by kernel_rfl) Tryz.func3
    (ChangeSpec.witness6 (enc := enc) (C := Tryz.checked) false ⟨#[], #[.agg #[.float .f64 0, .float .f64 0, .float .f64 0], .agg #[.float .f64 0, .float .f64 0, .float .f64 0], .agg #[.float .f64 0, .float .f64 0, .float .f64 0, .float .f64 0, .float .f64 0, .float .f64 0, .float .f64 0, .float .f64 0, .float .f64 0, .float .f64 0, .float .f64 0, .float .f64 0]], []⟩ 8 (by kernel_rfl) (by kernel_rfl) (by kernel_rfl) (by kernel_rfl)) ?_
  intro W base args ds gs before hval0 hW hcnd _
  have hval : ∀ (j : Nat) t v, Tryz.f3.params[j]? = some t → args[j]? = some v → Value.okWide Tryz.prog W .any base t v := hval0
  have hW' := hW
  obtain ⟨p, q, hA0, hV, rfl, hfz, hnd⟩ := hW
  have hA : DataW.TrodAll enc Tryz.prog W 0 (fun _ => true) true Tryz.f3.params.toList args.toList ds p := hA0
  rw [Tryz.params3] at hA hval
  obtain ⟨v0, vs0, e0, ds0, p0, q0, hargs, rfl, rfl, h0, r0⟩ := trodAll_cons hA
  obtain ⟨v1, vs1, e1, ds1, p1, q1, rfl, rfl, rfl, h1, r1⟩ := trodAll_cons r0
  obtain ⟨v2, vs2, e2, ds2, p2, q2, rfl, rfl, rfl, h2, r2⟩ := trodAll_cons r1
  obtain ⟨rfl, rfl, rfl⟩ := trodAll_nil r2
  obtain rfl : args = #[v0, v1, v2] := by cases args; simp_all
  obtain ⟨a0, a1, a2, rfl, wa0, wa1, wa2⟩ := three (hval 0 24 v0 rfl rfl)
  obtain ⟨b0, b1, b2, rfl, wb0, wb1, wb2⟩ := three (hval 1 24 v1 rfl rfl)
  obtain ⟨o0, o1, o2, o3, o4, o5, d0, d1, d2, d3, d4, d5, rfl, wr⟩ := twelve (hval 2 30 v2 rfl rfl)
  clear hA0 hval0 hA hval h0 h1 h2
  have hw : ∀ x ∈ [a0, a1, a2, b0, b1, b2, o0, o1, o2, o3, o4, o5, d0, d1, d2, d3, d4, d5], x < 2 ^ 64 := by
    intro x hx
    rcases List.mem_append.1 (show x ∈ [a0, a1, a2, b0, b1, b2] ++ [o0, o1, o2, o3, o4, o5, d0, d1, d2, d3, d4, d5] from hx) with hx | hx
    · simp only [List.mem_cons, List.not_mem_nil, or_false] at hx
      rcases hx with rfl | rfl | rfl | rfl | rfl | rfl <;> assumption
    · exact wr x hx
  refine (walk a0 a1 a2 b0 b1 b2 o0 o1 o2 o3 o4 o5 d0 d1 d2 d3 d4 d5 hw W).mono fun e W' ⟨he, hb⟩ => ?_
  subst he
  exact ⟨_, rfl, LI.law_post hW' (by kernel_rfl) (by kernel_rfl) rfl Tryz.underlying4 rfl (law H) hb⟩

theorem over : Rows.accelSlabsRow.holds Tryz.pinned (OpenSpec.ofChange Rows.accelSlabsSpec) :=
  OpenClaim.holds_of_wide 3 Tryz.f3 rfl rfl rfl rfl rfl rfl rfl ⟨rfl, rfl, rfl, rfl, rfl⟩ rfl rfl rfl rfl rfl (by kernel_rfl) Tryz.func3 (by kernel_rfl)
    (of_decide_eq_true (by kernel_rfl)) (by unfold Func.isWrapper; first | (rw [if_pos (by decide +kernel)]; kernel_rfl) | (rw [if_neg (by decide +kernel)]; exact ⟨rfl, rfl⟩))
    (fun os started H enc _ => lifted os started H enc)

/-- AccelSlabs: true for every input. -/
theorem proved : Rows.AccelSlabsSaid := over
end Go.Proofs.YtalpjkeiaeobdaaGreat.accelSlabs
