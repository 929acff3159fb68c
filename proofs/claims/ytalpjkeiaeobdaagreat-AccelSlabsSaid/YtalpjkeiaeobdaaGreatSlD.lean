/- Slab of a box: program and reference; the law. -/
import Derived.Test.YtalpjkeiaeobdaaGreatSlB
namespace Go.LI.Film
open Go.Proofs.YtalpjkeiaeobdaaGreat Go Go.Proofs Go.LI Go.LI.Fl
set_option linter.unusedVariables false
set_option linter.unusedSimpArgs false
set_option maxRecDepth 100000

/-- One pair of a box's sides; the ray's beginning and direction there. -/
structure Sd where
  lo : Nat
  hi : Nat
  o0 : Nat
  o1 : Nat
  d0 : Nat
  d1 : Nat
structure Sd.ok (p : Sd) : Prop where
  lo : num p.lo
  hi : num p.hi
  o0 : num p.o0
  o1 : num p.o1
  d0 : num p.d0
  d1 : num p.d1
def Sd.q0 (p : Sd) : Nat := quoL (lowA p.lo (ngW p.o1)) (highA p.hi (ngW p.o0)) p.d0 p.d1
def Sd.q1 (p : Sd) : Nat := quoH (lowA p.lo (ngW p.o1)) (highA p.hi (ngW p.o0)) p.d0 p.d1
def slabP : List Sd → Nat → Nat → Option (Nat × Nat)
  | [], l, h => some (l, h)
  | p :: ps, l, h => bif (feq .f64 p.d0 0 && feq .f64 p.d1 0) then (bif flt .f64 p.o1 p.lo then none else bif fgt .f64 p.o0 p.hi then none else slabP ps l h)
    else bif fgt .f64 (maxW l p.q0) (minW h p.q1) then none else slabP ps (maxW l p.q0) (minW h p.q1)
def slabV : Option (Nat × Nat) → IV
  | none => .tuple [.bool false, SP 0 0]
  | some x => .tuple [.bool true, SP x.1 x.2]

section
variable {R : Type} {O : Ora R}
def slabT (O : Ora R) (k : IV → GH → Option R) : List Sd → Nat → Nat → GH → Option R
  | [], l, h, G => k (.tuple [.bool true, .agg [.float .f64 l, .float .f64 h]]) G
  | p :: ps, l, h, G =>
    bif ((feq .f64 p.d0 (0 : Nat)) && ((feq .f64 p.d1 (0 : Nat)) && true)) then
    bif (flt .f64 p.o1 p.lo) then
    k (.tuple [.bool false, .agg [.float .f64 (0 : Nat), .float .f64 (0 : Nat)]]) G
    else
    bif (fgt .f64 p.o0 p.hi) then
    k (.tuple [.bool false, .agg [.float .f64 (0 : Nat), .float .f64 (0 : Nat)]]) G
    else
    slabT O k ps l h G
    else
    O fn_span_Sub [.agg [.float .f64 p.lo, .float .f64 p.hi], .agg [.float .f64 p.o0, .float .f64 p.o1]] G fun v4 G5 =>
    (ivAgg 2 v4).bind fun c6 =>
    (ivFloat .f64 (c6.getD 0 undefI)).bind fun x7 =>
    (ivFloat .f64 (c6.getD 1 undefI)).bind fun x8 =>
    O fn_span_Div [.agg [.float .f64 x7, .float .f64 x8], .agg [.float .f64 p.d0, .float .f64 p.d1]] G5 fun v9 G10 =>
    (ivAgg 2 v9).bind fun c11 =>
    (ivFloat .f64 (c11.getD 0 undefI)).bind fun x12 =>
    (ivFloat .f64 (c11.getD 1 undefI)).bind fun x13 =>
    O fn_span_Meet [.agg [.float .f64 l, .float .f64 h], .agg [.float .f64 x12, .float .f64 x13]] G10 fun v14 G15 =>
    (ivTup 2 v14).bind fun c16 =>
    (ivAgg 2 (c16.getD 0 undefI)).bind fun c17 =>
    (ivFloat .f64 (c17.getD 0 undefI)).bind fun x18 =>
    (ivFloat .f64 (c17.getD 1 undefI)).bind fun x19 =>
    (ivBool (c16.getD 1 undefI)).bind fun x20 =>
    bif (!x20) then
    k (.tuple [.bool false, .agg [.float .f64 (0 : Nat), .float .f64 (0 : Nat)]]) G15
    else
    slabT O k ps x18 x19 G15
def slabR (O : Ora R) (k : IV → GH → Option R) : List Sd → Nat → Nat → GH → Option R
  | [], l, h, G => k (.tuple [.bool true, .agg [.float .f64 l, .float .f64 h]]) G
  | p :: ps, l, h, G =>
    bif (feq .f64 p.d0 (0 : Nat)) then
    bif (feq .f64 p.d1 (0 : Nat)) then
    bif (flt .f64 p.o1 p.lo) then
    k (.tuple [.bool false, .agg [.float .f64 (0 : Nat), .float .f64 (0 : Nat)]]) G
    else
    bif (fgt .f64 p.o0 p.hi) then
    k (.tuple [.bool false, .agg [.float .f64 (0 : Nat), .float .f64 (0 : Nat)]]) G
    else
    slabR O k ps l h G
    else
    O fn_ref02_Sub [.agg [.float .f64 p.lo, .float .f64 p.hi], .agg [.float .f64 p.o0, .float .f64 p.o1]] G fun v4 G5 =>
    (ivAgg 2 v4).bind fun c6 =>
    (ivFloat .f64 (c6.getD 0 undefI)).bind fun x7 =>
    (ivFloat .f64 (c6.getD 1 undefI)).bind fun x8 =>
    O fn_ref02_Div [.agg [.float .f64 x7, .float .f64 x8], .agg [.float .f64 p.d0, .float .f64 p.d1]] G5 fun v9 G10 =>
    (ivAgg 2 v9).bind fun c11 =>
    (ivFloat .f64 (c11.getD 0 undefI)).bind fun x12 =>
    (ivFloat .f64 (c11.getD 1 undefI)).bind fun x13 =>
    O fn_ref02_Meet [.agg [.float .f64 l, .float .f64 h], .agg [.float .f64 x12, .float .f64 x13]] G10 fun v14 G15 =>
    (ivTup 2 v14).bind fun c16 =>
    (ivAgg 2 (c16.getD 0 undefI)).bind fun c17 =>
    (ivFloat .f64 (c17.getD 0 undefI)).bind fun x18 =>
    (ivFloat .f64 (c17.getD 1 undefI)).bind fun x19 =>
    (ivBool (c16.getD 1 undefI)).bind fun x20 =>
    bif (!x20) then
    k (.tuple [.bool false, .agg [.float .f64 (0 : Nat), .float .f64 (0 : Nat)]]) G15
    else
    slabR O k ps x18 x19 G15
    else
    O fn_ref02_Sub [.agg [.float .f64 p.lo, .float .f64 p.hi], .agg [.float .f64 p.o0, .float .f64 p.o1]] G fun v4 G5 =>
    (ivAgg 2 v4).bind fun c6 =>
    (ivFloat .f64 (c6.getD 0 undefI)).bind fun x7 =>
    (ivFloat .f64 (c6.getD 1 undefI)).bind fun x8 =>
    O fn_ref02_Div [.agg [.float .f64 x7, .float .f64 x8], .agg [.float .f64 p.d0, .float .f64 p.d1]] G5 fun v9 G10 =>
    (ivAgg 2 v9).bind fun c11 =>
    (ivFloat .f64 (c11.getD 0 undefI)).bind fun x12 =>
    (ivFloat .f64 (c11.getD 1 undefI)).bind fun x13 =>
    O fn_ref02_Meet [.agg [.float .f64 l, .float .f64 h], .agg [.float .f64 x12, .float .f64 x13]] G10 fun v14 G15 =>
    (ivTup 2 v14).bind fun c16 =>
    (ivAgg 2 (c16.getD 0 undefI)).bind fun c17 =>
    (ivFloat .f64 (c17.getD 0 undefI)).bind fun x18 =>
    (ivFloat .f64 (c17.getD 1 undefI)).bind fun x19 =>
    (ivBool (c16.getD 1 undefI)).bind fun x20 =>
    bif (!x20) then
    k (.tuple [.bool false, .agg [.float .f64 (0 : Nat), .float .f64 (0 : Nat)]]) G15
    else
    slabR O k ps x18 x19 G15

theorem meet_open {β : Type} (a b : Nat) (s : Bool) (f : Nat → Nat → Bool → Option β) : ((ivTup 2 (.tuple [SP a b, .bool s])).bind fun c => (ivAgg 2 (c.getD 0 undefI)).bind fun e => (ivFloat .f64 (e.getD 0 undefI)).bind fun x => (ivFloat .f64 (e.getD 1 undefI)).bind fun y => (ivBool (c.getD 1 undefI)).bind fun z => f x y z) = f a b s := rfl

theorem slabT_eq (hS : SSub O) (hD : SSpanDiv O) (hM : SMeet O) (k : IV → GH → Option R) (G : GH) : ∀ (ps : List Sd) (l h : Nat), (∀ p ∈ ps, p.ok) → clean l → clean h → slabT O k ps l h G = k (slabV (slabP ps l h)) G
  | [], l, h, _, _, _ => rfl
  | p :: ps, l, h, hp, hl, hh => by
    have q := hp p (by simp)
    have rest := fun l h => slabT_eq hS hD hM k G ps l h (fun p' hp' => hp p' (by simp [hp']))
    simp only [slabT, slabP]
    rw [Bool.and_true]
    cases (feq .f64 p.d0 0 && feq .f64 p.d1 0) with
    | true =>
      rw [cond_true, cond_true]
      cases flt .f64 p.o1 p.lo with
      | true => rfl
      | false =>
        rw [cond_false, cond_false]
        cases fgt .f64 p.o0 p.hi with
        | true => rfl
        | false => rw [cond_false, cond_false]; exact rest l h hl hh
    | false =>
      rw [cond_false, cond_false, hS _ _ _ _ q.lo q.hi q.o0 q.o1, SP_open, hD _ _ _ _ (lowA_num _ _) (highA_num _ _) q.d0 q.d1, SP_open]
      have cl : clean p.q0 := clean_quoL _ _ _ _
      have ch : clean p.q1 := clean_quoH _ _ _ _
      show O fn_span_Meet [SP l h, SP p.q0 p.q1] G _ = _
      rw [hM _ _ _ _ hl hh cl ch]
      unfold meetV
      cases fgt .f64 (maxW l p.q0) (minW h p.q1) with
      | true => rfl
      | false =>
        rw [cond_false, cond_false, meet_open, Bool.not_true, cond_false]
        exact rest _ _ (clean_max hl cl) (clean_min hh ch)

theorem slabR_eq (hS : SRSub O) (hD : SRSpanDiv O) (hM : SRMeet O) : ∀ (ps : List Sd) (l h : Nat) (G : GH), (∀ p ∈ ps, p.ok) → clean l → clean h → ∃ G', ∀ (k : IV → GH → Option R), slabR O k ps l h G = k (slabV (slabP ps l h)) G'
  | [], l, h, G, _, _, _ => ⟨G, fun k => rfl⟩
  | p :: ps, l, h, G, hp, hl, hh => by
    have q := hp p (by simp)
    have rest := fun l h G => slabR_eq hS hD hM ps l h G (fun p' hp' => hp p' (by simp [hp']))
    have cl : clean p.q0 := clean_quoL _ _ _ _
    have ch : clean p.q1 := clean_quoH _ _ _ _
    obtain ⟨G1, h1⟩ := hD (lowA p.lo (ngW p.o1)) (highA p.hi (ngW p.o0)) p.d0 p.d1 (lowA_num _ _) (highA_num _ _) q.d0 q.d1 G
    have X : ∃ G', ∀ (k : IV → GH → Option R), (O fn_ref02_Sub [.agg [.float .f64 p.lo, .float .f64 p.hi], .agg [.float .f64 p.o0, .float .f64 p.o1]] G fun v4 G5 =>
        (ivAgg 2 v4).bind fun c6 => (ivFloat .f64 (c6.getD 0 undefI)).bind fun x7 => (ivFloat .f64 (c6.getD 1 undefI)).bind fun x8 =>
        O fn_ref02_Div [.agg [.float .f64 x7, .float .f64 x8], .agg [.float .f64 p.d0, .float .f64 p.d1]] G5 fun v9 G10 =>
        (ivAgg 2 v9).bind fun c11 => (ivFloat .f64 (c11.getD 0 undefI)).bind fun x12 => (ivFloat .f64 (c11.getD 1 undefI)).bind fun x13 =>
        O fn_ref02_Meet [.agg [.float .f64 l, .float .f64 h], .agg [.float .f64 x12, .float .f64 x13]] G10 fun v14 G15 =>
        (ivTup 2 v14).bind fun c16 => (ivAgg 2 (c16.getD 0 undefI)).bind fun c17 => (ivFloat .f64 (c17.getD 0 undefI)).bind fun x18 => (ivFloat .f64 (c17.getD 1 undefI)).bind fun x19 => (ivBool (c16.getD 1 undefI)).bind fun x20 =>
        bif (!x20) then k (.tuple [.bool false, .agg [.float .f64 (0 : Nat), .float .f64 (0 : Nat)]]) G15 else slabR O k ps x18 x19 G15) =
        k (slabV (bif fgt .f64 (maxW l p.q0) (minW h p.q1) then none else slabP ps (maxW l p.q0) (minW h p.q1))) G' := by
      have hM' := fun k => hM l h p.q0 p.q1 hl hh cl ch G1 k
      unfold meetV at hM'
      cases hq : fgt .f64 (maxW l p.q0) (minW h p.q1) with
      | true =>
        rw [hq] at hM'
        refine ⟨G1, fun k => ?_⟩
        rw [hS _ _ _ _ q.lo q.hi q.o0 q.o1, SP_open, h1, SP_open]
        show O fn_ref02_Meet [SP l h, SP p.q0 p.q1] G1 _ = _
        rw [hM']
        rfl
      | false =>
        rw [hq] at hM'
        obtain ⟨G2, h2⟩ := rest (maxW l p.q0) (minW h p.q1) G1 (clean_max hl cl) (clean_min hh ch)
        refine ⟨G2, fun k => ?_⟩
        rw [hS _ _ _ _ q.lo q.hi q.o0 q.o1, SP_open, h1, SP_open]
        show O fn_ref02_Meet [SP l h, SP p.q0 p.q1] G1 _ = _
        rw [hM', cond_false, meet_open, Bool.not_true, cond_false]
        exact h2 k
    simp only [slabR, slabP]
    cases feq .f64 p.d0 0 with
    | false =>
      simp only [cond_false, Bool.false_and]
      exact X
    | true =>
      simp only [cond_true, Bool.true_and]
      cases feq .f64 p.d1 0 with
      | false => simp only [cond_false]; exact X
      | true =>
        simp only [cond_true]
        cases flt .f64 p.o1 p.lo with
        | true => exact ⟨G, fun k => rfl⟩
        | false =>
          simp only [cond_false]
          cases fgt .f64 p.o0 p.hi with
          | true => exact ⟨G, fun k => rfl⟩
          | false => simp only [cond_false]; exact rest l h G hl hh

abbrev B6 (a b c d e f : Nat) : IV := .agg [.float .f64 a, .float .f64 b, .float .f64 c, .float .f64 d, .float .f64 e, .float .f64 f]
abbrev R12 (a b c d e f g h i j k l : Nat) : IV := .agg [.float .f64 a, .float .f64 b, .float .f64 c, .float .f64 d, .float .f64 e, .float .f64 f, .float .f64 g, .float .f64 h, .float .f64 i, .float .f64 j, .float .f64 k, .float .f64 l]
abbrev sds (a0 a1 a2 b0 b1 b2 o0 o1 o2 o3 o4 o5 d0 d1 d2 d3 d4 d5 : Nat) : List Sd := [⟨a0, b0, o0, o1, d0, d1⟩, ⟨a1, b1, o2, o3, d2, d3⟩, ⟨a2, b2, o4, o5, d4, d5⟩]
abbrev SSlab (O : Ora R) : Prop := ∀ (a0 a1 a2 b0 b1 b2 o0 o1 o2 o3 o4 o5 d0 d1 d2 d3 d4 d5 : Nat), (∀ p ∈ sds a0 a1 a2 b0 b1 b2 o0 o1 o2 o3 o4 o5 d0 d1 d2 d3 d4 d5, p.ok) → ∀ (G : GH) (k : IV → GH → Option R),
  O fn_accel_Slab [B6 a0 a1 a2 b0 b1 b2, R12 o0 o1 o2 o3 o4 o5 d0 d1 d2 d3 d4 d5] G k = k (slabV (slabP (sds a0 a1 a2 b0 b1 b2 o0 o1 o2 o3 o4 o5 d0 d1 d2 d3 d4 d5) 0 infW)) G
abbrev SRSlab (O : Ora R) : Prop := ∀ (a0 a1 a2 b0 b1 b2 o0 o1 o2 o3 o4 o5 d0 d1 d2 d3 d4 d5 : Nat), (∀ p ∈ sds a0 a1 a2 b0 b1 b2 o0 o1 o2 o3 o4 o5 d0 d1 d2 d3 d4 d5, p.ok) → ∀ (G : GH), ∃ G', ∀ (k : IV → GH → Option R),
  O fn_ref11_Slab [B6 a0 a1 a2 b0 b1 b2, R12 o0 o1 o2 o3 o4 o5 d0 d1 d2 d3 d4 d5] G k = k (slabV (slabP (sds a0 a1 a2 b0 b1 b2 o0 o1 o2 o3 o4 o5 d0 d1 d2 d3 d4 d5) 0 infW)) G'
theorem slab_raw (F : Nat) (a0 a1 a2 b0 b1 b2 o0 o1 o2 o3 o4 o5 d0 d1 d2 d3 d4 d5 : Nat) (G : GH) (k : IV → GH → Option R) : bodyC Tryz.prog O [2, 3, 5, 6, 8, 9, 10, 777777] (F + 4) Tryz.f7 [B6 a0 a1 a2 b0 b1 b2, R12 o0 o1 o2 o3 o4 o5 d0 d1 d2 d3 d4 d5] G k =
    O fn_math_Inf [.int .i64 (1 : Int)] G fun v1 G2 => (ivFloat .f64 v1).bind fun x3 => slabT O k (sds a0 a1 a2 b0 b1 b2 o0 o1 o2 o3 o4 o5 d0 d1 d2 d3 d4 d5) 0 x3 G2 := e_accel_Slab O F a0 a1 a2 b0 b1 b2 o0 o1 o2 o3 o4 o5 d0 d1 d2 d3 d4 d5 G k
theorem slabR_raw (F : Nat) (a0 a1 a2 b0 b1 b2 o0 o1 o2 o3 o4 o5 d0 d1 d2 d3 d4 d5 : Nat) (G : GH) (k : IV → GH → Option R) : bodyC Tryz.prog O [2, 3, 5, 6, 8, 9, 777777] (F + 4) Tryz.f8 [B6 a0 a1 a2 b0 b1 b2, R12 o0 o1 o2 o3 o4 o5 d0 d1 d2 d3 d4 d5] G k =
    O fn_ref02_All [] G fun v1 G2 => (ivAgg 2 v1).bind fun c3 => (ivFloat .f64 (c3.getD 0 undefI)).bind fun x4 => (ivFloat .f64 (c3.getD 1 undefI)).bind fun x5 => slabR O k (sds a0 a1 a2 b0 b1 b2 o0 o1 o2 o3 o4 o5 d0 d1 d2 d3 d4 d5) 0 x5 G2 := e_ref11_Slab O F a0 a1 a2 b0 b1 b2 o0 o1 o2 o3 o4 o5 d0 d1 d2 d3 d4 d5 G k
theorem wSlab {F n : Nat} (hF : 8 ≤ F) (hn : 12 ≤ n) : SSlab (runC (R := R) Tryz.prog lo0 F n) := by
  obtain ⟨n, rfl⟩ : ∃ j, n = j + 12 := ⟨n - 12, by omega⟩
  obtain ⟨F, rfl⟩ : ∃ F', F = F' + 4 := ⟨F - 4, by omega⟩
  intro a0 a1 a2 b0 b1 b2 o0 o1 o2 o3 o4 o5 d0 d1 d2 d3 d4 d5 hp G k
  rw [r_accel_Slab, slab_raw, (wInf (F := F + 3) (by omega) G _).1, ivF]
  exact slabT_eq (wSub (by omega) (by omega)) (wSpanDiv (by omega) (by omega)) (wMeet (by omega)) k G _ 0 infW hp clean_zero clean_inf
theorem wRSlab {F n : Nat} (hF : 1100 ≤ F) (hn : 10 ≤ n) : SRSlab (runC (R := R) Tryz.prog lo0 F n) := by
  obtain ⟨n, rfl⟩ : ∃ j, n = j + 10 := ⟨n - 10, by omega⟩
  obtain ⟨F, rfl⟩ : ∃ F', F = F' + 4 := ⟨F - 4, by omega⟩
  intro a0 a1 a2 b0 b1 b2 o0 o1 o2 o3 o4 o5 d0 d1 d2 d3 d4 d5 hp G
  obtain ⟨G', h⟩ := slabR_eq (wRSub (R := R) (F := F + 4) (n := n + 9) (by omega) (by omega)) (wRSpanDiv (by omega) (by omega)) (wRMeet (by omega)) (sds a0 a1 a2 b0 b1 b2 o0 o1 o2 o3 o4 o5 d0 d1 d2 d3 d4 d5) 0 infW G hp clean_zero clean_inf
  refine ⟨G', fun k => ?_⟩
  rw [r_ref11_Slab, slabR_raw, wRAll (by omega), SP_open]
  exact h k

def validR (o0 o1 o2 o3 o4 o5 d0 d1 d2 d3 d4 d5 : Nat) : Bool := ((validS o0 o1 && (validS o2 o3 && validS o4 o5)) && (validS d0 d1 && (validS d2 d3 && validS d4 d5)))
abbrev SRRay (O : Ora R) : Prop := ∀ (o0 o1 o2 o3 o4 o5 d0 d1 d2 d3 d4 d5 : Nat) (G : GH) (k : IV → GH → Option R), O fn_ref10_ValidRay [R12 o0 o1 o2 o3 o4 o5 d0 d1 d2 d3 d4 d5] G k = k (.bool (validR o0 o1 o2 o3 o4 o5 d0 d1 d2 d3 d4 d5)) G
theorem wRValid3 {F n : Nat} (hn : 4 ≤ n) (a b c d e f : Nat) (G : GH) (k : IV → GH → Option R) : runC (R := R) Tryz.prog lo0 F n fn_ref03_Valid [B6 a b c d e f] G k = k (.bool (validS a b && (validS c d && validS e f))) G := by
  obtain ⟨n, rfl⟩ : ∃ j, n = j + 4 := ⟨n - 4, by omega⟩
  have hV := wRValidS (R := R) (F := F) (n := n + 3) (by omega)
  rw [r_ref03_Valid, e_ref03_Valid, hV, ivB]
  cases validS a b with
  | false => rfl
  | true =>
    rw [cond_true, hV, ivB]
    cases validS c d with
    | false => rfl
    | true => rw [cond_true, hV, ivB]; rfl
theorem wRRay {F n : Nat} (hn : 5 ≤ n) : SRRay (runC (R := R) Tryz.prog lo0 F n) := by
  obtain ⟨n, rfl⟩ : ∃ j, n = j + 5 := ⟨n - 5, by omega⟩
  intro o0 o1 o2 o3 o4 o5 d0 d1 d2 d3 d4 d5 G k
  rw [r_ref10_ValidRay, e_ref10_ValidRay, wRValid3 (by omega), ivB]
  unfold validR
  cases (validS o0 o1 && (validS o2 o3 && validS o4 o5)) with
  | false => rfl
  | true => rw [cond_true, wRValid3 (by omega), ivB]; rfl

abbrev SAw11 (O : Ora R) : Prop := ∀ (G : GH) (k : IV → GH → Option R), O fn_law11_Awake [] G k = k (.bool true) G
theorem and3 {a b c : Bool} (h : (a && (b && c)) = true) : a = true ∧ b = true ∧ c = true := by
  simp only [Bool.and_eq_true] at h
  exact ⟨h.1, h.2.1, h.2.2⟩
theorem tup2B {β : Type} (s : Bool) (a b : Nat) (f : Bool → Nat → Nat → Option β) : ((ivTup 2 (.tuple [.bool s, SP a b])).bind fun c => (ivBool (c.getD 0 undefI)).bind fun x => (ivAgg 2 (c.getD 1 undefI)).bind fun e => (ivFloat .f64 (e.getD 0 undefI)).bind fun y => (ivFloat .f64 (e.getD 1 undefI)).bind fun z => f x y z) = f s a b := rfl
theorem slabV_tup (x : Option (Nat × Nat)) : ∃ s a b, slabV x = .tuple [.bool s, SP a b] := by
  cases x with
  | none => exact ⟨_, _, _, rfl⟩
  | some y => exact ⟨_, _, _, rfl⟩
theorem slabs_body (hA : SAw11 O) (hR : SRRay O) (hV : SRValidS O) (hS : SSlab O) (hT : SRSlab O) (hE : SRSame2 O) {F : Nat} (a0 a1 a2 b0 b1 b2 o0 o1 o2 o3 o4 o5 d0 d1 d2 d3 d4 d5 : Nat)
    (w : ∀ x ∈ [a0, a1, a2, b0, b1, b2, o0, o1, o2, o3, o4, o5, d0, d1, d2, d3, d4, d5], x < 2 ^ 64) (G : GH) :
    ∃ G', ∀ (k : IV → GH → Option R), bodyC Tryz.prog O [3, 4, 5, 8, 10, 12, 777777] (F + 4) Tryz.f3 [.agg [.float .f64 a0, .float .f64 a1, .float .f64 a2], .agg [.float .f64 b0, .float .f64 b1, .float .f64 b2], R12 o0 o1 o2 o3 o4 o5 d0 d1 d2 d3 d4 d5] G k = k (.bool true) G' := by
  cases h0 : validR o0 o1 o2 o3 o4 o5 d0 d1 d2 d3 d4 d5 with
  | false => exact ⟨G, fun k => by rw [e_law11_AccelSlabs, hA, ivB, Bool.not_true, cond_false, hR, ivB, h0, Bool.not_false, cond_true]⟩
  | true =>
    cases h1 : validS a0 b0 with
    | false => exact ⟨G, fun k => by rw [e_law11_AccelSlabs, hA, ivB, Bool.not_true, cond_false, hR, ivB, h0, Bool.not_true, cond_false, hV, ivB, h1, Bool.not_false, cond_true]⟩
    | true =>
      cases h2 : validS a1 b1 with
      | false => exact ⟨G, fun k => by rw [e_law11_AccelSlabs, hA, ivB, Bool.not_true, cond_false, hR, ivB, h0, Bool.not_true, cond_false, hV, ivB, h1, Bool.not_true, cond_false, hV, ivB, h2, Bool.not_false, cond_true]⟩
      | true =>
        cases h3 : validS a2 b2 with
        | false => exact ⟨G, fun k => by rw [e_law11_AccelSlabs, hA, ivB, Bool.not_true, cond_false, hR, ivB, h0, Bool.not_true, cond_false, hV, ivB, h1, Bool.not_true, cond_false, hV, ivB, h2, Bool.not_true, cond_false, hV, ivB, h3, Bool.not_false, cond_true]⟩
        | true =>
          simp only [List.mem_cons, List.not_mem_nil, or_false, forall_eq_or_imp, forall_eq] at w
          obtain ⟨wa0, wa1, wa2, wb0, wb1, wb2, wo0, wo1, wo2, wo3, wo4, wo5, wd0, wd1, wd2, wd3, wd4, wd5⟩ := w
          have hv := h0
          unfold validR at hv
          rw [Bool.and_eq_true] at hv
          obtain ⟨v1, v2, v3⟩ := and3 hv.1
          obtain ⟨u1, u2, u3⟩ := and3 hv.2
          have hp : ∀ p ∈ sds a0 a1 a2 b0 b1 b2 o0 o1 o2 o3 o4 o5 d0 d1 d2 d3 d4 d5, p.ok := by
            intro p hp
            simp only [List.mem_cons, List.not_mem_nil, or_false] at hp
            rcases hp with rfl | rfl | rfl
            · exact ⟨(valid_num wa0 wb0 h1).1, (valid_num wa0 wb0 h1).2, (valid_num wo0 wo1 v1).1, (valid_num wo0 wo1 v1).2, (valid_num wd0 wd1 u1).1, (valid_num wd0 wd1 u1).2⟩
            · exact ⟨(valid_num wa1 wb1 h2).1, (valid_num wa1 wb1 h2).2, (valid_num wo2 wo3 v2).1, (valid_num wo2 wo3 v2).2, (valid_num wd2 wd3 u2).1, (valid_num wd2 wd3 u2).2⟩
            · exact ⟨(valid_num wa2 wb2 h3).1, (valid_num wa2 wb2 h3).2, (valid_num wo4 wo5 v3).1, (valid_num wo4 wo5 v3).2, (valid_num wd4 wd5 u3).1, (valid_num wd4 wd5 u3).2⟩
          have e1 := hS a0 a1 a2 b0 b1 b2 o0 o1 o2 o3 o4 o5 d0 d1 d2 d3 d4 d5 hp G
          obtain ⟨G', e2⟩ := hT a0 a1 a2 b0 b1 b2 o0 o1 o2 o3 o4 o5 d0 d1 d2 d3 d4 d5 hp G
          obtain ⟨s, x, y, es⟩ := slabV_tup (slabP (sds a0 a1 a2 b0 b1 b2 o0 o1 o2 o3 o4 o5 d0 d1 d2 d3 d4 d5) 0 infW)
          rw [es] at e1 e2
          refine ⟨G', fun k => ?_⟩
          rw [e_law11_AccelSlabs, hA, ivB, Bool.not_true, cond_false, hR, ivB, h0, Bool.not_true, cond_false, hV, ivB, h1, Bool.not_true, cond_false, hV, ivB, h2, Bool.not_true, cond_false, hV, ivB, h3, Bool.not_true, cond_false]
          rw [e1, tup2B, e2, tup2B, beq_self_eq_true, cond_true, hE, ivB]
end
end Go.LI.Film
