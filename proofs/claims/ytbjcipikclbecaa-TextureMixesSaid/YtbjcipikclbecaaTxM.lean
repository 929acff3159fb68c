/- Products of spans with numbers of at most 1: what they hold. -/
import Derived.Test.YtbjcipikclbecaaTxB
import Derived.Test.YtbjcipikclbecaaFlM
namespace Go.LI.Fl
open Go Go.LI Ieee
set_option linter.unusedVariables false
set_option maxRecDepth 100000
set_option exponentiation.threshold 2500

theorem rnd_cap {A B r : Nat} {g : Bool} (hB : 0 < B) (h : A ≤ mag dbl r * B) : rndR A B g ≤ r := by
  have h1 := (floorR_leZ (A / B)).1
  have h2 : mag dbl (floorR (A / B)) * B ≤ A := Nat.le_trans (Nat.mul_le_mul_right _ h1) (Nat.div_mul_le_self _ _)
  have h3 : floorR (A / B) ≤ r := by
    rcases Nat.lt_or_ge r (floorR (A / B)) with hh | hh
    · have h4 := Nat.mul_lt_mul_of_pos_right (mag_lt hh) hB
      omega
    · exact hh
  unfold rndR
  split
  · rename_i hg
    rcases Nat.lt_or_ge (floorR (A / B)) r with hh | hh
    · omega
    · have e : floorR (A / B) = r := by omega
      rw [e] at h2 hg
      exact absurd (by omega) hg.2
  · omega
theorem sv_mul' (a b : Nat) : sgn (sg dbl a != sg dbl b) (mag dbl (rg dbl a) * mag dbl (rg dbl b)) = sv a * sv b := by
  unfold sv sgn
  cases sg dbl a <;> cases sg dbl b <;> simp [Int.neg_mul, Int.mul_neg]
theorem mul_dn {a b : Nat} (ha : fin a = true) (hb : mag dbl (rg dbl b) ≤ one74) : sv (mulR a b true) * (one74 : Int) ≤ sv a * sv b := by
  have ha' : rg dbl a < 9218868437227405312 := of_decide_eq_true ha
  unfold mulR
  rw [beq_true', ← sv_mul']
  have cap : rndR (mag dbl (rg dbl a) * mag dbl (rg dbl b)) one74 (sg dbl a != sg dbl b) ≤ rg dbl a := rnd_cap one74_pos (Nat.mul_le_mul_left _ hb)
  rw [sv_seal, if_pos (by omega)]
  cases hs : (sg dbl a != sg dbl b) with
  | false =>
    have h := rnd_dn (A := mag dbl (rg dbl a) * mag dbl (rg dbl b)) one74_pos
    simp only [sgn, Bool.false_eq_true, if_false]
    exact_mod_cast h
  | true =>
    have h := rnd_up (A := mag dbl (rg dbl a) * mag dbl (rg dbl b)) one74_pos
    simp only [sgn, if_true]
    have h' : ((mag dbl (rg dbl a) * mag dbl (rg dbl b) : Nat) : Int) ≤ (mag dbl (rndR (mag dbl (rg dbl a) * mag dbl (rg dbl b)) one74 true) : Int) * (one74 : Int) := by exact_mod_cast h
    rw [Int.neg_mul]
    omega
theorem mul_up {a b : Nat} (ha : fin a = true) (hb : mag dbl (rg dbl b) ≤ one74) : sv a * sv b ≤ sv (mulR a b false) * (one74 : Int) := by
  have ha' : rg dbl a < 9218868437227405312 := of_decide_eq_true ha
  unfold mulR
  rw [beq_false', ← sv_mul']
  have cap : rndR (mag dbl (rg dbl a) * mag dbl (rg dbl b)) one74 (!(sg dbl a != sg dbl b)) ≤ rg dbl a := rnd_cap one74_pos (Nat.mul_le_mul_left _ hb)
  rw [sv_seal, if_pos (by omega)]
  cases hs : (sg dbl a != sg dbl b) with
  | false =>
    have h := rnd_up (A := mag dbl (rg dbl a) * mag dbl (rg dbl b)) one74_pos
    simp only [sgn, Bool.false_eq_true, if_false, Bool.not_false]
    exact_mod_cast h
  | true =>
    have h := rnd_dn (A := mag dbl (rg dbl a) * mag dbl (rg dbl b)) one74_pos
    simp only [sgn, if_true, Bool.not_true]
    have h' : (mag dbl (rndR (mag dbl (rg dbl a) * mag dbl (rg dbl b)) one74 false) : Int) * (one74 : Int) ≤ ((mag dbl (rg dbl a) * mag dbl (rg dbl b) : Nat) : Int) := by exact_mod_cast h
    rw [Int.neg_mul]
    omega
theorem prod_lo {x y : Nat} (hx : num x) (hy : mag dbl (rg dbl y) ≤ one74) : -(mag dbl 9218868437227405312 : Int) * (one74 : Int) ≤ sv x * sv y ∧ sv x * sv y ≤ (mag dbl 9218868437227405312 : Int) * (one74 : Int) := by
  rw [← sv_mul']
  have h1 : mag dbl (rg dbl x) ≤ mag dbl 9218868437227405312 := mag_le hx.2
  have h2 : mag dbl (rg dbl x) * mag dbl (rg dbl y) ≤ mag dbl 9218868437227405312 * one74 := Nat.mul_le_mul h1 hy
  have h3 : ((mag dbl (rg dbl x) * mag dbl (rg dbl y) : Nat) : Int) ≤ (mag dbl 9218868437227405312 : Int) * (one74 : Int) := by exact_mod_cast h2
  rw [Int.neg_mul]
  unfold sgn
  cases (sg dbl x != sg dbl y) with
  | false => simp only [Bool.false_eq_true, if_false]; omega
  | true => simp only [if_true]; omega
theorem sv_ninf : sv 18442240474082181120 = -(mag dbl 9218868437227405312 : Int) := by
  have h := sv_word' (n := true) (r := 9218868437227405312) (Nat.le_refl _)
  rw [show dbl.word true 9218868437227405312 = 18442240474082181120 by decide +kernel] at h
  rw [h]; rfl
theorem sv_pinf : sv 9218868437227405312 = (mag dbl 9218868437227405312 : Int) := by
  have h := sv_word' (n := false) (r := 9218868437227405312) (Nat.le_refl _)
  rw [show dbl.word false 9218868437227405312 = 9218868437227405312 by decide +kernel] at h
  rw [h]; rfl
theorem cmpL {a b : Int} : (compare a b = .lt → a < b) ∧ (compare a b = .eq → a = b) ∧ (compare a b = .gt → b < a) := by
  simp only [compare, compareOfLessAndEq]
  refine ⟨fun h => ?_, fun h => ?_, fun h => ?_⟩
  · split at h
    · assumption
    · split at h <;> cases h
  · split at h
    · cases h
    · split at h
      · assumption
      · cases h
  · split at h
    · cases h
    · split at h
      · cases h
      · omega
end Go.LI.Fl
namespace Go.LI.Film
open Go.Proofs.Ytbjcipikclbecaa Go Go.Proofs Go.LI Go.LI.Fl
set_option linter.unusedVariables false
set_option linter.unusedSimpArgs false
set_option maxRecDepth 100000
set_option exponentiation.threshold 2500

theorem fmin_le {x y : Nat} (hx : num x) (hy : num y) : ∃ z, fmin .f64 x y = some z ∧ num z ∧ sv z ≤ sv x ∧ sv z ≤ sv y := by
  have h : (FloatKind.format .f64).order x y = some (compare (sv x) (sv y)) := order_sv hx hy
  unfold fmin
  rw [h]
  obtain ⟨h1, h2, h3⟩ := cmpL (a := sv x) (b := sv y)
  cases hc : compare (sv x) (sv y) with
  | lt => have := h1 hc; exact ⟨x, rfl, hx, by omega, by omega⟩
  | gt => have := h3 hc; exact ⟨y, rfl, hy, by omega, by omega⟩
  | eq =>
    have := h2 hc
    refine ⟨_, rfl, ?_⟩
    split
    · exact ⟨hx, by omega, by omega⟩
    · exact ⟨hy, by omega, by omega⟩
theorem fmax_ge {x y : Nat} (hx : num x) (hy : num y) : ∃ z, fmax .f64 x y = some z ∧ num z ∧ sv x ≤ sv z ∧ sv y ≤ sv z := by
  have h : (FloatKind.format .f64).order x y = some (compare (sv x) (sv y)) := order_sv hx hy
  unfold fmax
  rw [h]
  obtain ⟨h1, h2, h3⟩ := cmpL (a := sv x) (b := sv y)
  cases hc : compare (sv x) (sv y) with
  | lt => have := h1 hc; exact ⟨y, rfl, hy, by omega, by omega⟩
  | gt => have := h3 hc; exact ⟨x, rfl, hx, by omega, by omega⟩
  | eq =>
    have := h2 hc
    refine ⟨_, rfl, ?_⟩
    split
    · exact ⟨hy, by omega, by omega⟩
    · exact ⟨hx, by omega, by omega⟩

/-- What a product of spans holds. -/
structure MB (a b c d l h : Nat) : Prop where
  nl : num l
  nh : num h
  lo : ∀ x y, (x = a ∨ x = b) → (y = c ∨ y = d) → sv l * (one74 : Int) ≤ sv x * sv y
  hi : ∀ x y, (x = a ∨ x = b) → (y = c ∨ y = d) → sv x * sv y ≤ sv h * (one74 : Int)
def small (c : Nat) : Prop := num c ∧ fin c = true ∧ mag dbl (rg dbl c) ≤ one74
section
variable {R : Type} {O : Ora R}
abbrev SMulB (O : Ora R) : Prop := ∀ (a b c d : Nat), num a → num b → fin a = true → fin b = true → small c → small d → ∃ l h : Nat, MB a b c d l h ∧ ∀ (G : GH) (k : IV → GH → Option R), O fn_span_Mul [.agg [.float .f64 a, .float .f64 b], .agg [.float .f64 c, .float .f64 d]] G k = k (.agg [.float .f64 l, .float .f64 h]) G
theorem feq0 {a b : Nat} (ha : num a) (hb : num b) (h : (feq .f64 a (0 : Nat) && (feq .f64 b (0 : Nat) && true)) = true) : sv a = 0 ∧ sv b = 0 := by
  rw [Bool.and_true, Bool.and_eq_true, feq_sv ha num_nil, feq_sv hb num_nil, decide_eq_true_eq, decide_eq_true_eq, sv_zero'] at h
  exact h
theorem mulB_body (hW : SWide O) (hAl : SAll O) (hI : SInf O) (hM : SMul O) {F a b c d : Nat} (ha : num a) (hb : num b) (fa : fin a = true) (fb : fin b = true) (hc : small c) (hd : small d) :
    ∃ l h : Nat, MB a b c d l h ∧ ∀ (G : GH) (k : IV → GH → Option R), bodyC Try.prog O [2, 3, 4, 5, 777777] (F + 4) Try.f46 [.agg [.float .f64 a, .float .f64 b], .agg [.float .f64 c, .float .f64 d]] G k = k (.agg [.float .f64 l, .float .f64 h]) G := by
  have zero : (∀ x y, (x = a ∨ x = b) → (y = c ∨ y = d) → sv x * sv y = 0) → MB a b c d 0 0 := fun hz =>
    ⟨num_nil, num_nil, fun x y h1 h2 => by rw [hz x y h1 h2, sv_zero', Int.zero_mul]; exact Int.le_refl _, fun x y h1 h2 => by rw [hz x y h1 h2, sv_zero', Int.zero_mul]; exact Int.le_refl _⟩
  have nx : ∀ x, (x = a ∨ x = b) → num x ∧ fin x = true := by rintro x (rfl | rfl); exact ⟨ha, fa⟩; exact ⟨hb, fb⟩
  have ny : ∀ y, (y = c ∨ y = d) → small y := by rintro y (rfl | rfl); exact hc; exact hd
  have wide : MB a b c d 18442240474082181120 9218868437227405312 :=
    ⟨ninf_num, inf_num, fun x y h1 h2 => by rw [sv_ninf]; exact (prod_lo (nx x h1).1 (ny y h2).2.2).1, fun x y h1 h2 => by rw [sv_pinf]; exact (prod_lo (nx x h1).1 (ny y h2).2.2).2⟩
  cases h1 : (feq .f64 a (0 : Nat)) && ((feq .f64 b (0 : Nat)) && true) with
  | true =>
    obtain ⟨z1, z2⟩ := feq0 ha hb h1
    refine ⟨0, 0, zero fun x y hx hy => by rcases hx with rfl | rfl <;> simp [z1, z2], fun G k => ?_⟩
    rw [e_span_Mul, h1, cond_true]
  | false =>
    cases h2 : (feq .f64 c (0 : Nat)) && ((feq .f64 d (0 : Nat)) && true) with
    | true =>
      obtain ⟨z1, z2⟩ := feq0 hc.1 hd.1 h2
      refine ⟨0, 0, zero fun x y hx hy => by rcases hy with rfl | rfl <;> simp [z1, z2], fun G k => ?_⟩
      rw [e_span_Mul, h1, cond_false, h2, cond_true]
    | false =>
      obtain ⟨w1, hw1⟩ := hW a b ha.1 hb.1
      obtain ⟨w2, hw2⟩ := hW c d hc.1.1 hd.1.1
      cases w1 with
      | true =>
        refine ⟨_, _, wide, fun G k => ?_⟩
        rw [e_span_Mul, h1, cond_false, h2, cond_false, hw1, ivB, cond_true, hAl, agg2]
      | false =>
        cases w2 with
        | true =>
          refine ⟨_, _, wide, fun G k => ?_⟩
          rw [e_span_Mul, h1, cond_false, h2, cond_false, hw1, ivB, cond_false, hw2, ivB, cond_true, hAl, agg2]
        | false =>
          obtain ⟨m1, e1, n1, p1, q1⟩ := fmin_le inf_num (mulV_num a c true)
          obtain ⟨M1, f1, o1, r1, s1⟩ := fmax_ge ninf_num (mulV_num a c false)
          obtain ⟨m2, e2, n2, p2, q2⟩ := fmin_le n1 (mulV_num a d true)
          obtain ⟨M2, f2, o2, r2, s2⟩ := fmax_ge o1 (mulV_num a d false)
          obtain ⟨m3, e3, n3, p3, q3⟩ := fmin_le n2 (mulV_num b c true)
          obtain ⟨M3, f3, o3, r3, s3⟩ := fmax_ge o2 (mulV_num b c false)
          obtain ⟨m4, e4, n4, p4, q4⟩ := fmin_le n3 (mulV_num b d true)
          obtain ⟨M4, f4, o4, r4, s4⟩ := fmax_ge o3 (mulV_num b d false)
          have mv : ∀ x y g, (x = a ∨ x = b) → (y = c ∨ y = d) → mulV x y g = mulR x y g := fun x y g hx hy => by
            unfold mulV
            rw [(nx x hx).2, (ny y hy).2.1]
            exact if_pos rfl
          have hp : (0 : Int) ≤ (one74 : Int) := Int.natCast_nonneg _
          have dn : ∀ x y, (x = a ∨ x = b) → (y = c ∨ y = d) → sv m4 ≤ sv (mulV x y true) := by
            clear mv hp wide zero nx ny hM hI hAl hW hw1 hw2
            rintro x y (rfl | rfl) (rfl | rfl) <;> omega
          have up : ∀ x y, (x = a ∨ x = b) → (y = c ∨ y = d) → sv (mulV x y false) ≤ sv M4 := by
            clear mv hp wide zero nx ny hM hI hAl hW hw1 hw2 dn
            rintro x y (rfl | rfl) (rfl | rfl) <;> omega
          refine ⟨m4, M4, ⟨n4, o4, fun x y hx hy => ?_, fun x y hx hy => ?_⟩, fun G k => ?_⟩
          · have h3 := dn x y hx hy
            rw [mv x y true hx hy] at h3
            exact Int.le_trans (Int.mul_le_mul_of_nonneg_right h3 hp) (mul_dn (nx x hx).2 (ny y hy).2.2)
          · have h3 := up x y hx hy
            rw [mv x y false hx hy] at h3
            exact Int.le_trans (mul_up (nx x hx).2 (ny y hy).2.2) (Int.mul_le_mul_of_nonneg_right h3 hp)
          · rw [e_span_Mul, h1, cond_false, h2, cond_false, hw1, ivB, cond_false, hw2, ivB, cond_false, (hI _ _).1, ivF, (hI _ _).2, ivF,
              hM a c true ha.1 hc.1.1, tupFI, hM a c false ha.1 hc.1.1, tupFI, e1, Option.bind_some, f1, Option.bind_some,
              hM a d true ha.1 hd.1.1, tupFI, hM a d false ha.1 hd.1.1, tupFI, e2, Option.bind_some, f2, Option.bind_some,
              hM b c true hb.1 hc.1.1, tupFI, hM b c false hb.1 hc.1.1, tupFI, e3, Option.bind_some, f3, Option.bind_some,
              hM b d true hb.1 hd.1.1, tupFI, hM b d false hb.1 hd.1.1, tupFI, e4, Option.bind_some, f4, Option.bind_some]
end
end Go.LI.Film
