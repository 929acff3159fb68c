/- The reference's numbers and spans: what the texture laws need. -/
import Derived.Test.YtbjcipikclbecaaTxC
namespace Go.LI.Film
open Go.Proofs.Ytbjcipikclbecaa Go Go.Proofs Go.LI Go.LI.Fl
set_option linter.unusedVariables false
set_option linter.unusedSimpArgs false
set_option maxRecDepth 100000

theorem sub_cases {x : Nat} (hx : x < 2 ^ 64) : (fin x = true ∧ dbl.sub x x = some 0) ∨ (fin x = false ∧ dbl.sub x x = none) := by
  unfold fin
  rcases Nat.lt_trichotomy (rg dbl x) 9218868437227405312 with h | h | h
  · obtain ⟨i, m, h1, h2⟩ := read_num h
    have hs : dbl.sub x x = some 0 := by
      unfold Ieee.Format.sub
      rw [h1]
      simp only [Ieee.Datum.opposite, Ieee.Datum.sum, Option.map_some, Ieee.Format.write]
      have ht : Ieee.signed (sg dbl x) m (-1074 + (i : Int) - min (-1074 + (i : Int)) (-1074 + (i : Int))).toNat + Ieee.signed (!(sg dbl x)) m (-1074 + (i : Int) - min (-1074 + (i : Int)) (-1074 + (i : Int))).toNat = 0 := by
        unfold Ieee.signed
        cases sg dbl x <;> simp <;> omega
      rw [ht, if_pos rfl]
      have hb : (sg dbl x && !(sg dbl x)) = false := by cases sg dbl x <;> rfl
      rw [hb]
      rw [nearest_exact dbl (r := 0) (Nat.zero_le _) (by rw [(mag_zero dbl).2 rfl]; simp)]
      rfl
    exact .inl ⟨decide_eq_true h, hs⟩
  · have hs : dbl.sub x x = none := by
      unfold Ieee.Format.sub
      rw [read_infty hx h]
      simp only [Ieee.Datum.opposite, Ieee.Datum.sum]
      cases sg dbl x <;> rfl
    exact .inr ⟨decide_eq_false (by omega), hs⟩
  · have hs : dbl.sub x x = none := by
      unfold Ieee.Format.sub
      have hn : ∃ a b, dbl.read x = .nan a b := by
        unfold Ieee.Format.read
        simp only
        rw [show x % dbl.signWeight = rg dbl x from rfl, dbl_B, dbl_inf, if_neg (by omega), if_neg (by omega), if_neg (by omega)]
        exact ⟨_, _, rfl⟩
      obtain ⟨a, b, hn⟩ := hn
      rw [hn]
      rfl
    exact .inr ⟨decide_eq_false (by omega), hs⟩
theorem feq00 : feq .f64 0 0 = true := by decide +kernel
theorem sub_eq {x : Nat} (hx : x < 2 ^ 64) : (match (FloatKind.format .f64).sub x x with | some r => feq .f64 r 0 | none => false) = fin x := by
  rcases sub_cases hx with ⟨h1, h2⟩ | ⟨h1, h2⟩
  · have h2' : (FloatKind.format .f64).sub x x = some 0 := h2
    rw [h2', h1]; exact feq00
  · have h2' : (FloatKind.format .f64).sub x x = none := h2
    rw [h2', h1]
theorem sub_ne {x : Nat} (hx : x < 2 ^ 64) : (match (FloatKind.format .f64).sub x x with | some r => !feq .f64 r 0 | none => true) = !fin x := by
  rcases sub_cases hx with ⟨h1, h2⟩ | ⟨h1, h2⟩
  · have h2' : (FloatKind.format .f64).sub x x = some 0 := h2
    rw [h2', h1]
    show (!feq .f64 0 0) = !true
    rw [feq00]
  · have h2' : (FloatKind.format .f64).sub x x = none := h2
    rw [h2', h1]; rfl

section
variable {R : Type} {O : Ora R}
abbrev SQNumber (O : Ora R) : Prop := ∀ (x : Nat), x < 2 ^ 64 → ∀ (G : GH) (k : IV → GH → Option R), O fn_ref01_Number [.float .f64 x] G k = k (.bool (fin x)) G
theorem wQNumber {F n : Nat} (hn : 1 ≤ n) : SQNumber (runC (R := R) Try.prog lo0 F n) := by
  obtain ⟨n, rfl⟩ : ∃ j, n = j + 1 := ⟨n - 1, by omega⟩
  intro x hx G k
  have e : fn_ref01_Number = 35 := rfl
  rw [e, r_ref01_Number, e_ref01_Number, ← sub_eq hx]
  rfl
abbrev SQZ (O : Ora R) : Prop := ∀ (x : Nat), num x → ∀ (G : GH) (k : IV → GH → Option R), O fn_ref01_Zeroed [.float .f64 x] G k = k (.float .f64 (zw x)) G
theorem wQZ {F n : Nat} (hn : 1 ≤ n) : SQZ (runC (R := R) Try.prog lo0 F n) := by
  obtain ⟨n, rfl⟩ : ∃ j, n = j + 1 := ⟨n - 1, by omega⟩
  intro x hx G k
  have e : fn_ref01_Zeroed = 37 := rfl
  rw [e, r_ref01_Zeroed, e_ref01_Zeroed, feq_zero hx.1 hx.2]
  unfold zw
  by_cases h : rg dbl x = 0
  · rw [decide_eq_true h, cond_true, if_pos h]
  · rw [decide_eq_false h, cond_false, if_neg h]
abbrev SQInf (O : Ora R) : Prop := ∀ (G : GH) (k : IV → GH → Option R), O fn_ref01_Inf [] G k = k (.float .f64 9218868437227405312) G
theorem wQInf {F n : Nat} (hn : 2 ≤ n) : SQInf (runC (R := R) Try.prog lo0 F n) := by
  obtain ⟨n, rfl⟩ : ∃ j, n = j + 1 := ⟨n - 1, by omega⟩
  intro G k
  have e : fn_ref01_Inf = 25 := rfl
  have h := wFrom (R := R) (F := F) (n := n) (by omega) 9218868437227405312 G
  have h' : ∀ k, runC (R := R) Try.prog lo0 F n fn_math_Float64frombits [.int .u64 (9218868437227405312 : Int)] G k = k (.float .f64 9218868437227405312) G := h
  rw [e, r_ref01_Inf, e_ref01_Inf, h', ivF]
/-- -0? -/
abbrev SQMin (O : Ora R) : Prop := ∀ (x : Nat), ∃ b : Bool, ∀ (G : GH) (k : IV → GH → Option R), O fn_ref02_minus [.float .f64 x] G k = k (.bool b) G
theorem wQMin {F n : Nat} (hn : 2 ≤ n) : SQMin (runC (R := R) Try.prog lo0 F n) := by
  obtain ⟨n, rfl⟩ : ∃ j, n = j + 1 := ⟨n - 1, by omega⟩
  intro x
  have e : fn_ref02_minus = 26 := rfl
  cases h : feq .f64 x (0 : Nat) with
  | false => exact ⟨false, fun G k => by rw [e, r_ref02_minus, e_ref02_minus, h, cond_false]⟩
  | true => exact ⟨((x : Int) != 0), fun G k => by rw [e, r_ref02_minus, e_ref02_minus, h, cond_true, wBits (by omega), ivU]⟩
theorem neg_inf : Op.negFloat .f64 9218868437227405312 = 18442240474082181120 := by decide +kernel
/-- A span that may be; of one number: it is finite. -/
abbrev SQVal (O : Ora R) : Prop := ∀ (x y : Nat), x < 2 ^ 64 → y < 2 ^ 64 → ∃ b : Bool, (∀ (G : GH) (k : IV → GH → Option R), O fn_ref02_Valid [.agg [.float .f64 x, .float .f64 y]] G k = k (.bool b) G) ∧ (b = true → x = y → fin x = true)
theorem val_body (hI : SQInf O) (hM : SQMin O) {F x y : Nat} (hx : x < 2 ^ 64) (hy : y < 2 ^ 64) : ∃ b : Bool, (∀ (G : GH) (k : IV → GH → Option R), bodyC Try.prog O [1, 777777] F Try.f13 [.agg [.float .f64 x, .float .f64 y]] G k = k (.bool b) G) ∧ (b = true → x = y → fin x = true) := by
  cases h1 : fle .f64 x y with
  | false => exact ⟨false, fun G k => by rw [e_ref02_Valid, h1, cond_false], fun h => by cases h⟩
  | true =>
    cases h2 : (!feq .f64 x 9218868437227405312) with
    | false => exact ⟨false, fun G k => by rw [e_ref02_Valid, h1, cond_true, hI, ivF, h2, cond_false], fun h => by cases h⟩
    | true =>
      cases h3 : (!feq .f64 y 18442240474082181120) with
      | false => exact ⟨false, fun G k => by rw [e_ref02_Valid, h1, cond_true, hI, ivF, h2, cond_true, hI, ivF, neg_inf, h3, cond_false], fun h => by cases h⟩
      | true =>
        obtain ⟨b4, h4⟩ := hM x
        obtain ⟨b5, h5⟩ := hM y
        have key : x = y → fin x = true := by
          intro e
          subst e
          have hn : rg dbl x ≤ 9218868437227405312 := by
            by_cases h : rg dbl x ≤ 9218868437227405312
            · exact h
            · have e2 : (FloatKind.format .f64).order x x = none := order_nan (fun hc => h hc.1)
              unfold fle at h1
              rw [e2] at h1
              cases h1
          have hnum : num x := ⟨hx, hn⟩
          rcases Nat.lt_or_ge (rg dbl x) 9218868437227405312 with h | h
          · exact decide_eq_true h
          · exfalso
            have hr : rg dbl x = 9218868437227405312 := by omega
            have hw := word_sr (f := dbl) (w := x) (by rw [dbl_sw]; omega)
            rw [hr] at hw
            cases hs : sg dbl x with
            | false =>
              rw [hs] at hw
              have : x = 9218868437227405312 := hw.symm
              rw [feq_sv hnum inf_num, this] at h2
              simp at h2
            | true =>
              rw [hs] at hw
              have : x = 18442240474082181120 := by rw [← hw]; decide +kernel
              rw [feq_sv hnum ninf_num, this] at h3
              simp at h3
        cases b4 with
        | true => exact ⟨false, fun G k => by rw [e_ref02_Valid, h1, cond_true, hI, ivF, h2, cond_true, hI, ivF, neg_inf, h3, cond_true, h4, ivB, Bool.not_true, cond_false], fun h => by cases h⟩
        | false => exact ⟨!b5, fun G k => by rw [e_ref02_Valid, h1, cond_true, hI, ivF, h2, cond_true, hI, ivF, neg_inf, h3, cond_true, h4, ivB, Bool.not_false, cond_true, h5, ivB], fun _ => key⟩
abbrev SQNs (O : Ora R) : Prop := ∀ (a b c : Nat), a < 2 ^ 64 → b < 2 ^ 64 → c < 2 ^ 64 → ∃ r : Bool, (∀ (G : GH) (k : IV → GH → Option R), O fn_ref03_Numbers [.agg [.float .f64 a, .float .f64 b, .float .f64 c]] G k = k (.bool r) G) ∧ (r = true → fin a = true ∧ fin b = true ∧ fin c = true)
theorem ns_body (hV : SQVal O) {F a b c : Nat} (ha : a < 2 ^ 64) (hb : b < 2 ^ 64) (hc : c < 2 ^ 64) : ∃ r : Bool, (∀ (G : GH) (k : IV → GH → Option R), bodyC Try.prog O [1, 777777] (F + 4) Try.f17 [.agg [.float .f64 a, .float .f64 b, .float .f64 c]] G k = k (.bool r) G) ∧ (r = true → fin a = true ∧ fin b = true ∧ fin c = true) := by
  obtain ⟨r1, e1, f1⟩ := hV a a ha ha
  obtain ⟨r2, e2, f2⟩ := hV b b hb hb
  obtain ⟨r3, e3, f3⟩ := hV c c hc hc
  cases r1 with
  | false => exact ⟨false, fun G k => by rw [e_ref03_Numbers, e1, ivB, Bool.not_false, cond_true], fun h => by cases h⟩
  | true =>
    cases r2 with
    | false => exact ⟨false, fun G k => by rw [e_ref03_Numbers, e1, ivB, Bool.not_true, cond_false, e2, ivB, Bool.not_false, cond_true], fun h => by cases h⟩
    | true =>
      cases r3 with
      | false => exact ⟨false, fun G k => by rw [e_ref03_Numbers, e1, ivB, Bool.not_true, cond_false, e2, ivB, Bool.not_true, cond_false, e3, ivB, Bool.not_false, cond_true], fun h => by cases h⟩
      | true => exact ⟨true, fun G k => by rw [e_ref03_Numbers, e1, ivB, Bool.not_true, cond_false, e2, ivB, Bool.not_true, cond_false, e3, ivB, Bool.not_true, cond_false], fun _ => ⟨f1 rfl rfl, f2 rfl rfl, f3 rfl rfl⟩⟩
abbrev SQOf (O : Ora R) : Prop := ∀ (x : Nat), x < 2 ^ 64 → fin x = true → ∀ (G : GH) (k : IV → GH → Option R), O fn_ref02_Of [.float .f64 x] G k = k (.agg [.float .f64 (zw x), .float .f64 (zw x)]) G
theorem qof_body (hN : SQNumber O) (hZ : SQZ O) {F x : Nat} (hx : x < 2 ^ 64) (hf : fin x = true) (G : GH) (k : IV → GH → Option R) : bodyC Try.prog O [2, 777777] F Try.f21 [.float .f64 x] G k = k (.agg [.float .f64 (zw x), .float .f64 (zw x)]) G := by
  rw [e_ref02_Of, hN x hx, ivB, hf, Bool.not_true, cond_false, hZ x (num_fin hx hf), ivF, hZ x (num_fin hx hf), ivF]
abbrev SQVOf (O : Ora R) : Prop := ∀ (c0 c1 c2 : Nat), c0 < 2 ^ 64 → c1 < 2 ^ 64 → c2 < 2 ^ 64 → fin c0 = true → fin c1 = true → fin c2 = true → ∀ (G : GH) (k : IV → GH → Option R), O fn_ref03_Of [.agg [.float .f64 c0, .float .f64 c1, .float .f64 c2]] G k = k (.agg [.float .f64 (zw c0), .float .f64 (zw c0), .float .f64 (zw c1), .float .f64 (zw c1), .float .f64 (zw c2), .float .f64 (zw c2)]) G
theorem qvof_body (hO : SQOf O) {F c0 c1 c2 : Nat} (w0 : c0 < 2 ^ 64) (w1 : c1 < 2 ^ 64) (w2 : c2 < 2 ^ 64) (h0 : fin c0 = true) (h1 : fin c1 = true) (h2 : fin c2 = true) (G : GH) (k : IV → GH → Option R) :
    bodyC Try.prog O [1, 2, 777777] F Try.f18 [.agg [.float .f64 c0, .float .f64 c1, .float .f64 c2]] G k = k (.agg [.float .f64 (zw c0), .float .f64 (zw c0), .float .f64 (zw c1), .float .f64 (zw c1), .float .f64 (zw c2), .float .f64 (zw c2)]) G := by
  rw [e_ref03_Of, hO c0 w0 h0, agg2, hO c1 w1 h1, agg2, hO c2 w2 h2, agg2]
abbrev SQS2 (O : Ora R) : Prop := ∀ (x y : Nat) (G : GH) (k : IV → GH → Option R), O fn_ref02_Same [.agg [.float .f64 x, .float .f64 y], .agg [.float .f64 x, .float .f64 y]] G k = k (.bool true) G
theorem s2_body (hB : SBits O) {F : Nat} (x y : Nat) (G : GH) (k : IV → GH → Option R) : bodyC Try.prog O [2, 3, 777777] F Try.f33 [.agg [.float .f64 x, .float .f64 y], .agg [.float .f64 x, .float .f64 y]] G k = k (.bool true) G := by
  rw [e_ref02_Same]
  simp only [hB, ivU, beq_self_eq_true, cond_true]
abbrev SQS3 (O : Ora R) : Prop := ∀ (a b c d e f : Nat) (G : GH) (k : IV → GH → Option R), O fn_ref03_Same [.agg [.float .f64 a, .float .f64 b, .float .f64 c, .float .f64 d, .float .f64 e, .float .f64 f], .agg [.float .f64 a, .float .f64 b, .float .f64 c, .float .f64 d, .float .f64 e, .float .f64 f]] G k = k (.bool true) G
theorem s3_body (h2 : SQS2 O) {F : Nat} (a b c d e f : Nat) (G : GH) (k : IV → GH → Option R) : bodyC Try.prog O [2, 3, 777777] F Try.f19 [.agg [.float .f64 a, .float .f64 b, .float .f64 c, .float .f64 d, .float .f64 e, .float .f64 f], .agg [.float .f64 a, .float .f64 b, .float .f64 c, .float .f64 d, .float .f64 e, .float .f64 f]] G k = k (.bool true) G := by
  rw [e_ref03_Same]
  simp only [h2, ivB, cond_true]
end
end Go.LI.Film
