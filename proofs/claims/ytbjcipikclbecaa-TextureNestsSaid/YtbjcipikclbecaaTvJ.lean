/- TextureNests: spans within, and the law. -/
import Derived.Test.YtbjcipikclbecaaTvH
import Derived.Test.YtbjcipikclbecaaTvI
import Derived.Test.YtbjcipikclbecaaRdPt5
namespace Go.LI.Fl
open Go Go.LI Ieee
set_option linter.unusedVariables false
set_option maxRecDepth 100000
set_option exponentiation.threshold 2500
theorem num_infW (s : Bool) : num (dbl.word s dbl.infRung) := num_word (by rw [dbl_inf]; exact Nat.le_refl _)
/-- A product that is a number is one. -/
theorem mul_num {x y r : Nat} (h : dbl.mul x y = some r) : num r := by
  unfold Format.mul at h
  cases hp : (dbl.read x).product (dbl.read y) with
  | none => rw [hp] at h; cases h
  | some d =>
    rw [hp, Option.map_some] at h
    injection h with h
    subst h
    cases d with
    | number s m i => exact num_nearest _ _ _
    | infinity s => exact num_infW s
    | nan s t =>
      exfalso
      cases h1 : dbl.read x with
      | nan a b => rw [h1] at hp; cases hp
      | infinity a =>
        rw [h1] at hp
        cases h2 : dbl.read y with
        | nan b c => rw [h2] at hp; cases hp
        | infinity b => rw [h2] at hp; simp [Datum.product] at hp
        | number b m i => rw [h2] at hp; simp only [Datum.product] at hp; split at hp <;> simp at hp
      | number a m i =>
        rw [h1] at hp
        cases h2 : dbl.read y with
        | nan b c => rw [h2] at hp; cases hp
        | infinity b => rw [h2] at hp; simp only [Datum.product] at hp; split at hp <;> simp at hp
        | number b m' i' => rw [h2] at hp; simp [Datum.product] at hp
/-- A finite number and a number have a sum. -/
theorem add_num {x y : Nat} (hx : fin x = true) (hy : num y) : ∃ r, dbl.add x y = some r ∧ num r := by
  obtain ⟨i, m, h1, h2⟩ := read_num (x := x) (of_decide_eq_true hx)
  unfold Format.add
  rcases Nat.lt_or_ge (rg dbl y) 9218868437227405312 with h | h
  · obtain ⟨j, n, h3, h4⟩ := read_num h
    rw [h1, h3]
    simp only [Datum.sum, Option.map_some, Format.write]
    exact ⟨_, rfl, num_nearest _ _ _⟩
  · rw [read_infty hy.1 (by have := hy.2; omega), h1]
    exact ⟨_, rfl, num_infW _⟩
theorem sub_num {x y : Nat} (hx : fin x = true) (hy : fin y = true) : ∃ r, dbl.sub x y = some r ∧ num r := by
  obtain ⟨i, m, h1, h2⟩ := read_num (x := x) (of_decide_eq_true hx)
  obtain ⟨j, n, h3, h4⟩ := read_num (x := y) (of_decide_eq_true hy)
  unfold Format.sub
  rw [h1, h3]
  simp only [Datum.opposite, Datum.sum, Option.map_some, Format.write]
  exact ⟨_, rfl, num_nearest _ _ _⟩
end Go.LI.Fl
namespace Go.LI.Film
open Go.Proofs.Ytbjcipikclbecaa Go Go.Proofs Go.LI Go.LI.Fl
set_option linter.unusedVariables false
set_option linter.unusedSimpArgs false
set_option maxRecDepth 100000
set_option exponentiation.threshold 2500

section
variable {R : Type} {O : Ora R}
abbrev VLst (O : Ora R) : Prop := ∀ (x y : Nat) (G : GH) (k : IV → GH → Option R), O fn_zM [.float .f64 x, .float .f64 y] G k = k (.float .f64 (bif flt .f64 x y then x else y)) G
abbrev VGrt (O : Ora R) : Prop := ∀ (x y : Nat) (G : GH) (k : IV → GH → Option R), O fn_zA [.float .f64 x, .float .f64 y] G k = k (.float .f64 (bif fgt .f64 x y then x else y)) G
abbrev VGrN (O : Ora R) : Prop := ∀ (y : Nat) (G : GH) (k : IV → GH → Option R), O fn_zA [.fo .f64 none, .float .f64 y] G k = k (.float .f64 y) G
abbrev VRWi (O : Ora R) : Prop := ∀ (x y : Nat), x < 2 ^ 64 → y < 2 ^ 64 → ∀ (G : GH) (k : IV → GH → Option R), O fn_zH [S2 x y] G k = k (.bool (wideS x y)) G
theorem vLst {F n : Nat} (hn : 1 ≤ n) : VLst (runC (R := R) Try.prog lo0 F n) := by
  obtain ⟨n, rfl⟩ : ∃ j, n = j + 1 := ⟨n - 1, by omega⟩
  intro x y G k
  rw [show fn_zM = 30 from rfl, r_zM, e_zM]
  cases flt .f64 x y <;> rfl
theorem vGrt {F n : Nat} (hn : 1 ≤ n) : VGrt (runC (R := R) Try.prog lo0 F n) := by
  obtain ⟨n, rfl⟩ : ∃ j, n = j + 1 := ⟨n - 1, by omega⟩
  intro x y G k
  rw [show fn_zA = 31 from rfl, r_zA, e_zA]
  cases fgt .f64 x y <;> rfl
theorem vGrN {F n : Nat} (hn : 1 ≤ n) : VGrN (runC (R := R) Try.prog lo0 F n) := by
  obtain ⟨n, rfl⟩ : ∃ j, n = j + 1 := ⟨n - 1, by omega⟩
  intro y G k
  rw [show fn_zA = 31 from rfl, rN_ref02_Greatest, eN_ref02_Greatest]
theorem vRWi {F n : Nat} (hn : 2 ≤ n) : VRWi (runC (R := R) Try.prog lo0 F n) := by
  obtain ⟨n, rfl⟩ : ∃ j, n = j + 1 := ⟨n - 1, by omega⟩
  have hN := wQNumber (R := R) (F := F) (n := n) (by omega)
  intro x y hx hy G k
  unfold wideS
  rw [show fn_zH = 34 from rfl, r_zH, e_zH, hN x hx, ivB]
  cases fin x with
  | false => rfl
  | true => rw [Bool.not_true, cond_false, hN y hy, ivB]; rfl
/-- What lies in a span that may be. -/
structure Vd (x y : Nat) : Prop where
  nx : num x
  ny : num y
  le : sv x ≤ sv y
  hi : sv x < MI
  lo : -MI < sv y
abbrev VVal (O : Ora R) : Prop := ∀ (x y : Nat), x < 2 ^ 64 → y < 2 ^ 64 → ∃ b : Bool, (∀ (G : GH) (k : IV → GH → Option R), O fn_zy [S2 x y] G k = k (.bool b) G) ∧ (b = true → Vd x y)
theorem valV_body (hI : SQInf O) (hM : SQMin O) {F x y : Nat} (hx : x < 2 ^ 64) (hy : y < 2 ^ 64) : ∃ b : Bool, (∀ (G : GH) (k : IV → GH → Option R), bodyC Try.prog O [1, 777777] F Try.f13 [S2 x y] G k = k (.bool b) G) ∧ (b = true → Vd x y) := by
  cases h1 : fle .f64 x y with
  | false => exact ⟨false, fun G k => by rw [e_zy, h1, cond_false], fun h => by cases h⟩
  | true =>
    cases h2 : (!feq .f64 x 9218868437227405312) with
    | false => exact ⟨false, fun G k => by rw [e_zy, h1, cond_true, hI, ivF, h2, cond_false], fun h => by cases h⟩
    | true =>
      cases h3 : (!feq .f64 y 18442240474082181120) with
      | false => exact ⟨false, fun G k => by rw [e_zy, h1, cond_true, hI, ivF, h2, cond_true, hI, ivF, neg_inf, h3, cond_false], fun h => by cases h⟩
      | true =>
        obtain ⟨b4, h4⟩ := hM x
        obtain ⟨b5, h5⟩ := hM y
        have key : Vd x y := by
          have hn : rg dbl x ≤ 9218868437227405312 ∧ rg dbl y ≤ 9218868437227405312 := by
            by_cases h : rg dbl x ≤ 9218868437227405312 ∧ rg dbl y ≤ 9218868437227405312
            · exact h
            · have e2 : (FloatKind.format .f64).order x y = none := order_nan h
              unfold fle at h1
              rw [e2] at h1
              cases h1
          have nx : num x := ⟨hx, hn.1⟩
          have ny : num y := ⟨hy, hn.2⟩
          rw [fle_sv nx ny, decide_eq_true_eq] at h1
          rw [feq_sv nx inf_num, sv_pinf, MI_eq] at h2
          rw [feq_sv ny ninf_num, sv_ninf, MI_eq] at h3
          simp only [Bool.not_eq_true', decide_eq_false_iff_not] at h2 h3
          have := num_sv nx
          have := num_sv ny
          exact ⟨nx, ny, h1, by omega, by omega⟩
        cases b4 with
        | true => exact ⟨false, fun G k => by rw [e_zy, h1, cond_true, hI, ivF, h2, cond_true, hI, ivF, neg_inf, h3, cond_true, h4, ivB, Bool.not_true, cond_false], fun h => by cases h⟩
        | false => exact ⟨!b5, fun G k => by rw [e_zy, h1, cond_true, hI, ivF, h2, cond_true, hI, ivF, neg_inf, h3, cond_true, h4, ivB, Bool.not_false, cond_true, h5, ivB], fun _ => key⟩
theorem vVal {F n : Nat} (hn : 3 ≤ n) : VVal (runC (R := R) Try.prog lo0 F n) := by
  obtain ⟨n, rfl⟩ : ∃ j, n = j + 1 := ⟨n - 1, by omega⟩
  intro x y hx hy
  obtain ⟨b, h1, h2⟩ := valV_body (O := runC (R := R) Try.prog lo0 F n) (wQInf (by omega)) (wQMin (by omega)) (F := F) hx hy
  have e : fn_zy = 13 := rfl
  exact ⟨b, fun G k => by rw [e, r_zy]; exact h1 G k, h2⟩
theorem lst_sv {x y : Nat} (hx : num x) (hy : num y) : num (bif flt .f64 x y then x else y) ∧ sv (bif flt .f64 x y then x else y) = min (sv x) (sv y) := by
  rw [flt_sv hx hy]
  by_cases h : sv x < sv y
  · rw [decide_eq_true h, cond_true]; exact ⟨hx, by omega⟩
  · rw [decide_eq_false h, cond_false]; exact ⟨hy, by omega⟩
theorem grt_sv {x y : Nat} (hx : num x) (hy : num y) : num (bif fgt .f64 x y then x else y) ∧ sv (bif fgt .f64 x y then x else y) = max (sv x) (sv y) := by
  rw [fgt_sv hx hy]
  by_cases h : sv y < sv x
  · rw [decide_eq_true h, cond_true]; exact ⟨hx, by omega⟩
  · rw [decide_eq_false h, cond_false]; exact ⟨hy, by omega⟩
/-- A number of a span. -/
abbrev VIr (O : Ora R) : Prop := ∀ (a b s : Nat), Vd a b → ∃ x, num x ∧ sv a ≤ sv x ∧ sv x ≤ sv b ∧ ∀ (G : GH) (k : IV → GH → Option R), O fn_zs [S2 a b, .float .f64 s] G k = k (.float .f64 x) G
theorem ir_body (hW : VRWi O) (hL : VLst O) (hG : VGrt O) (hN : VGrN O) {F : Nat} (hF : 1 ≤ F) (a b s : Nat) (hv : Vd a b) : ∃ x, num x ∧ sv a ≤ sv x ∧ sv x ≤ sv b ∧ ∀ (G : GH) (k : IV → GH → Option R), bodyC Try.prog O lo29 F Try.f29 [S2 a b, .float .f64 s] G k = k (.float .f64 x) G := by
  obtain ⟨F, rfl⟩ : ∃ F', F = F' + 1 := ⟨F - 1, by omega⟩
  have one : num 4607182418800017408 := (num_small (by decide)).1
  have hle := hv.le
  -- the first branch
  have far : ∃ x, num x ∧ sv a ≤ sv x ∧ sv x ≤ sv b ∧ ∀ (G : GH) (k : IV → GH → Option R), a_zs_0N O k s true a b G = k (.float .f64 x) G := by
    obtain ⟨n1, e1⟩ := lst_sv one hv.ny
    obtain ⟨n2, e2⟩ := grt_sv n1 hv.nx
    refine ⟨_, n2, by omega, by omega, fun G k => ?_⟩
    unfold a_zs_0N
    rw [cond_true, hL, ivF, hG, ivF]
  have near : wideS a b = false → ∃ x, num x ∧ sv a ≤ sv x ∧ sv x ≤ sv b ∧ ∀ (G : GH) (k : IV → GH → Option R), a_zs_0N O k s false a b G = k (.float .f64 x) G := by
    intro hw
    unfold wideS at hw
    have hf : fin a = true ∧ fin b = true := by simpa using hw
    obtain ⟨r5, q5, n5⟩ := sub_num hf.2 hf.1
    have q5' : (FloatKind.format .f64).sub b a = some r5 := q5
    cases q6 : (FloatKind.format .f64).mul r5 s with
    | none =>
      obtain ⟨n1, e1⟩ := lst_sv hv.nx hv.ny
      refine ⟨_, n1, by omega, by omega, fun G k => ?_⟩
      unfold a_zs_0N
      rw [cond_false, q5', Option.bind_some, q6]
      simp only
      rw [hN, ivF, hL, ivF]
    | some r6 =>
      obtain ⟨r7, q7, n7⟩ := add_num hf.1 (mul_num q6)
      have q7' : (FloatKind.format .f64).add a r6 = some r7 := q7
      obtain ⟨n1, e1⟩ := grt_sv n7 hv.nx
      obtain ⟨n2, e2⟩ := lst_sv n1 hv.ny
      refine ⟨_, n2, by omega, by omega, fun G k => ?_⟩
      unfold a_zs_0N
      rw [cond_false, q5', Option.bind_some, q6]
      simp only
      rw [q7', Option.bind_some, hG, ivF, hL, ivF]
  have ent : ∀ (G : GH) (k : IV → GH → Option R), bodyC Try.prog O lo29 (F + 1) Try.f29 [S2 a b, .float .f64 s] G k = a_zs_0N O k s (wideS a b || !(fge .f64 s 0 && fle .f64 s 4607182418800017408)) a b G := by
    intro G k
    rw [e_zs]
    unfold u_zs L_zs_0
    rw [stepN_succ]
    unfold l_zs_0 u_zs_0
    rw [hW a b hv.nx.1 hv.ny.1, ivB]
    cases wideS a b with
    | true => rw [cond_true, Bool.true_or]
    | false =>
      rw [cond_false, Bool.false_or]
      cases fge .f64 s 0 with
      | false => rfl
      | true => rw [cond_true, Bool.true_and]
  cases hc : (wideS a b || !(fge .f64 s 0 && fle .f64 s 4607182418800017408)) with
  | true =>
    obtain ⟨x, h1, h2, h3, h4⟩ := far
    exact ⟨x, h1, h2, h3, fun G k => by rw [ent, hc, h4]⟩
  | false =>
    obtain ⟨x, h1, h2, h3, h4⟩ := near (by rw [Bool.or_eq_false_iff] at hc; exact hc.1)
    exact ⟨x, h1, h2, h3, fun G k => by rw [ent, hc, h4]⟩
theorem vIr {F n : Nat} (hF : 1 ≤ F) (hn : 3 ≤ n) : VIr (runC (R := R) Try.prog lo0 F n) := by
  obtain ⟨n, rfl⟩ : ∃ j, n = j + 1 := ⟨n - 1, by omega⟩
  intro a b s hv
  obtain ⟨x, h1, h2, h3, h4⟩ := ir_body (O := runC (R := R) Try.prog lo0 F n) (vRWi (by omega)) (vLst (by omega)) (vGrt (by omega)) (vGrN (by omega)) hF a b s hv
  exact ⟨x, h1, h2, h3, fun G k => by rw [show fn_zs = 29 from rfl, r_zs]; exact h4 G k⟩
/-- A span within. -/
abbrev VIn (O : Ora R) : Prop := ∀ (a b s t : Nat), Vd a b → ∃ c d, Inn a b c d ∧ ∀ (G : GH) (k : IV → GH → Option R), O fn_zo1 [S2 a b, .float .f64 s, .float .f64 t] G k = k (S2 c d) G
theorem vIn {F n : Nat} (hF : 1 ≤ F) (hn : 4 ≤ n) : VIn (runC (R := R) Try.prog lo0 F n) := by
  obtain ⟨n, rfl⟩ : ∃ j, n = j + 1 := ⟨n - 1, by omega⟩
  have hI := vIr (R := R) (F := F) (n := n) hF (by omega)
  have hL := vLst (R := R) (F := F) (n := n) (by omega)
  have hG := vGrt (R := R) (F := F) (n := n) (by omega)
  intro a b s t hv
  obtain ⟨x, x1, x2, x3, x4⟩ := hI a b s hv
  obtain ⟨y, y1, y2, y3, y4⟩ := hI a b t hv
  obtain ⟨n1, e1⟩ := lst_sv x1 y1
  obtain ⟨n2, e2⟩ := grt_sv x1 y1
  refine ⟨zw (bif flt .f64 x y then x else y), zw (bif fgt .f64 x y then x else y), ⟨hv.nx, hv.ny, zw_num n1, zw_num n2, ?_, ?_, ?_⟩, fun G k => ?_⟩
  · rw [sv_zw]; omega
  · rw [sv_zw, sv_zw]; omega
  · rw [sv_zw]; omega
  · have a1 : (FloatKind.format .f64).add (bif flt .f64 x y then x else y) 0 = some (zw (bif flt .f64 x y then x else y)) := add_zero' n1.1 n1.2
    have a2 : (FloatKind.format .f64).add (bif fgt .f64 x y then x else y) 0 = some (zw (bif fgt .f64 x y then x else y)) := add_zero' n2.1 n2.2
    rw [show fn_zo1 = 15 from rfl, r_zo1, e_zo1, x4, ivF, y4, ivF, hL, ivF, a1, Option.bind_some, hG, ivF, a2, Option.bind_some]

/-! ### The law -/
theorem long_of {n m : Nat} {ps : List Pi} {qs : List Pc} {G : GH} (hl : qs.length = ps.length) (hP : ∀ (i : Nat) (q : Pc) (p : Pi), qs[i]? = some q → ps[i]? = some p → PxV G q p) (h : longB n m qs = false) : n ≤ 100 ∧ m ≤ 10 ∧ pxSmall ps := by
  simp only [longB, Bool.or_eq_false_iff, decide_eq_false_iff_not, List.any_eq_false, decide_eq_true_eq] at h
  obtain ⟨g1, g2, g3⟩ := h
  refine ⟨by omega, by omega, fun p hp => ?_⟩
  obtain ⟨i, hi⟩ := List.getElem?_of_mem hp
  have hil : i < qs.length := by rw [hl]; exact (List.getElem?_eq_some_iff.1 hi).1
  have := hP i _ p (List.getElem?_eq_getElem hil) hi
  have h3 := g3 _ (List.getElem_mem hil)
  rw [this.len]
  omega
theorem grd_list {G : GH} {a : Option GA} {n : Nat} {ts : List Tx} (hT : RL tcs G a n ts) (hB : n = 0 → a = none ∨ ∃ b e, a = some ⟨b, 0⟩ ∧ BL G b [] e) : grdO (gnew G [] 52) a n 8 = some ((ts.map tcs).flatten) := by
  rcases Nat.eq_zero_or_pos n with h0 | h0
  · subst h0
    have ht : ts = [] := List.length_eq_zero_iff.1 hT.1
    subst ht
    rcases hB rfl with rfl | ⟨b, e, rfl, hb⟩
    · rfl
    · exact (hb.keep (keeps_new G [] 52 (Nat.le_refl _)) hb.lt).grd (by simp)
  · obtain ⟨b, e, rfl, hb⟩ := hT.2 h0
    exact (hb.keep (keeps_new G [] 52 (Nat.le_refl _)) hb.lt).grd (by rw [recs_len tcs_length, hT.1])
theorem fle_self {x : Nat} (h : num x) : fle .f64 x x = true := by
  rw [fle_sv h h, decide_eq_true (Int.le_refl _)]
theorem evV_ok {ps : List Pi} {u0 u1 v0 v1 : Nat} {ts : List Tx} (hp : ∀ p ∈ ps, Pi.w' p) (ht : TsW ts) (n : Int) : (evV ps u0 u1 v0 v1 ts n).ok := by
  unfold evV
  cases (evE ts ps.length n == 0) with
  | false => exact Vl.ok_nil
  | true =>
    rw [cond_true]
    unfold evAll
    refine vl_okD (evRun_ok hp ht _ _ _ ?_) _
    intro v hv
    rw [List.mem_replicate] at hv
    rw [hv.2]
    exact Vl.ok_nil
theorem nests_body (hA : SQAw O) (hL : SLg O) (hV : VVal O) (hCp : VCp O) (hE : VEv O) (hI : VIn O) (hW : SWi O) {F : Nat} (hF : 1 ≤ F) (a pa : Option GA) (n m : Nat) (ts : List Tx) (ps : List Pi) (x : Int) (u0 u1 v0 v1 s0 s1 s2 s3 : Nat) (G : GH)
    (hT : RL tcs G a n ts) (hw : TsW ts) (hB : n = 0 → a = none ∨ ∃ b e, a = some ⟨b, 0⟩ ∧ BL G b [] e) (hP : PV G pa m ps) (hp : ∀ p ∈ ps, Pi.w' p) (hu0 : u0 < 2 ^ 64) (hu1 : u1 < 2 ^ 64) (hv0 : v0 < 2 ^ 64) (hv1 : v1 < 2 ^ 64) :
    ∃ G', ∀ (k : IV → GH → Option R), bodyC Try.prog O lo4 F Try.f4 [.agg [.slice a n, .slice pa m, .int .i64 x, .float .f64 u0, .float .f64 u1, .float .f64 v0, .float .f64 v1], .agg [.float .f64 s0, .float .f64 s1, .float .f64 s2, .float .f64 s3]] G k = k (.bool true) G' := by
  obtain ⟨F, rfl⟩ : ∃ F', F = F' + 1 := ⟨F - 1, by omega⟩
  obtain ⟨qs, hQ, hql, hPx⟩ := hP
  have hP : PV G pa m ps := ⟨qs, hQ, hql, hPx⟩
  obtain ⟨r2, q2, g2⟩ := hV u0 u1 hu0 hu1
  obtain ⟨r3, q3, g3⟩ := hV v0 v1 hv0 hv1
  have ent : ∀ (k : IV → GH → Option R), bodyC Try.prog O lo4 (F + 1) Try.f4 [.agg [.slice a n, .slice pa m, .int .i64 x, .float .f64 u0, .float .f64 u1, .float .f64 v0, .float .f64 v1], .agg [.float .f64 s0, .float .f64 s1, .float .f64 s2, .float .f64 s3]] G k =
      bif longB n m qs || (!r2 || !r3) then k (.bool true) G else a_zt_0N O k a n pa m x u0 u1 v0 v1 s0 s1 s2 s3 G := by
    intro k
    rw [e_zt]
    unfold u_zt
    rw [hA, ivB, Bool.not_true, cond_false]
    simp only [L_zt_0, stepN_succ, l_zt_0]
    unfold u_zt_0
    rw [hL a pa n m qs G hQ, ivB]
    cases longB n m qs with
    | true => rfl
    | false =>
      rw [cond_false, q2, ivB, Bool.false_or]
      cases r2 with
      | false => rfl
      | true =>
        rw [Bool.not_true, cond_false, q3, ivB, Bool.false_or]
        cases r3 with
        | false => rfl
        | true => rfl
  cases hg : (longB n m qs || (!r2 || !r3)) with
  | true => exact ⟨G, fun k => by rw [ent, hg, cond_true]⟩
  | false =>
    simp only [Bool.or_eq_false_iff, Bool.not_eq_false'] at hg
    obtain ⟨hlg, rfl, rfl⟩ := hg
    have dU := g2 rfl
    have dV := g3 rfl
    obtain ⟨b1, b2, b3⟩ := long_of hql hPx hlg
    obtain ⟨c0, c1, iU, eU⟩ := hI u0 u1 s0 s1 dU
    obtain ⟨d0, d1, iV, eV⟩ := hI v0 v1 s2 s3 dV
    -- the first run
    obtain ⟨G1, h1, k1, l1, o1⟩ := app_new G 52 8 64 n ((ts.map tcs).flatten) (by unfold roomI; omega)
    obtain ⟨G2, a2, k2, p2, h2⟩ := hCp pa m ps G1 (hP.keep k1 (Nat.le_refl _)) b2 b3
    have o2 : BL G2 (G.length + 1) ((ts.map tcs).flatten) 52 := ⟨1, by decide, by rw [k2.2 _ (by omega)]; exact o1⟩
    have t2 : RP tcs G2 (some ⟨G.length + 1, 0⟩) n ts := ⟨hT.1, fun _ => ⟨_, 52, [], rfl, by rw [List.append_nil]; exact o2⟩⟩
    obtain ⟨G3, k3, h3⟩ := hE ts ps u0 u1 v0 v1 x hw hp dU.nx dU.ny dV.nx dV.ny (by rw [hT.1]; omega) (some ⟨G.length + 1, 0⟩) a2 n m G2 t2 p2.pr o2.cut
    have K3 : Keeps G.length G G3 := (k1.trans (k2.mono (by omega))).trans (k3.mono (by have := k2.1; omega))
    -- the second run
    have hT3 := hT.keep K3 (Nat.le_refl _)
    have hB3 : n = 0 → a = none ∨ ∃ b e, a = some ⟨b, 0⟩ ∧ BL G3 b [] e := fun h0 => (hB h0).imp id fun ⟨b, e, e1, e2⟩ => ⟨b, e, e1, e2.keep K3 e2.lt⟩
    obtain ⟨G4, h4, k4, l4, o4⟩ := app_new G3 52 8 64 n ((ts.map tcs).flatten) (by unfold roomI; omega)
    obtain ⟨G5, a5, k5, p5, h5⟩ := hCp pa m ps G4 ((hP.keep K3 (Nat.le_refl _)).keep k4 (Nat.le_refl _)) b2 b3
    have o5 : BL G5 (G3.length + 1) ((ts.map tcs).flatten) 52 := ⟨1, by decide, by rw [k5.2 _ (by omega)]; exact o4⟩
    have t5 : RP tcs G5 (some ⟨G3.length + 1, 0⟩) n ts := ⟨hT.1, fun _ => ⟨_, 52, [], rfl, by rw [List.append_nil]; exact o5⟩⟩
    obtain ⟨G6, k6, h6⟩ := hE ts ps c0 c1 d0 d1 x hw hp iU.nc iU.nd iV.nc iV.nd (by rw [hT.1]; omega) (some ⟨G3.length + 1, 0⟩) a5 n m G5 t5 p5.pr o5.cut
    have sur := evV_sur (ps := ps) iU iV (n := x) hw
    have ok1 := evV_ok (u0 := u0) (u1 := u1) (v0 := v0) (v1 := v1) hp hw x
    generalize evV ps u0 u1 v0 v1 ts x = A at h3 sur ok1
    generalize evV ps c0 c1 d0 d1 ts x = B at h6 sur
    generalize evE ts ps.length x = e at h3 h6
    refine ⟨G6, fun k => ?_⟩
    rw [ent, hlg, Bool.not_true, Bool.or_self, Bool.or_self, cond_false]
    unfold a_zt_0N
    rw [grd_list hT hB, Option.bind_some, h1, Option.bind_some, h2, ivSl', Option.bind_some, Nat.zero_add, h3, tup3, Option.bind_some]
    simp only [List.getD_cons_zero, List.getD_cons_succ]
    rw [S6_open, ivI, ivI, grd_list hT3 hB3, Option.bind_some, h4, Option.bind_some, h5, ivSl', Option.bind_some, eU, agg2, eV, agg2]
    rw [h6, tup3, Option.bind_some]
    simp only [List.getD_cons_zero, List.getD_cons_succ]
    rw [S6_open, ivI, ivI]
    rw [show (e != e) = false by simp, cond_false]
    cases he : (e != (0 : Int)) with
    | true => rw [cond_true]
    | false =>
      rw [cond_false]
      cases hs : (A.s != (1 : Int)) with
      | true => rw [cond_true]
      | false =>
        have hs1 : A.s = 1 := by simpa using hs
        have hBA := sur hs1
        subst hBA
        rw [cond_false, hs1, show ((1 : Int) == 1) = true from rfl, cond_true, hW _ _ _ _ _ _ _ _ _ _ _ _ (fle_self ok1.a0.1) (fle_self ok1.b0.1) (fle_self ok1.a1.1) (fle_self ok1.b1.1) (fle_self ok1.a2.1) (fle_self ok1.b2.1), ivB]
/-- TextureNests gives true. -/
theorem s4n {F n : Nat} (hF : 1000 ≤ F) (hn : 16 ≤ n) (hA : SQAw (runC (R := R) Try.prog lo0 F n)) (cs ds : List IV) (G : GH) (hO : WhO G cs) (hD : ∃ s0 s1 s2 s3 : Nat, ds = [.float .f64 s0, .float .f64 s1, .float .f64 s2, .float .f64 s3]) :
    ∃ G', ∀ (k : IV → GH → Option R), runC Try.prog lo0 F (n + 1) 4 [.agg cs, .agg ds] G k = k (.bool true) G' := by
  obtain ⟨a, c, ts, pa, m, ps, x, u0, u1, v0, v1, rfl, hT, hw, hB, hP, hp, w0, w1, w2, w3⟩ := hO.at'
  obtain ⟨s0, s1, s2, s3, rfl⟩ := hD
  obtain ⟨G', h⟩ := nests_body (O := runC (R := R) Try.prog lo0 F n) hA (yLg hF (by omega)) (vVal (by omega)) (vCp hF (by omega)) (vEv hF (by omega)) (vIn (by omega) (by omega)) (yWi (by omega)) (F := F) (by omega) a pa c m ts ps x u0 u1 v0 v1 s0 s1 s2 s3 G hT hw hB hP hp w0 w1 w2 w3
  exact ⟨G', fun k => by rw [r_zt]; exact h k⟩
end
end Go.LI.Film
