/- TextureScales: the walk, and the law. -/
import Derived.Test.YtbjcipikclbecaaTvL
import Derived.Test.YtbjcipikclbecaaRdPt7
namespace Go.LI.Film
open Go.Proofs.Ytbjcipikclbecaa Go Go.Proofs Go.LI Go.LI.Fl
set_option linter.unusedVariables false
set_option linter.unusedSimpArgs false
set_option maxRecDepth 100000
set_option exponentiation.threshold 2500
theorem dN_eq (N b o h n1 n2 : Nat) (v4 v5 v6 v29 v30 v32 v33 v35 v36 v38 v40 v42 v43 v44 v45 v46 v47 v48 v56 v57 v60 v62 v63 v66 v68 v69 v70 v72 : IV) : dN_6_10 N (mkE 101 [(1, .loc 0 0), (3, .loc 1 0), (4, v4), (5, v5), (6, v6), (29, v29), (30, v30), (31, .loc 0 0), (32, v32), (33, v33), (34, .loc 0 1), (35, v35), (36, v36), (37, .loc 0 2), (38, v38), (39, .loc 0 3), (40, v40), (41, .loc 0 5), (42, v42), (43, v43), (44, v44), (45, v45), (46, v46), (47, v47), (48, v48), (56, v56), (57, v57), (58, .slice (some (⟨N + 0, 0⟩ : GA)) 0), (59, .loc 0 0), (60, v60), (61, .loc 0 2), (62, v62), (63, v63), (64, .slice (some (⟨b, o⟩ : GA)) n1), (65, .slice (some (⟨h, 0⟩ : GA)) n2), (66, v66), (67, .loc 0 2), (68, v68), (69, v69), (70, v70), (71, .slice (some (⟨N + 1, 0⟩ : GA)) 2), (72, v72)]) = (((N + 0 != N + 1) && (((N + 1 != N + 0) && (N + 1 != b)) && true)) && true) := by kernel_rfl
theorem dN_ok {N b o h n1 n2 : Nat} {v4 v5 v6 v29 v30 v32 v33 v35 v36 v38 v40 v42 v43 v44 v45 v46 v47 v48 v56 v57 v60 v62 v63 v66 v68 v69 v70 v72 : IV} (hb : b < N) : dN_6_10 N (mkE 101 [(1, .loc 0 0), (3, .loc 1 0), (4, v4), (5, v5), (6, v6), (29, v29), (30, v30), (31, .loc 0 0), (32, v32), (33, v33), (34, .loc 0 1), (35, v35), (36, v36), (37, .loc 0 2), (38, v38), (39, .loc 0 3), (40, v40), (41, .loc 0 5), (42, v42), (43, v43), (44, v44), (45, v45), (46, v46), (47, v47), (48, v48), (56, v56), (57, v57), (58, .slice (some (⟨N + 0, 0⟩ : GA)) 0), (59, .loc 0 0), (60, v60), (61, .loc 0 2), (62, v62), (63, v63), (64, .slice (some (⟨b, o⟩ : GA)) n1), (65, .slice (some (⟨h, 0⟩ : GA)) n2), (66, v66), (67, .loc 0 2), (68, v68), (69, v69), (70, v70), (71, .slice (some (⟨N + 1, 0⟩ : GA)) 2), (72, v72)]) = true := by
  rw [dN_eq]
  have e1 : (N + 0 != N + 1) = true := by rw [bne_iff_ne]; omega
  have e2 : (N + 1 != N + 0) = true := by rw [bne_iff_ne]; omega
  have e3 : (N + 1 != b) = true := by rw [bne_iff_ne]; omega
  rw [e1, e2, e3]
  rfl

/-! ### The region's heap -/
theorem app_at {H : GH} {b e sz bytes n m : Nat} {cs x : List IV} (hb : H[b]? = some ⟨cs, e, 1⟩) (hc : cs.length = n * sz) (hr : (n + m) * bytes ≤ roomI) : gappend H e sz bytes (some ⟨b, 0⟩) n x m = some (some ⟨H.length, 0⟩, gnew (H.set b ⟨cs, e, 2⟩) (cs ++ x) e) := by
  have hgr : grd H ⟨b, 0⟩ (n * sz) = some cs := by simp [grd, hb, ← hc]
  have hown : gown H b e = true := by simp [gown, hb]
  have hkill : gkill H b = H.set b ⟨cs, e, 2⟩ := by simp [gkill, hb]
  unfold gappend
  rw [if_pos hr]
  simp only [gaddr, hgr, hown, hkill, List.length_set]
theorem set_at {H : GH} {b : Nat} {c : Blk} (h : b < H.length) : (H.set b c)[b]? = some c := List.getElem?_set_self h
theorem reg_ok (G : GH) (x two : List IV) (m : Nat) (hx : x.length = (m + 1) * 8) (h2 : two.length = 16) (hm : m ≤ 100) : ∃ A1 A2 : GH,
    isHoleG ((G ++ [holeG, holeG]))[G.length + 0]? = true ∧
    Keeps G.length G (List.set (G ++ [holeG, holeG]) (G.length + 0) ⟨[], 52, 1⟩) ∧
    gappend (List.set (G ++ [holeG, holeG]) (G.length + 0) ⟨[], 52, 1⟩) 52 8 64 (some (⟨G.length + 0, 0⟩ : GA)) 0 x (m + 1) = some (some ⟨G.length + 2, 0⟩, A1) ∧
    isHoleG A1[G.length + 1]? = true ∧
    grd (List.set A1 (G.length + 1) ⟨two, 52, 1⟩) (⟨G.length + 1, 0⟩ : GA) (2 * 8) = some two ∧
    gappend (List.set A1 (G.length + 1) ⟨two, 52, 1⟩) 52 8 64 (some ⟨G.length + 2, 0⟩) (0 + (m + 1)) two 2 = some (some ⟨G.length + 3, 0⟩, A2) ∧
    Keeps G.length G A2 ∧ BL A2 (G.length + 3) (x ++ two) 52 := by
  have lH : (G ++ [holeG, holeG]).length = G.length + 2 := by rw [List.length_append]; rfl
  have g0 : (G ++ [holeG, holeG])[G.length]? = some holeG := by rw [List.getElem?_append_right (Nat.le_refl _), Nat.sub_self]; rfl
  have g1 : (G ++ [holeG, holeG])[G.length + 1]? = some holeG := by rw [List.getElem?_append_right (by omega), show G.length + 1 - G.length = 1 by omega]; rfl
  have gl : ∀ i, i < G.length → (G ++ [holeG, holeG])[i]? = G[i]? := fun i hi => List.getElem?_append_left hi
  rw [Nat.add_zero]
  generalize (G ++ [holeG, holeG]) = H at lH g0 g1 gl ⊢
  have s0 : (H.set G.length ⟨[], 52, 1⟩)[G.length]? = some ⟨[], 52, 1⟩ := set_at (by omega)
  have a1 := app_at (x := x) (m := m + 1) (n := 0) (sz := 8) (bytes := 64) s0 rfl (by unfold roomI; omega)
  rw [List.length_set, lH, List.set_set, List.nil_append] at a1
  have l1 : (gnew (H.set G.length ⟨[], 52, 2⟩) x 52).length = G.length + 3 := by rw [gnew_length, List.length_set, lH]
  have n0 : (gnew (H.set G.length ⟨[], 52, 2⟩) x 52)[G.length + 2]? = some ⟨x, 52, 1⟩ := by
    have := gnew_at (H.set G.length ⟨[], 52, 2⟩) x 52
    rwa [List.length_set, lH] at this
  have n1 : (gnew (H.set G.length ⟨[], 52, 2⟩) x 52)[G.length + 1]? = some holeG := by
    rw [gnew_old (by rw [List.length_set, lH]; omega), List.getElem?_set_ne (by omega), g1]
  have nl : ∀ i, i < G.length → (gnew (H.set G.length ⟨[], 52, 2⟩) x 52)[i]? = G[i]? := fun i hi => by
    rw [gnew_old (by rw [List.length_set, lH]; omega), List.getElem?_set_ne (by omega), gl i hi]
  generalize gnew (H.set G.length ⟨[], 52, 2⟩) x 52 = A1 at a1 l1 n0 n1 nl
  have t1 : (A1.set (G.length + 1) ⟨two, 52, 1⟩)[G.length + 1]? = some ⟨two, 52, 1⟩ := set_at (by omega)
  have t2 : (A1.set (G.length + 1) ⟨two, 52, 1⟩)[G.length + 2]? = some ⟨x, 52, 1⟩ := by rw [List.getElem?_set_ne (by omega), n0]
  have a2 := app_at (x := two) (m := 2) (n := 0 + (m + 1)) (sz := 8) (bytes := 64) t2 (by omega) (by unfold roomI; omega)
  rw [List.length_set, l1] at a2
  refine ⟨A1, _, ?_, ⟨by rw [List.length_set]; omega, fun i hi => by rw [List.getElem?_set_ne (by omega), gl i hi]⟩, a1, ?_, ?_, a2, ⟨?_, fun i hi => ?_⟩, 1, by decide, ?_⟩
  · rw [g0]; rfl
  · rw [n1]; rfl
  · simp [grd, t1, h2]
    exact List.take_of_length_le (by omega)
  · rw [gnew_length, List.length_set, List.length_set]; omega
  · rw [gnew_old (by rw [List.length_set, List.length_set]; omega), List.getElem?_set_ne (by omega), List.getElem?_set_ne (by omega), nl i hi]
  · have := gnew_at ((A1.set (G.length + 1) ⟨two, 52, 1⟩).set (G.length + 2) ⟨x, 52, 2⟩) (x ++ two) 52
    rwa [List.length_set, List.length_set, l1] at this

section
variable {R : Type} {O : Ora R}
abbrev VRW3 (O : Ora R) : Prop := ∀ v : Vl, v.ok → ∀ (G : GH) (k : IV → GH → Option R), O fn_ref03_Wide [S6 v.l0 v.h0 v.l1 v.h1 v.l2 v.h2] G k = k (.bool (wideV v)) G
theorem vRW3 {F n : Nat} (hn : 3 ≤ n) : VRW3 (runC (R := R) Try.prog lo0 F n) := by
  obtain ⟨n, rfl⟩ : ∃ j, n = j + 1 := ⟨n - 1, by omega⟩
  have hW := vRWi (R := R) (F := F) (n := n) (by omega)
  intro v hv G k
  unfold wideV
  rw [show fn_ref03_Wide = 20 from rfl, r_ref03_Wide, e_ref03_Wide, hW _ _ hv.a0.1.1 hv.b0.1.1, ivB]
  cases wideS v.l0 v.h0 with
  | true => rfl
  | false =>
    rw [cond_false, hW _ _ hv.a1.1.1 hv.b1.1.1, ivB, Bool.false_or]
    cases wideS v.l1 v.h1 with
    | true => rfl
    | false => rw [cond_false, hW _ _ hv.a2.1.1 hv.b2.1.1, ivB, Bool.false_or]
theorem evE_in {ts : List Tx} {p : Nat} {x : Int} (h : evE ts p x = 0) : ∃ m : Nat, x = (m : Int) ∧ m < ts.length := by
  unfold evE at h
  cases ho : (decide (x < 0) || decide (x ≥ (ts.length : Int))) with
  | true => rw [ho] at h; cases h
  | false =>
    rw [Bool.or_eq_false_iff, decide_eq_false_iff_not, decide_eq_false_iff_not] at ho
    exact ⟨x.toNat, by omega, by omega⟩
theorem more_cells {ts : List Tx} {m : Nat} : ((moreT ts m).map tcs).flatten = ((ts.take (m + 1)).map tcs).flatten ++ (tcs (tS m) ++ tcs t9) := by
  unfold moreT
  rw [List.map_append, List.flatten_append]
  rfl
theorem scales_body (hA : SQAw O) (hL : SLg O) (hV : VVal O) (hCp : VCp O) (hE : VEv O) (hW : VRW3 O) (hS : SQS3 O) {F : Nat} (hF : 1 ≤ F) (a pa : Option GA) (n m : Nat) (ts : List Tx) (ps : List Pi) (x : Int) (u0 u1 v0 v1 : Nat) (G : GH)
    (hT : RL tcs G a n ts) (hw : TsW ts) (hB : n = 0 → a = none ∨ ∃ b e, a = some ⟨b, 0⟩ ∧ BL G b [] e) (hP : PV G pa m ps) (hp : ∀ p ∈ ps, Pi.w' p) (hu0 : u0 < 2 ^ 64) (hu1 : u1 < 2 ^ 64) (hv0 : v0 < 2 ^ 64) (hv1 : v1 < 2 ^ 64) (hcut : gcut G a 52 = true) :
    ∃ G', ∀ (k : IV → GH → Option R), bodyC Try.prog O lo6 F Try.f6 [.agg [.slice a n, .slice pa m, .int .i64 x, .float .f64 u0, .float .f64 u1, .float .f64 v0, .float .f64 v1]] G k = k (.bool true) G' := by
  obtain ⟨F, rfl⟩ : ∃ F', F = F' + 1 := ⟨F - 1, by omega⟩
  obtain ⟨qs, hQ, hql, hPx⟩ := hP
  have hP : PV G pa m ps := ⟨qs, hQ, hql, hPx⟩
  obtain ⟨r2, q2, g2⟩ := hV u0 u1 hu0 hu1
  obtain ⟨r3, q3, g3⟩ := hV v0 v1 hv0 hv1
  have ent : ∀ (k : IV → GH → Option R), bodyC Try.prog O lo6 (F + 1) Try.f6 [.agg [.slice a n, .slice pa m, .int .i64 x, .float .f64 u0, .float .f64 u1, .float .f64 v0, .float .f64 v1]] G k =
      bif longB n m qs || (!r2 || !r3) then k (.bool true) G else a_law09_TextureScales_0N O k a n pa m x u0 u1 v0 v1 G := by
    intro k
    rw [e_law09_TextureScales]
    unfold u_law09_TextureScales
    rw [hA, ivB, Bool.not_true, cond_false]
    simp only [L_law09_TextureScales_0, stepN_succ, l_law09_TextureScales_0]
    unfold u_law09_TextureScales_0
    rw [hL a pa n m qs G hQ, ivB]
    cases longB n m qs with
    | true => rfl
    | false =>
      rw [cond_false, q2, ivB, Bool.false_or]
      cases r2 with
      | false => rfl
      | true =>
        rw [Bool.not_true, cond_false, q3, ivB, Bool.false_or]
        cases r3 with
        | false => rfl
        | true => rfl
  cases hg : (longB n m qs || (!r2 || !r3)) with
  | true => exact ⟨G, fun k => by rw [ent, hg, cond_true]⟩
  | false =>
    simp only [Bool.or_eq_false_iff, Bool.not_eq_false'] at hg
    obtain ⟨hlg, rfl, rfl⟩ := hg
    have dU := g2 rfl
    have dV := g3 rfl
    obtain ⟨b1, b2, b3⟩ := long_of hql hPx hlg
    obtain ⟨G1, h1, k1, l1, o1⟩ := app_new G 52 8 64 n ((ts.map tcs).flatten) (by unfold roomI; omega)
    obtain ⟨G2, a2, k2, p2, h2⟩ := hCp pa m ps G1 (hP.keep k1 (Nat.le_refl _)) b2 b3
    have o2 : BL G2 (G.length + 1) ((ts.map tcs).flatten) 52 := ⟨1, by decide, by rw [k2.2 _ (by omega)]; exact o1⟩
    have t2 : RP tcs G2 (some ⟨G.length + 1, 0⟩) n ts := ⟨hT.1, fun _ => ⟨_, 52, [], rfl, by rw [List.append_nil]; exact o2⟩⟩
    obtain ⟨G3, k3, h3⟩ := hE ts ps u0 u1 v0 v1 x hw hp dU.nx dU.ny dV.nx dV.ny (by rw [hT.1]; omega) (some ⟨G.length + 1, 0⟩) a2 n m G2 t2 p2.pr o2.cut
    have K3 : Keeps G.length G G3 := (k1.trans (k2.mono (by omega))).trans (k3.mono (by have := k2.1; omega))
    have ok1 := evV_ok (u0 := u0) (u1 := u1) (v0 := v0) (v1 := v1) hp hw x
    have sur : ∀ (j : Nat), x = (j : Int) → j < ts.length → evE ts ps.length x = 0 → wideV (evV ps u0 u1 v0 v1 ts x) = false → evV ps u0 u1 v0 v1 (moreT ts j) ((j + 1 : Nat) : Int) = evV ps u0 u1 v0 v1 ts x := fun j hj hl he hww => by
      subst hj
      exact evV_more (u0 := u0) (u1 := u1) (v0 := v0) (v1 := v1) hp hw hl he hww
    have nil0 : evE ts ps.length x ≠ 0 → evV ps u0 u1 v0 v1 ts x = Vl.nil := fun h => by
      unfold evV
      rw [show (evE ts ps.length x == 0) = false by rw [beq_eq_false_iff_ne]; exact h]
      rfl
    have enter : ∀ (k : IV → GH → Option R), bodyC Try.prog O lo6 (F + 1) Try.f6 [.agg [.slice a n, .slice pa m, .int .i64 x, .float .f64 u0, .float .f64 u1, .float .f64 v0, .float .f64 v1]] G k = a_law09_TextureScales_0N O k a n pa m x u0 u1 v0 v1 G := fun k => by
      rw [ent, hlg]; rfl
    by_cases he : evE ts ps.length x = 0
    · obtain ⟨j, hj, hjl⟩ := evE_in he
      have sur := sur j hj hjl he
      rw [he] at h3
      cases hwd : wideV (evV ps u0 u1 v0 v1 ts x) with
      | true =>
        generalize evV ps u0 u1 v0 v1 ts x = A at h3 ok1 hwd
        refine ⟨G3, fun k => ?_⟩
        rw [enter]
        unfold a_law09_TextureScales_0N
        rw [grd_list hT hB, Option.bind_some, h1, Option.bind_some, h2, ivSl', Option.bind_some, Nat.zero_add, h3, tup3, Option.bind_some]
        simp only [List.getD_cons_zero, List.getD_cons_succ]
        rw [S6_open, ivI, ivI, show ((0 : Int) != 0) = false from rfl, cond_false, hW A ok1, hwd, ivB, cond_true]
      | false =>
        have sur := sur hwd
        subst hj
        have hn1 := hT.1
        obtain ⟨b, e, rfl, hb⟩ := hT.2 (by omega)
        have hb3 : b < G3.length := by have := hb.lt; have := K3.1; omega
        have w1 : IntKind.wrap .i64 ((j : Int) + 1) = ((j + 1 : Nat) : Int) := wrapI (by omega) (by omega)
        have hlx : (((ts.take (j + 1)).map tcs).flatten).length = (j + 1) * 8 := by rw [recs_len tcs_length, List.length_take, Nat.min_eq_left (by omega)]
        obtain ⟨A1, A2, z0, z1, z2, z3, z4, z5, z6, z7⟩ := reg_ok G3 _ (tcs (tS j) ++ tcs t9) j hlx rfl (by omega)
        have cut0 : gcut (List.set (G3 ++ [holeG, holeG]) (G3.length + 0) ⟨[], 52, 1⟩) (some ⟨b, 0⟩) 52 = true := by
          unfold gcut at hcut ⊢
          simp only at hcut ⊢
          rw [z1.2 b hb3, K3.2 b hb.lt]
          exact hcut
        have dec0 : (decide (0 ≤ (0 : Int) ∧ (0 : Int) ≤ ((j + 1 : Nat) : Int) ∧ ((j + 1 : Nat) : Int) ≤ (n : Int)) && gcut (List.set (G3 ++ [holeG, holeG]) (G3.length + 0) ⟨[], 52, 1⟩) (some ⟨b, 0⟩) 52) = true := by
          rw [cut0, Bool.and_true, decide_eq_true_eq]; omega
        have hcu : cutA (some ⟨b, 0⟩) (Int.toNat (0 : Int) * 8) = some ⟨b, 0⟩ := rfl
        have rd0 : grdO (List.set (G3 ++ [holeG, holeG]) (G3.length + 0) ⟨[], 52, 1⟩) (some ⟨b, 0⟩) (j + 1) 8 = some (((ts.take (j + 1)).map tcs).flatten) := by
          have hr := ((hT.keep K3 (Nat.le_refl _)).keep z1 (Nat.le_refl _)).rp.pre (show j + 1 ≤ n by omega)
          obtain ⟨b', e', rest, q1, q2⟩ := hr.2 (by omega)
          injection q1 with q1
          injection q1 with q1 _
          subst q1
          obtain ⟨md, hmd, q2⟩ := q2
          show grd _ ⟨b, 0⟩ ((j + 1) * 8) = _
          unfold grd
          simp only
          rw [q2]
          simp only
          rw [if_pos ⟨hmd, by rw [List.length_append, hlx]; omega⟩, List.drop_zero, ← hlx, List.take_left]
        have old0 : oldA G3.length (some ⟨b, 0⟩) = true := Nat.ble_eq_true_of_le hb3
        have ble0 : (true && Nat.ble G3.length (G3.length + 0)) = true := Nat.ble_eq_true_of_le (Nat.le_refl _)
        have ble1 : (true && Nat.ble G3.length (G3.length + 1)) = true := Nat.ble_eq_true_of_le (Nat.le_succ _)
        have KA : Keeps G.length G A2 := K3.trans (z6.mono K3.1)
        obtain ⟨G5, a5, k5, p5, h5⟩ := hCp pa m ps A2 (hP.keep KA (Nat.le_refl _)) b2 b3
        have hmore : TsW (moreT ts j) := more_w hw
        have o5 : BL G5 (G3.length + 3) (((moreT ts j).map tcs).flatten) 52 := by
          rw [more_cells]
          exact z7.keep k5 z7.lt
        have t5 : RP tcs G5 (some ⟨G3.length + 3, 0⟩) (j + 3) (moreT ts j) := ⟨more_length hjl, fun _ => ⟨_, 52, [], rfl, by rw [List.append_nil]; exact o5⟩⟩
        obtain ⟨G6, k6, h6⟩ := hE (moreT ts j) ps u0 u1 v0 v1 ((j + 1 : Nat) : Int) hmore hp dU.nx dU.ny dV.nx dV.ny (by rw [more_length hjl]; omega) (some ⟨G3.length + 3, 0⟩) a5 (j + 3) m G5 t5 p5.pr o5.cut
        rw [sur, ev_more hjl he] at h6
        generalize evV ps u0 u1 v0 v1 ts (j : Int) = A at h3 h6 ok1 hwd
        refine ⟨G6, fun k => ?_⟩
        rw [enter]
        unfold a_law09_TextureScales_0N
        rw [grd_list hT hB, Option.bind_some, h1, Option.bind_some, h2, ivSl', Option.bind_some, Nat.zero_add n, h3, tup3, Option.bind_some]
        simp only [List.getD_cons_zero, List.getD_cons_succ]
        rw [S6_open, ivI, ivI, show ((0 : Int) != 0) = false from rfl, cond_false, hW A ok1, hwd, ivB, cond_false]
        rw [if_pos ble0, if_pos z0, if_pos old0, w1, dec0, cond_true, hcu, Int.toNat_natCast, show j + 1 - Int.toNat (0 : Int) = j + 1 from rfl, rd0, Option.bind_some, z2, Option.bind_some, if_pos ble1, if_pos z3]
        refine Eq.trans (congrArg (fun z => Option.bind z _) z4) ?_
        rw [Option.bind_some]
        refine Eq.trans (congrArg (fun z => Option.bind z _) z5) ?_
        rw [Option.bind_some, if_pos (dN_ok hb3)]
        simp only
        rw [h5, ivSl', Option.bind_some, show 0 + (j + 1) + 2 = j + 3 by omega, h6, tup3, Option.bind_some]
        simp only [List.getD_cons_zero, List.getD_cons_succ]
        rw [S6_open, ivI, ivI, show ((0 : Int) == 0) = true from rfl, cond_true, beq_self_eq_true, cond_true, hS, ivB]
    · have hz := nil0 he
      refine ⟨G3, fun k => ?_⟩
      rw [hz] at h3
      rw [enter]
      unfold a_law09_TextureScales_0N
      rw [grd_list hT hB, Option.bind_some, h1, Option.bind_some, h2, ivSl', Option.bind_some, Nat.zero_add, h3, tup3, Option.bind_some]
      simp only [List.getD_cons_zero, List.getD_cons_succ]
      rw [S6_open, ivI, ivI, show (evE ts ps.length x != (0 : Int)) = true by rw [bne_iff_ne]; exact he, cond_true, show (Vl.nil.s == (0 : Int)) = true from rfl, cond_true]
      refine Eq.trans (hS 0 0 0 0 0 0 G3 _) ?_
      rw [ivB]
theorem opn_where_cut {G : GH} {d : Nat} {a : Option GA} {n : Nat} {cs : List IV} (h : Opn Try.prog G (d + 6) 36 (.slice a n :: cs)) : gcut G a 52 = true := by
  obtain ⟨hl, h⟩ := opn_struct Try.underlying36 h
  rw [c36] at hl
  have h0 : Opn Try.prog G (d + 5) 22 (((IV.slice a n :: cs).drop 0).take (Try.prog.cellsOf 22)) := h 0 _ rfl
  rw [c22] at h0
  have h0' : Opn Try.prog G (d + 5) 22 [.slice a n] := h0
  rcases opn_slice Try.underlying22 h0' with h1 | ⟨b, n', cells, h1, h2, _⟩
  · injection h1 with h1 _
    subst h1
    rfl
  · injection h1 with h1 _
    subst h1
    simp [gcut, h2]
/-- TextureScales gives true. -/
theorem s6c {F n : Nat} (hF : 1000 ≤ F) (hn : 16 ≤ n) (hA : SQAw (runC (R := R) Try.prog lo0 F n)) (cs : List IV) (G : GH) (hO : WhO G cs) (hcut : ∀ a nn rest, cs = .slice a nn :: rest → gcut G a 52 = true) :
    ∃ G', ∀ (k : IV → GH → Option R), runC Try.prog lo0 F (n + 1) 6 [.agg cs] G k = k (.bool true) G' := by
  obtain ⟨a, c, ts, pa, m, ps, x, u0, u1, v0, v1, rfl, hT, hw, hB, hP, hp, w0, w1, w2, w3⟩ := hO.at'
  obtain ⟨G', h⟩ := scales_body (O := runC (R := R) Try.prog lo0 F n) hA (yLg hF (by omega)) (vVal (by omega)) (vCp hF (by omega)) (vEv hF (by omega)) (vRW3 (by omega)) (yS3 (by omega)) (F := F) (by omega) a pa c m ts ps x u0 u1 v0 v1 G hT hw hB hP hp w0 w1 w2 w3 (hcut _ _ _ rfl)
  exact ⟨G', fun k => by rw [r_law09_TextureScales]; exact h k⟩
end
end Go.LI.Film
