/- Structs and arrays compared leaf by leaf. -/
import Derived.Test.YtckelpgijjbpaaaLiC
import Derived.ChangeKeysEq
namespace Go.LI
open Go Go.RowKit

section
variable {P : Program} {w : World} {m : Map}

theorem und_info {t : TypeId} {d : TypeDesc} (h : P.underlying t = some d) : ∃ i, P.info? t = some i ∧ P.cellsOf t = i.size := by
  unfold Program.underlying at h
  cases hi : P.info? t with
  | none => rw [hi] at h; cases h
  | some i => exact ⟨i, rfl, by simp [Program.cellsOf, hi]⟩

theorem run_sizeT {t : TypeId} {d : TypeDesc} (h : P.underlying t = some d) : (sizeOf t).run P w = .ok (P.cellsOf t) w := by
  obtain ⟨i, hi, hs⟩ := und_info h
  simp [sizeOf, typeInfo, hi, hs]

theorem run_isAggT {t : TypeId} {d : TypeDesc} (h : P.underlying t = some d) : (isAgg t).run P w = .ok (aggT P t) w := by
  simp only [isAgg, Sem.run_bind, run_und h, Result.andThen_ok, aggT, h]
  cases d <;> rfl

def partV (P : Program) (t : TypeId) (cs : Array Value) (off s : Nat) : Value := if aggT P t then .agg (cs.extract off (off + s)) else cs.getD off Go.undef

theorem run_partV {t : TypeId} {d : TypeDesc} (h : P.underlying t = some d) (cs : Array Value) (off : Nat) (hc : aggT P t = false → off < cs.size) :
    (part t cs off).run P w = .ok (partV P t cs off (P.cellsOf t)) w := by
  simp only [part, Sem.run_bind, run_isAggT h, Result.andThen_ok, partV]
  cases ha : aggT P t
  · have := hc ha
    simp [this]
  · simp [run_sizeT h]

/-- These cells stand there. -/
def CellsAt (m : Map) (X : Array Value) (off : Nat) (xs : List IV) : Prop := ∀ (i : Nat) (iv : IV), xs[i]? = some iv → ∃ v, X[off + i]? = some v ∧ VRel m iv v

theorem CellsAt.split {X : Array Value} {off : Nat} {xs ys : List IV} (h : CellsAt m X off (xs ++ ys)) : CellsAt m X off xs ∧ CellsAt m X (off + xs.length) ys := by
  refine ⟨fun i iv hi => h i iv ?_, fun i iv hi => ?_⟩
  · rw [List.getElem?_append_left (List.getElem?_eq_some_iff.1 hi).1]; exact hi
  · obtain ⟨v, hv, hr⟩ := h (xs.length + i) iv (by rw [List.getElem?_append_right (by omega)]; simpa using hi)
    exact ⟨v, by rw [← hv]; congr 1; omega, hr⟩

theorem CellsAt.extract {X : Array Value} {off s o : Nat} {xs : List IV} (h : CellsAt m X (off + o) xs) (hl : o + xs.length ≤ s) : CellsAt m (X.extract off (off + s)) o xs := by
  intro i iv hi
  obtain ⟨v, hv, hr⟩ := h i iv hi
  have h1 : i < xs.length := (List.getElem?_eq_some_iff.1 hi).1
  have h2 : off + o + i < X.size := (Array.getElem?_eq_some_iff.1 hv).1
  refine ⟨v, ?_, hr⟩
  rw [Array.getElem?_extract]
  rw [if_pos (by omega)]
  rw [← hv]; congr 1; omega

theorem eqLeaves_len : ∀ {ls : List Leaf} {xs ys : List IV} {b : Bool}, eqLeaves ls xs ys = some b → xs.length = ls.length ∧ ys.length = ls.length
  | [], [], [], _, _ => ⟨rfl, rfl⟩
  | l :: ls, x :: xs, y :: ys, b, h => by
    simp only [eqLeaves] at h
    split at h
    · rename_i h1 h2
      obtain ⟨a1, a2⟩ := eqLeaves_len h2
      exact ⟨by simp [a1], by simp [a2]⟩
    · cases h
  | [], x :: xs, ys, b, h => by simp [eqLeaves] at h
  | [], [], y :: ys, b, h => by simp [eqLeaves] at h
  | l :: ls, [], ys, b, h => by simp [eqLeaves] at h
  | l :: ls, x :: xs, [], b, h => by simp [eqLeaves] at h

theorem eqLeaves_append : ∀ {l1 l2 : List Leaf} {xs ys : List IV} {b : Bool}, eqLeaves (l1 ++ l2) xs ys = some b →
    ∃ x1 x2 y1 y2 b1 b2, xs = x1 ++ x2 ∧ ys = y1 ++ y2 ∧ eqLeaves l1 x1 y1 = some b1 ∧ eqLeaves l2 x2 y2 = some b2 ∧ b = (b1 && b2)
  | [], l2, xs, ys, b, h => ⟨[], xs, [], ys, true, b, rfl, rfl, rfl, h, by simp⟩
  | l :: l1, l2, [], ys, b, h => by simp [eqLeaves] at h
  | l :: l1, l2, x :: xs, [], b, h => by simp [eqLeaves] at h
  | l :: l1, l2, x :: xs, y :: ys, b, h => by
    simp only [List.cons_append, eqLeaves] at h
    split at h
    · rename_i a1 a2 h1 h2
      injection h with h
      obtain ⟨x1, x2, y1, y2, b1, b2, e1, e2, e3, e4, e5⟩ := eqLeaves_append h2
      refine ⟨x :: x1, x2, y :: y1, y2, a1 && b1, b2, by simp [e1], by simp [e2], by simp [eqLeaves, h1, e3], e4, ?_⟩
      rw [← h, e5, Bool.and_assoc]
    · cases h

/-- What is shown of each type, by its depth. -/
def EqPlain (P : Program) (m : Map) (d : Nat) (t : TypeId) (s : Nat) : Prop :=
  (leaves P d t).length = s ∧ (∃ q, P.underlying t = some q) ∧ (aggT P t = false → s = 1) ∧ ∀ (D : Nat) (X Y : Array Value) (off : Nat) (xs ys : List IV) (b : Bool), eqLeaves (leaves P d t) xs ys = some b → CellsAt m X off xs → CellsAt m Y off ys →
    ∀ w, (Op.equalIn (D + d) t (partV P t X off s) (partV P t Y off s)).run P w = .ok b w

theorem getD_of {X : Array Value} {off : Nat} {v : Value} (h : X[off]? = some v) : X.getD off Go.undef = v := by
  simp [Array.getD_eq_getD_getElem?, h]

theorem eqFields_plain {d : Nat} (IH : ∀ t s, plainSize P d t = some s → EqPlain P m d t s) : ∀ (fs : List Field) (off0 s : Nat), plainFields P (plainSize P d) fs off0 = some s →
    (fs.flatMap fun f => leaves P d f.type).length + off0 = s ∧ ∀ (D : Nat) (X Y : Array Value) (xs ys : List IV) (b : Bool), eqLeaves (fs.flatMap fun f => leaves P d f.type) xs ys = some b → CellsAt m X off0 xs → CellsAt m Y off0 ys →
    ∀ w, (Op.eqFields (D + d) X Y fs).run P w = .ok b w
  | [], off0, s, h => by
    simp [plainFields] at h
    subst h
    refine ⟨by simp, fun D X Y xs ys b hb _ _ w => ?_⟩
    simp only [List.flatMap_nil] at hb
    cases xs <;> cases ys <;> simp [eqLeaves] at hb
    subst hb
    rfl
  | f :: fs, off0, s, h => by
    simp only [plainFields] at h
    split at h
    · rename_i sf hsf
      split at h
      · rename_i hc
        obtain ⟨hn, ho, hcs⟩ := hc
        obtain ⟨hl, ⟨q, hu⟩, hs1, he⟩ := IH _ _ hsf
        obtain ⟨hlen, hfs⟩ := eqFields_plain IH fs _ _ h
        refine ⟨by simp only [List.flatMap_cons, List.length_append, hl]; omega, fun D X Y xs ys b hb hX hY w => ?_⟩
        simp only [List.flatMap_cons] at hb
        obtain ⟨x1, x2, y1, y2, b1, b2, e1, e2, e3, e4, e5⟩ := eqLeaves_append hb
        subst e1; subst e2
        obtain ⟨l1, l2⟩ := eqLeaves_len e3
        obtain ⟨hX1, hX2⟩ := hX.split
        obtain ⟨hY1, hY2⟩ := hY.split
        have r1 := he D X Y off0 x1 y1 b1 e3 hX1 hY1 w
        have r2 := hfs D X Y x2 y2 b2 e4 (by rw [l1, hl] at hX2; exact hX2) (by rw [l2, hl] at hY2; exact hY2) w
        have inb : ∀ {X : Array Value} {x1 : List IV}, CellsAt m X off0 x1 → x1.length = (leaves P d f.type).length → aggT P f.type = false → off0 < X.size := by
          intro X x1 hX1 hl1 ha
          have := hs1 ha
          have h0 : 0 < x1.length := by omega
          obtain ⟨v, hv, _⟩ := hX1 0 x1[0] (List.getElem?_eq_getElem h0)
          have := (Array.getElem?_eq_some_iff.1 hv).1
          omega
        simp only [Op.eqFields, hn, ne_eq, not_false_eq_true, if_true, Sem.run_bind]
        rw [← ho] at r1 inb
        rw [run_partV hu X f.offset (inb (by rw [ho]; exact hX1) l1), Result.andThen_ok, run_partV hu Y f.offset (inb (by rw [ho]; exact hY1) l2), Result.andThen_ok, hcs, r1, Result.andThen_ok]
        cases b1
        · simp [e5]
        · simp only [Bool.not_true, Bool.false_eq_true, if_false]
          rw [r2, e5]; simp
      · cases h
    · cases h

theorem eqItems_plain {d : Nat} {e : TypeId} {s : Nat} (H : EqPlain P m d e s) (hc : P.cellsOf e = s) : ∀ (n j : Nat) (D : Nat) (X Y : Array Value) (xs ys : List IV) (b : Bool), eqLeaves (List.replicate n (leaves P d e)).flatten xs ys = some b → CellsAt m X (j * s) xs → CellsAt m Y (j * s) ys →
    ∀ w, (Op.eqItems (D + d) e (P.cellsOf e) X Y (List.range' j n)).run P w = .ok b w
  | 0, j, D, X, Y, xs, ys, b, hb, _, _, w => by
    simp only [List.replicate_zero, List.flatten_nil] at hb
    cases xs <;> cases ys <;> simp [eqLeaves] at hb
    subst hb
    rfl
  | n + 1, j, D, X, Y, xs, ys, b, hb, hX, hY, w => by
    obtain ⟨hl, ⟨q, hu⟩, hs1, he⟩ := H
    simp only [List.replicate_succ, List.flatten_cons] at hb
    obtain ⟨x1, x2, y1, y2, b1, b2, e1, e2, e3, e4, e5⟩ := eqLeaves_append hb
    subst e1; subst e2
    obtain ⟨l1, l2⟩ := eqLeaves_len e3
    obtain ⟨hX1, hX2⟩ := hX.split
    obtain ⟨hY1, hY2⟩ := hY.split
    have r1 := he D X Y (j * s) x1 y1 b1 e3 hX1 hY1 w
    have ej : j * s + s = (j + 1) * s := by rw [Nat.add_mul, Nat.one_mul]
    have r2 := eqItems_plain ⟨hl, ⟨q, hu⟩, hs1, he⟩ hc n (j + 1) D X Y x2 y2 b2 e4 (by rw [l1, hl, ej] at hX2; exact hX2) (by rw [l2, hl, ej] at hY2; exact hY2) w
    have inb : ∀ {X : Array Value} {x1 : List IV}, CellsAt m X (j * s) x1 → x1.length = (leaves P d e).length → aggT P e = false → j * s < X.size := by
      intro X x1 hX1 hl1 ha
      have := hs1 ha
      have h0 : 0 < x1.length := by omega
      obtain ⟨v, hv, _⟩ := hX1 0 x1[0] (List.getElem?_eq_getElem h0)
      have := (Array.getElem?_eq_some_iff.1 hv).1
      omega
    simp only [List.range'_succ, Op.eqItems, Sem.run_bind]
    rw [hc, run_partV hu X (j * s) (inb hX1 l1), Result.andThen_ok, run_partV hu Y (j * s) (inb hY1 l2), Result.andThen_ok, hc, r1, Result.andThen_ok]
    rw [hc] at r2
    cases b1
    · simp [e5]
    · simp only [Bool.not_true, Bool.false_eq_true, if_false]
      rw [r2, e5]; simp

theorem eq_plain : ∀ (d : Nat) (t : TypeId) (s : Nat), plainSize P d t = some s → EqPlain P m d t s := by
  intro d
  induction d with
  | zero => intro t s h; simp [plainSize] at h
  | succ d ih =>
    intro t s h
    unfold plainSize at h
    have leafCase : ∀ (l : Leaf) (q : TypeDesc), P.underlying t = some q → leaves P (d + 1) t = [l] → aggT P t = false → s = 1 →
        (∀ (D : Nat) (x y : IV) (b : Bool) (vx vy : Value), eqLeaf l x y = some b → VRel m x vx → VRel m y vy → ∀ w, (Op.equalIn (D + (d + 1)) t vx vy).run P w = .ok b w) → EqPlain P m (d + 1) t s := by
      intro l q hu hl ha hs H
      refine ⟨by rw [hl, hs]; rfl, ⟨q, hu⟩, fun _ => hs, fun D X Y off xs ys b hb hX hY w => ?_⟩
      rw [hl] at hb
      obtain ⟨l1, l2⟩ := eqLeaves_len hb
      match xs, ys, l1, l2 with
      | [x], [y], _, _ =>
        simp only [eqLeaves] at hb
        split at hb
        · rename_i a1 a2 h1 h2
          injection hb with hb
          injection h2 with h2
          obtain ⟨vx, hvx, rx⟩ := hX 0 x rfl
          obtain ⟨vy, hvy, ry⟩ := hY 0 y rfl
          simp only [Nat.add_zero] at hvx hvy
          simp only [partV, ha, Bool.false_eq_true, if_false]
          rw [getD_of hvx, getD_of hvy, H D x y a1 vx vy h1 rx ry w]
          rw [← hb, ← h2]; simp
        · cases hb
    split at h
    · rename_i k hu
      injection h with h
      refine leafCase (.int k) _ hu (by simp [leaves, hu]) (by simp [aggT, hu]) h.symm fun D x y b vx vy hb rx ry w => ?_
      unfold eqLeaf at hb
      split at hb
      · rename_i hq; cases hq
      · rename_i hq
        injection hq with hq; subst hq
        split at hb
        · rename_i hk
          obtain ⟨rfl, rfl⟩ := hk
          injection hb with hb
          cases rx; cases ry
          rw [← hb]
          exact run_equalIn_int w (D + d) t _ _ _ _ hu
        · cases hb
      · rename_i hq; cases hq
      · rename_i hq; cases hq
      · cases hb
    · rename_i k hu
      injection h with h
      refine leafCase (.float k) _ hu (by simp [leaves, hu]) (by simp [aggT, hu]) h.symm fun D x y b vx vy hb rx ry w => ?_
      unfold eqLeaf at hb
      split at hb
      · rename_i hq; cases hq
      · rename_i hq; cases hq
      · rename_i hq
        injection hq with hq; subst hq
        split at hb
        · rename_i hk
          obtain ⟨rfl, rfl⟩ := hk
          injection hb with hb
          cases rx; cases ry
          rw [← hb]
          show (Op.equalIn (D + d + 1) t _ _).run P w = _
          simp [Op.equalIn, run_und hu, Op.floatEq, feq]
        · cases hb
      · rename_i hq; cases hq
      · cases hb
    · rename_i hu
      injection h with h
      refine leafCase .bool _ hu (by simp [leaves, hu]) (by simp [aggT, hu]) h.symm fun D x y b vx vy hb rx ry w => ?_
      unfold eqLeaf at hb
      split at hb
      · injection hb with hb
        cases rx; cases ry
        rw [← hb]
        show (Op.equalIn (D + d + 1) t _ _).run P w = _
        simp [Op.equalIn, run_und hu]
      · rename_i hq; cases hq
      · rename_i hq; cases hq
      · rename_i hq; cases hq
      · cases hb
    · rename_i hu
      injection h with h
      refine leafCase .str _ hu (by simp [leaves, hu]) (by simp [aggT, hu]) h.symm fun D x y b vx vy hb rx ry w => ?_
      unfold eqLeaf at hb
      split at hb
      · rename_i hq; cases hq
      · rename_i hq; cases hq
      · rename_i hq; cases hq
      · rename_i a b' hq
        injection hb with hb
        cases rx; cases ry
        rw [← hb]
        have := run_equalIn_string w (D + d) t ⟨⟨a⟩⟩ ⟨⟨b'⟩⟩ hu
        rw [ByteArray.toList_eq, ByteArray.toList_eq] at this
        exact this
      · cases hb
    · rename_i fs hu
      split at h
      · cases h
      · rename_i hst
        obtain ⟨hlen, hf⟩ := eqFields_plain ih fs.toList 0 s h
        have hl : leaves P (d + 1) t = fs.toList.flatMap fun f => leaves P d f.type := by simp [leaves, hu]
        have ha : aggT P t = true := by simp [aggT, hu]
        refine ⟨by rw [hl]; simpa using hlen, ⟨_, hu⟩, (fun h => by rw [ha] at h; cases h), fun D X Y off xs ys b hb hX hY w => ?_⟩
        have hff : P.fieldsOf t = fs := by simp [Program.fieldsOf, hu]
        obtain ⟨l1, l2⟩ := eqLeaves_len hb
        rw [hl] at hb l1 l2
        simp only [partV, ha, if_true]
        rw [show D + (d + 1) = (D + d) + 1 by omega, run_equalIn_struct w (D + d) t _ _ (by rw [hff]; exact hu) (by simpa using hst), hff]
        exact hf D _ _ xs ys b hb (hX.extract (by omega)) (hY.extract (by omega)) w
    · rename_i n e hu
      split at h
      · rename_i se hse
        split at h
        · rename_i hc
          injection h with h
          have H := ih e se hse
          obtain ⟨i, hi, _⟩ := und_info H.2.1.choose_spec
          have hl : leaves P (d + 1) t = (List.replicate n (leaves P d e)).flatten := by simp [leaves, hu]
          have ha : aggT P t = true := by simp [aggT, hu]
          have hlen : (List.replicate n (leaves P d e)).flatten.length = n * se := by simp [H.1]
          refine ⟨by rw [hl, hlen, h], ⟨_, hu⟩, (fun h => by rw [ha] at h; cases h), fun D X Y off xs ys b hb hX hY w => ?_⟩
          obtain ⟨l1, l2⟩ := eqLeaves_len hb
          rw [hl] at hb l1 l2
          simp only [partV, ha, if_true]
          rw [show D + (d + 1) = (D + d) + 1 by omega, run_equalIn_array w (D + d) _ _ hu hi, List.range_eq_range']
          exact eqItems_plain H hc n 0 D _ _ xs ys b hb (by rw [Nat.zero_mul]; exact hX.extract (by omega)) (by rw [Nat.zero_mul]; exact hY.extract (by omega)) w
        · cases h
      · cases h
    · cases h

/-- A whole struct or array. -/
theorem run_equal_plain {t : TypeId} (ha : aggT P t = true) (hp : (plainSize P 20 t).isSome = true) {xs ys : List IV} {X Y : Array Value} {b : Bool} (hb : eqLeaves (leaves P 20 t) xs ys = some b)
    (hX : VRel m (.agg xs) (.agg X)) (hY : VRel m (.agg ys) (.agg Y)) : (Op.equal t (.agg X) (.agg Y)).run P w = .ok b w := by
  obtain ⟨s, hs⟩ := Option.isSome_iff_exists.1 hp
  obtain ⟨hl, _, _, he⟩ := eq_plain (m := m) 20 t s hs
  obtain ⟨l1, l2⟩ := eqLeaves_len hb
  cases hX with
  | agg _ _ hsx hx =>
    cases hY with
    | agg _ _ hsy hy =>
      have h := he 9980 X Y 0 xs ys b hb (fun i iv hi => by rw [Nat.zero_add]; exact ARel.get ⟨hsx, hx⟩ hi) (fun i iv hi => by rw [Nat.zero_add]; exact ARel.get ⟨hsy, hy⟩ hi) w
      simp only [partV, ha, if_true, Nat.zero_add] at h
      rw [show X.extract 0 s = X by rw [← hl, ← l1, hsx]; exact Array.extract_size, show Y.extract 0 s = Y by rw [← hl, ← l2, hsy]; exact Array.extract_size] at h
      exact h
end
end Go.LI
