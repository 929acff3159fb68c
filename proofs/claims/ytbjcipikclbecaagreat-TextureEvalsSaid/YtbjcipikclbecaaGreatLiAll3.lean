/- The interpreter LI and its soundness (part 3 of 3). -/
import Derived.Test.YtbjcipikclbecaaGreatLiAll2
import Derived.SizedLaws
import Derived.OpenShut
import Derived.DataElems
set_option linter.unusedVariables false
namespace Go.LI
open Go Go.RowKit Go.ChangeShapes Go.WideShapes Go.ChangeAt
inductive Lk where
  | int (k : IntKind) | f64 | bool | str
  deriving DecidableEq
def Lk.ok : Lk → IV → Prop
  | .int k, iv => ∃ n, iv = .int k n ∧ k.min ≤ n ∧ n ≤ k.max
  | .f64, iv => ∃ b, iv = .float .f64 b ∧ b < 2 ^ 64
  | .bool, iv => ∃ b, iv = .bool b
  | .str, iv => ∃ s, iv = .str s ∧ s.length ≤ 140737488355328
def zDd (ls : List Lk) (cs : List Value) : Prop :=
  cs.length = ls.length ∧ ∀ (i : Nat) (l : Lk) (v : Value), ls[i]? = some l → cs[i]? = some v → ∃ iv, l.ok iv ∧ VRel zFf iv v ∧ v.oneCell' = true
theorem zDd.one {l : Lk} {v : Value} {iv : IV} (h1 : l.ok iv) (h2 : VRel zFf iv v) (h3 : v.oneCell' = true) : zDd [l] [v] := by
  refine ⟨rfl, fun i l' v' a b => ?_⟩
  cases i with
  | zero => simp at a b; subst a; subst b; exact ⟨iv, h1, h2, h3⟩
  | succ i => simp at a
section
variable {H : Type} {enc : TypeId × Value → H} {P : Program} {w : World} {base : Nat} {sp : Nat → Bool} {held : Bool}
theorem zit {e : TypeId} {d : DataW H} {n : Nat} : ∀ {ds : List (DataW H)}, d ∈ ds → n ∈ d.weights P e → n ∈ DataW.weightsAll P e ds
  | [], h, _ => by simp at h
  | x :: ds, h, hn => by
    simp only [DataW.weightsAll, List.mem_append]
    rcases List.mem_cons.1 h with rfl | h
    · exact .inl hn
    · exact .inr (zit h hn)
structure SlArg (W : World) (ls : List Lk) (v : Value) (n : Nat) (cells : List IV) (a : Addr) (cap : Nat) (c : Array Value) (t : TypeId) (fr : Nat × Nat) : Prop where
  v : v = .slice (some a) n cap
  spot : a.spot = none
  cap : n ≤ cap
  row : W.heap[a.block]? = some (.cells c t fr)
  len : cells.length = n * ls.length
  fit : 0 < n → a.off + n * ls.length ≤ c.size
  at' : ∀ (i : Nat) (iv : IV), cells[i]? = some iv → ∃ x, c[a.off + i]? = some x ∧ VRel zFf iv x ∧ x.oneCell' = true
  ok : ∀ (i : Nat) (iv : IV), cells[i]? = some iv → ∃ l, ls[i % ls.length]? = some l ∧ l.ok iv
  bytes : n ≤ 140737488355328
theorem zjN {α : Type} (Q : Nat → α → Prop) : ∀ n : Nat, (∀ i, i < n → ∃ a, Q i a) → ∃ l : List α, l.length = n ∧ ∀ i a, l[i]? = some a → Q i a
  | 0, _ => ⟨[], rfl, fun i a h => by simp at h⟩
  | n + 1, h => by
    obtain ⟨l, h1, h2⟩ := zjN Q n fun i hi => h i (by omega)
    obtain ⟨a, ha⟩ := h n (by omega)
    refine ⟨l ++ [a], by simp [h1], fun i b hb => ?_⟩
    by_cases hi : i < n
    · rw [List.getElem?_append_left (by omega)] at hb; exact h2 i b hb
    · rw [List.getElem?_append_right (by omega)] at hb
      have : i - l.length = 0 := by
        have := (List.getElem?_eq_some_iff.1 hb).1
        simp at this; omega
      rw [this] at hb
      simp at hb; subst hb
      rw [show i = n by omega]; exact ha
structure Args (P : Program) (W : World) (m : Map) (G0 : GH) (ivs : List IV) (vs : List Value) : Prop where
  nof : ∀ i, m.f i = none
  arel : zv4 m ivs vs
  hrel : HRel P (fun b => b < W.heap.size) (fun b => b < W.heap.size) W m [] G0 W
  nol : zab ivs = true
  ro : ∀ (i : Nat) (k : Blk), G0[i]? = some k → k.mode = 0
theorem Args.nil (W : World) : Args P W zFf [] [] [] :=
  ⟨fun _ => rfl, ⟨rfl, fun i iv v h => by simp at h⟩, HRel.empty W, rfl, fun i k h => by simp at h⟩
theorem Args.snoc {W : World} {m : Map} {G0 : GH} {ivs : List IV} {vs : List Value} (h : Args P W m G0 ivs vs) {iv : IV} {v : Value} (hv : VRel m iv v) (hn : zeN iv = true) : Args P W m G0 (ivs ++ [iv]) (vs ++ [v]) := by
  refine ⟨h.nof, ⟨by simp [h.arel.1], fun i x y a b => ?_⟩, h.hrel, noLocs_append h.nol (by simp [zab, hn]), h.ro⟩
  by_cases hi : i < ivs.length
  · rw [List.getElem?_append_left hi] at a
    rw [List.getElem?_append_left (by rw [← h.arel.1]; exact hi)] at b
    exact h.arel.2 i x y a b
  · rw [List.getElem?_append_right (by omega)] at a
    rw [List.getElem?_append_right (by rw [← h.arel.1]; omega), ← h.arel.1] at b
    have hz : i - ivs.length = 0 := by
      have := (List.getElem?_eq_some_iff.1 a).1
      simp at this; omega
    rw [hz] at a b
    simp at a b
    subst a; subst b; exact hv
theorem Args.block {W : World} {m : Map} {G0 : GH} {ivs : List IV} {vs : List Value} (h : Args P W m G0 ivs vs) {b off : Nat} {c : Array Value} {t : TypeId} {fr : Nat × Nat} (row : W.heap[b]? = some (.cells c t fr))
    (cells : List IV) (elem : Nat) (fit : off + cells.length ≤ c.size) (hc : ∀ (i : Nat) (iv : IV), cells[i]? = some iv → ∃ x, c[off + i]? = some x ∧ VRel zFf iv x ∧ x.oneCell' = true) :
    Args P W (m.addG G0.length ⟨b, off, cells.length, 0, false⟩) (G0 ++ [⟨cells, elem, 0⟩]) ivs vs := by
  have hnone : m.g G0.length = none := h.hrel.g_none (Nat.le_refl _)
  have hle : m.le (m.addG G0.length ⟨b, off, cells.length, 0, false⟩) := Map.le_addG hnone
  have hn0 : zFf.le (m.addG G0.length ⟨b, off, cells.length, 0, false⟩).noF := ⟨fun _ _ x => (by cases x), fun _ _ x => (by cases x)⟩
  have hro : ∀ (i : Nat) (k : Blk), (G0 ++ [⟨cells, elem, 0⟩])[i]? = some k → k.mode = 0 := by
    intro i k hk
    by_cases hi : i < G0.length
    · rw [List.getElem?_append_left hi] at hk; exact h.ro i k hk
    · rw [List.getElem?_append_right (by omega)] at hk
      have hz : i - G0.length = 0 := by
        have := (List.getElem?_eq_some_iff.1 hk).1
        simp at this; omega
      rw [hz] at hk; simp at hk; subst hk; rfl
  refine ⟨h.nof, zv4.mono hle h.arel, ?_, h.nol, hro⟩
  have R := h.hrel
  exact {
    bk := R.bk, frame := R.frame, os := R.os, tape := R.tape, output := R.output, size := R.size,
    gdom := fun i e he => by
      simp only [Map.addG] at he
      split at he
      · rename_i hi; subst hi; simp
      · have := R.gdom i e he; simp; omega
    fdom := fun k x hx => by have := h.nof k; rw [show (m.addG G0.length ⟨b, off, cells.length, 0, false⟩).f k = m.f k from rfl, this] at hx; cases hx
    gblk := fun i k e hk hm he => by
      by_cases hi : i < G0.length
      · rw [List.getElem?_append_left hi] at hk
        simp only [Map.addG] at he
        rw [if_neg (by omega)] at he
        obtain ⟨c', t', fr', g⟩ := R.gblk i k e hk hm he
        exact ⟨c', t', fr', ⟨g.row, g.fits, fun j iv hj => by
          obtain ⟨v, q1, q2, q3⟩ := g.cells j iv hj
          exact ⟨v, q1, q2.mono (Map.noF_mono hle), q3⟩, g.ro, g.esz, g.rw⟩⟩
      · have hil : i < (G0 ++ [(⟨cells, elem, 0⟩ : Blk)]).length := (List.getElem?_eq_some_iff.1 hk).1
        have hi2 : i = G0.length := by simp at hil; omega
        subst hi2
        simp at hk
        subst hk
        rw [Map.addG_self] at he
        injection he with he; subst he
        refine ⟨c, t, fr, ⟨row, fit, fun j iv hj => ?_, fun _ => ?_, fun hf => (by cases hf), fun hf => (by cases hf)⟩⟩
        · obtain ⟨x, q1, q2, q3⟩ := hc j iv hj
          exact ⟨x, q1, q2.mono hn0, q3⟩
        · exact (Array.getElem?_eq_some_iff.1 row).1
    fblk := fun i cs x hx => by simp at hx
    ginj := fun b1 b2 k1 k2 e1 e2 h1 h2 m1 => by have := hro b1 k1 h1; omega
    gf := fun i x k e r hk hm => by have := hro i k hk; omega
    finj := fun i j r s hr => by have := h.nof i; rw [show (m.addG G0.length ⟨b, off, cells.length, 0, false⟩).f i = m.f i from rfl, this] at hr; cases hr }
def RSl (G : GH) (e : Nat) (a : Option GA) (n : Nat) (cells : List IV) : Prop :=
  (a = none ∧ n = 0 ∧ cells = []) ∨ ∃ ga, a = some ga ∧ G[ga.b]? = some ⟨cells, e, 0⟩ ∧ (0 < n → ga.o = 0)
theorem Args.slice {W : World} {m : Map} {G0 : GH} {ivs : List IV} {vs : List Value} (h : Args P W m G0 ivs vs) (elem : Nat) {ls : List Lk} {v : Value}
    (hs : v = .slice none 0 0 ∨ ∃ n cells a cap c t' fr, SlArg W ls v n cells a cap c t' fr) :
    ∃ m' a n cells G1, Args P W m' (G0 ++ G1) (ivs ++ [.slice a n]) (vs ++ [v]) ∧ RSl (G0 ++ G1) elem a n cells ∧ cells.length = n * ls.length ∧ n ≤ 140737488355328 ∧
      (∀ (i : Nat) (iv : IV), cells[i]? = some iv → ∃ l, ls[i % ls.length]? = some l ∧ l.ok iv) ∧ (a = none → v = .slice none 0 0) := by
  rcases hs with rfl | ⟨n, cells, a, cap, c, t', fr, s⟩
  · refine ⟨m, none, 0, [], [], ?_, .inl ⟨rfl, rfl, rfl⟩, by simp, by omega, fun i iv hi => by simp at hi, fun _ => rfl⟩
    rw [List.append_nil]
    exact h.snoc .sliceNil rfl
  · have hv := s.v
    subst hv
    obtain ⟨ab, ao, asp⟩ := a
    have hsp := s.spot
    simp only at hsp
    subst hsp
    rcases Nat.eq_zero_or_pos n with h0 | h0
    · subst h0
      have hc0 : cells = [] := List.length_eq_zero_iff.1 (by rw [s.len]; simp)
      subst hc0
      have hb := h.block s.row [] elem (off := 0) (by simp) (fun i iv hi => by simp at hi)
      refine ⟨_, some ⟨G0.length, ao⟩, 0, [], _, hb.snoc (v := .slice (some ⟨ab, ao, none⟩) 0 cap) ?_ rfl, .inr ⟨_, rfl, by simp, fun hx => by omega⟩, by simp, by omega, fun i iv hi => by simp at hi, fun hx => by cases hx⟩
      have := VRel.slice (m := m.addG G0.length ⟨ab, 0, ([] : List IV).length, 0, false⟩) ⟨G0.length, ao⟩ ⟨ab, 0, ([] : List IV).length, 0, false⟩ 0 cap (Map.addG_self _ _ _) (Nat.zero_le _) (fun hx => by cases hx)
      simpa using this
    · have hb := h.block s.row cells elem (off := ao) (by rw [s.len]; exact s.fit h0) s.at'
      refine ⟨_, some ⟨G0.length, 0⟩, n, cells, _, hb.snoc (v := .slice (some ⟨ab, ao, none⟩) n cap) ?_ rfl, .inr ⟨_, rfl, by simp, fun _ => rfl⟩, s.len, s.bytes, s.ok, fun hx => by cases hx⟩
      have := VRel.slice (m := m.addG G0.length ⟨ab, ao, cells.length, 0, false⟩) ⟨G0.length, 0⟩ ⟨ab, ao, cells.length, 0, false⟩ n cap (Map.addG_self _ _ _) s.cap (fun hx => by cases hx)
      simpa using this
theorem callsA_of_run {lib : Lib} (hm : P.follows .mixedOrders = true) (hn : ∀ (f : Nat) (fn : Func), P.funcs[f]? = some fn → (fn.name == "runtime.NumGoroutine") = false) (hL : zzr P lib)
    {lo : Nat → List Nat} {fuel n : Nat} {f : FuncId} {fn : Func} {c : Code} {m : Map} {G0 : GH} {ivs : List IV} {vs : List Value} {W : World} (hf : P.funcs[f]? = some fn) (hc : fn.body = some c) (hA : Args P W m G0 ivs vs) {b : Bool}
    (h : zAH (R := IV) P lib lo fuel n f ivs G0 (fun v _ => some v) = some (.bool b)) :
    Calls P f vs.toArray W fun e w' => e = .returned (.bool b) ∧ Below W.heap.size W w' := by
  obtain ⟨v, G', h1, h2, h3⟩ := zFp hm hn hL lo fuel n f ivs G0 _ _ h hA.nol
  injection h1 with h1
  subst h1
  rcases h3 _ _ W m W vs.toArray hA.nof ⟨by simpa using hA.arel.1, fun i iv x a b => hA.arel.2 i iv x a (by simpa using b)⟩ hA.hrel with ⟨_, hcall⟩ | ⟨v', hv, _⟩
  · refine hcall.mono ?_
    rintro e w' ⟨v', rfl, m', q1, q2, q3, q4⟩
    refine ⟨?_, ⟨q3.os, q3.tape, q3.output, q3.size, fun b hb => (q3.frame b hb).2⟩⟩
    cases q4
    rfl
  · have hn' : ¬ fn.name = "runtime.NumGoroutine" := by simpa using hn f fn hf
    simp [callFunc, hf, hn', hc] at hv
theorem noLib_good : zzr P (fun _ _ => none) := fun f args v h => by cases h
end
end Go.LI
namespace Go.LI
open Go Go.RowKit
theorem RSl.grow {G : GH} {e : Nat} {a : Option GA} {n : Nat} {cs : List IV} (h : RSl G e a n cs) (G2 : GH) : RSl (G ++ G2) e a n cs := by
  rcases h with h | ⟨ga, h1, h2, h3⟩
  · exact .inl h
  · exact .inr ⟨ga, h1, by rw [List.getElem?_append_left (List.getElem?_eq_some_iff.1 h2).1]; exact h2, h3⟩
theorem wt_of {H : Type} {P : Program} {ts : List TypeId} {ds : List (DataW H)} (h : (DataW.weightsEach P ts ds).all (· ≤ reachBytes) = true) {j : Nat} {t : TypeId} {d : DataW H} (ht : ts[j]? = some t) (hd : ds[j]? = some d) : ∀ n ∈ d.weights P t, n ≤ reachBytes := by
  intro n hn
  have := List.all_eq_true.1 h n (DataW.weights_mem_each ht hd n hn)
  simpa using this
end Go.LI
