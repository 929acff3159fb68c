/- Arguments of any plain type, slices of slices too: they stand in blocks that are read alone. -/
import Derived.Test.YtbjcipikclbecaaLiAll3
namespace Go.LI
open Go Go.RowKit Go.ChangeShapes Go.WideShapes Go.ChangeAt
set_option linter.unusedVariables false

def argF (P : Program) (g : TypeId → Option Nat) : List Field → Nat → Option Nat
  | [], o => some o
  | f :: fs, o => match g f.type with
    | some c => if f.offset = o ∧ P.cellsOf f.type = c then argF P g fs (o + c) else none
    | none => none
/-- How many cells a type has that is built of plain ones, structs, arrays and slices. -/
def argN (P : Program) : Nat → TypeId → Option Nat
  | 0, _ => none
  | d + 1, t => match P.underlying t with
    | some (.int _) => if P.cellsOf t = 1 then some 1 else none
    | some (.float .f64) => if P.cellsOf t = 1 then some 1 else none
    | some .bool => if P.cellsOf t = 1 then some 1 else none
    | some .string => if P.cellsOf t = 1 then some 1 else none
    | some (.slice e) => match argN P d e with
      | some c => if 0 < c ∧ P.cellsOf e = c ∧ 0 < P.bytesOf e ∧ P.cellsOf t = 1 then some 1 else none
      | none => none
    | some (.struct fs) => match argF P (argN P d) fs.toList 0 with
      | some c => if P.cellsOf t = c then some c else none
      | none => none
    | some (.array n e) => match argN P d e with
      | some c => if P.cellsOf e = c ∧ P.cellsOf t = n * c then some (n * c) else none
      | none => none
    | _ => none

/-- What the cells are. -/
def Opn (P : Program) (G : GH) : Nat → TypeId → List IV → Prop
  | 0, _, _ => False
  | d + 1, t, cs => match P.underlying t with
    | some (.int k) => ∃ n, cs = [.int k n] ∧ k.min ≤ n ∧ n ≤ k.max
    | some (.float .f64) => ∃ b, cs = [.float .f64 b] ∧ b < 2 ^ 64
    | some .bool => ∃ b, cs = [.bool b]
    | some .string => ∃ s : List UInt8, cs = [.str s] ∧ s.length ≤ 140737488355328
    | some (.slice e) => cs = [.slice none 0] ∨ ∃ (b n : Nat) (cells : List IV), cs = [.slice (some ⟨b, 0⟩) n] ∧ G[b]? = some ⟨cells, e, 0⟩ ∧ cells.length = n * P.cellsOf e ∧ n ≤ 140737488355328 ∧
        ∀ i, i < n → Opn P G d e ((cells.drop (i * P.cellsOf e)).take (P.cellsOf e))
    | some (.struct fs) => cs.length = P.cellsOf t ∧ ∀ f ∈ fs.toList, Opn P G d f.type ((cs.drop f.offset).take (P.cellsOf f.type))
    | some (.array n e) => cs.length = P.cellsOf t ∧ ∀ i, i < n → Opn P G d e ((cs.drop (i * P.cellsOf e)).take (P.cellsOf e))
    | _ => False

theorem Opn.grow {P : Program} {G : GH} (G2 : GH) : ∀ (d : Nat) (t : TypeId) (cs : List IV), Opn P G d t cs → Opn P (G ++ G2) d t cs
  | 0, _, _, h => h.elim
  | d + 1, t, cs, h => by
    simp only [Opn] at h ⊢
    split at h
    · exact h
    · exact h
    · exact h
    · exact h
    · rcases h with h | ⟨b, n, cells, h1, h2, h3, h4, h5⟩
      · exact .inl h
      · exact .inr ⟨b, n, cells, h1, by rw [List.getElem?_append_left (List.getElem?_eq_some_iff.1 h2).1]; exact h2, h3, h4, fun i hi => Opn.grow G2 d _ _ (h5 i hi)⟩
    · exact ⟨h.1, fun f hf => Opn.grow G2 d _ _ (h.2 f hf)⟩
    · exact ⟨h.1, fun i hi => Opn.grow G2 d _ _ (h.2 i hi)⟩
    · exact h.elim

section
variable {H : Type} {enc : TypeId × Value → H} {P : Program} {W : World}

theorem Args.le_noF {m m' : Map} (h : ∀ i, m.f i = none) (hle : m.le m') : m.le m'.noF := ⟨hle.1, fun k b x => by rw [h k] at x; cases x⟩

/-- A block without a place in the machine's heap. -/
theorem Args.pad {m : Map} {G0 : GH} {ivs : List IV} {vs : List Value} (h : Args P W m G0 ivs vs) (elem : Nat) : Args P W m (G0 ++ [⟨[], elem, 0⟩]) ivs vs := by
  have hlt : ∀ {b e}, m.g b = some e → b < G0.length := fun x => h.hrel.gdom _ _ x
  have hold : ∀ {b : Nat} {k : Blk} {e : Ent}, (G0 ++ [(⟨[], elem, 0⟩ : Blk)])[b]? = some k → m.g b = some e → G0[b]? = some k := by
    intro b k e hk he
    rw [List.getElem?_append_left (hlt he)] at hk; exact hk
  have R := h.hrel
  refine ⟨h.nof, h.arel, ?_, h.nol, fun i k hk => ?_⟩
  · exact {
      bk := R.bk, frame := R.frame, os := R.os, tape := R.tape, output := R.output, size := R.size,
      gdom := fun i e he => by have := R.gdom i e he; simp; omega
      fdom := R.fdom
      gblk := fun i k e hk hm he => R.gblk i k e (hold hk he) hm he
      fblk := R.fblk
      ginj := fun b1 b2 k1 k2 e1 e2 h1 h2 m1 m2 q1 q2 hne => R.ginj b1 b2 k1 k2 e1 e2 (hold h1 q1) (hold h2 q2) m1 m2 q1 q2 hne
      gf := fun i x k e r hk hm he hf => R.gf i x k e r (hold hk he) hm he hf
      finj := R.finj }
  · by_cases hi : i < G0.length
    · rw [List.getElem?_append_left hi] at hk; exact h.ro i k hk
    · rw [List.getElem?_append_right (by omega)] at hk
      have hz : i - G0.length = 0 := by
        have := (List.getElem?_eq_some_iff.1 hk).1
        simp at this; omega
      rw [hz] at hk; simp at hk; subst hk; rfl

/-- A block whose cells may be slices. -/
theorem Args.blockN {m : Map} {G0 : GH} {ivs : List IV} {vs : List Value} (h : Args P W m G0 ivs vs) {b off : Nat} {c : Array Value} {t : TypeId} {fr : Nat × Nat} (row : W.heap[b]? = some (.cells c t fr))
    (cells : List IV) (elem : Nat) (fit : off + cells.length ≤ c.size) (hc : ∀ (i : Nat) (iv : IV), cells[i]? = some iv → ∃ x, c[off + i]? = some x ∧ VRel m iv x ∧ x.oneCell' = true) :
    Args P W (m.addG G0.length ⟨b, off, cells.length, 0, false⟩) (G0 ++ [⟨cells, elem, 0⟩]) ivs vs := by
  have hnone : m.g G0.length = none := h.hrel.g_none (Nat.le_refl _)
  have hle : m.le (m.addG G0.length ⟨b, off, cells.length, 0, false⟩) := Map.le_addG hnone
  have hn0 : m.le (m.addG G0.length ⟨b, off, cells.length, 0, false⟩).noF := Args.le_noF h.nof hle
  have hro : ∀ (i : Nat) (k : Blk), (G0 ++ [⟨cells, elem, 0⟩])[i]? = some k → k.mode = 0 := by
    intro i k hk
    by_cases hi : i < G0.length
    · rw [List.getElem?_append_left hi] at hk; exact h.ro i k hk
    · rw [List.getElem?_append_right (by omega)] at hk
      have hz : i - G0.length = 0 := by
        have := (List.getElem?_eq_some_iff.1 hk).1
        simp at this; omega
      rw [hz] at hk; simp at hk; subst hk; rfl
  refine ⟨h.nof, LRel.mono hle h.arel, ?_, h.nol, hro⟩
  have R := h.hrel
  exact {
    bk := R.bk, frame := R.frame, os := R.os, tape := R.tape, output := R.output, size := R.size,
    gdom := fun i e he => by
      simp only [Map.addG] at he
      split at he
      · rename_i hi; subst hi; simp
      · have := R.gdom i e he; simp; omega
    fdom := fun k x hx => by have := h.nof k; rw [show (m.addG G0.length ⟨b, off, cells.length, 0, false⟩).f k = m.f k from rfl, this] at hx; cases hx
    gblk := fun i k e hk hm he => by
      by_cases hi : i < G0.length
      · rw [List.getElem?_append_left hi] at hk
        simp only [Map.addG] at he
        rw [if_neg (by omega)] at he
        obtain ⟨c', t', fr', g⟩ := R.gblk i k e hk hm he
        exact ⟨c', t', fr', ⟨g.row, g.fits, fun j iv hj => by
          obtain ⟨v, q1, q2, q3⟩ := g.cells j iv hj
          exact ⟨v, q1, q2.mono (Map.noF_mono hle), q3⟩, g.ro, g.esz, g.rw⟩⟩
      · have hil : i < (G0 ++ [(⟨cells, elem, 0⟩ : Blk)]).length := (List.getElem?_eq_some_iff.1 hk).1
        have hi2 : i = G0.length := by simp at hil; omega
        subst hi2
        simp at hk
        subst hk
        rw [Map.addG_self] at he
        injection he with he; subst he
        refine ⟨c, t, fr, ⟨row, fit, fun j iv hj => ?_, fun _ => ?_, fun hf => (by cases hf), fun hf => (by cases hf)⟩⟩
        · obtain ⟨x, q1, q2, q3⟩ := hc j iv hj
          exact ⟨x, q1, q2.mono hn0, q3⟩
        · exact (Array.getElem?_eq_some_iff.1 row).1
    fblk := fun i cs x hx => by simp at hx
    ginj := fun b1 b2 k1 k2 e1 e2 h1 h2 m1 => by have := hro b1 k1 h1; omega
    gf := fun i x k e r hk hm => by have := hro i k hk; omega
    finj := fun i j r s hr => by have := h.nof i; rw [show (m.addG G0.length ⟨b, off, cells.length, 0, false⟩).f i = m.f i from rfl, this] at hr; cases hr }

/-- Values that the interpreter can have: in any heap of arguments. -/
def Opens (P : Program) (W : World) (Q : GH → List IV → Prop) (cs : List Value) : Prop :=
  ∀ (m : Map) (G0 : GH) (ivs : List IV) (vs : List Value), Args P W m G0 ivs vs → ∃ (m' : Map) (G1 : GH) (ivc : List IV), Args P W m' (G0 ++ G1) ivs vs ∧ m.le m' ∧ LRel m' ivc cs ∧ (∀ v ∈ cs, v.oneCell' = true) ∧ noLocs ivc = true ∧ Q (G0 ++ G1) ivc

theorem Opens.one {Q : GH → List IV → Prop} {v : Value} {iv : IV} (h : ∀ m, VRel m iv v) (h1 : v.oneCell' = true) (h2 : noLoc iv = true) (h3 : ∀ G, Q G [iv]) : Opens P W Q [v] := by
  intro m G0 ivs vs hA
  refine ⟨m, [], [iv], by rw [List.append_nil]; exact hA, m.le_refl, ⟨rfl, fun i x y a b => ?_⟩, by simpa using h1, by simp [noLocs, h2], h3 _⟩
  cases i with
  | zero => simp at a b; subst a; subst b; exact h m
  | succ i => simp at a

def Pieces (G : GH) : List (List Value × (GH → List IV → Prop)) → List IV → Prop
  | [], l => l = []
  | p :: ps, l => p.2 G (l.take p.1.length) ∧ p.1.length ≤ l.length ∧ Pieces G ps (l.drop p.1.length)

theorem LRel.append {m : Map} {a b : List IV} {x y : List Value} (h : LRel m a x) (k : LRel m b y) : LRel m (a ++ b) (x ++ y) := by
  refine ⟨by simp [h.1, k.1], fun i iv v q r => ?_⟩
  by_cases hi : i < a.length
  · rw [List.getElem?_append_left hi] at q
    rw [List.getElem?_append_left (by rw [← h.1]; exact hi)] at r
    exact h.2 i iv v q r
  · rw [List.getElem?_append_right (by omega)] at q
    rw [List.getElem?_append_right (by rw [← h.1]; omega), ← h.1] at r
    exact k.2 _ iv v q r

theorem Opens.seq : ∀ (ps : List (List Value × (GH → List IV → Prop))), (∀ p ∈ ps, Opens P W p.2 p.1 ∧ ∀ G G2 l, p.2 G l → p.2 (G ++ G2) l) → Opens P W (fun G l => Pieces G ps l) (ps.map (·.1)).flatten
  | [], _ => by
    intro m G0 ivs vs hA
    exact ⟨m, [], [], by rw [List.append_nil]; exact hA, m.le_refl, ⟨rfl, fun i x y a b => by simp at a⟩, by simp, rfl, rfl⟩
  | p :: ps, h => by
    intro m G0 ivs vs hA
    obtain ⟨m1, G1, l1, A1, k1, r1, o1, n1, q1⟩ := (h p (by simp)).1 _ _ _ _ hA
    obtain ⟨m2, G2, l2, A2, k2, r2, o2, n2, q2⟩ := Opens.seq ps (fun p' hp => h p' (by simp [hp])) _ _ _ _ A1
    refine ⟨m2, G1 ++ G2, l1 ++ l2, by rw [← List.append_assoc]; exact A2, Map.le_trans k1 k2, ?_, ?_, noLocs_append n1 n2, ?_⟩
    · rw [List.map_cons, List.flatten_cons]
      exact LRel.append (LRel.mono k2 r1) r2
    · intro v hv
      rw [List.map_cons, List.flatten_cons] at hv
      rcases List.mem_append.1 hv with hv | hv
      · exact o1 v hv
      · exact o2 v hv
    · have e : p.1.length = l1.length := r1.1.symm
      refine ⟨?_, by rw [e, List.length_append]; omega, ?_⟩
      · rw [e, List.take_left', ← List.append_assoc]
        exact (h p (by simp)).2 _ _ _ q1
        rfl
      · rw [e, List.drop_left', ← List.append_assoc]
        exact q2
        rfl

theorem Pieces.even {G : GH} {c : Nat} {Q : GH → List IV → Prop} : ∀ (ps : List (List Value × (GH → List IV → Prop))) (l : List IV), (∀ p ∈ ps, p.1.length = c ∧ p.2 = Q) → Pieces G ps l → l.length = ps.length * c ∧ ∀ i, i < ps.length → Q G ((l.drop (i * c)).take c)
  | [], l, _, h => by
    have h : l = [] := h
    subst h
    exact ⟨by simp, fun i hi => by simp at hi⟩
  | p :: ps, l, hp, h => by
    obtain ⟨h1, h2, h3⟩ := h
    obtain ⟨e1, e2⟩ := hp p (by simp)
    rw [e1] at h1 h2 h3
    rw [e2] at h1
    obtain ⟨g1, g2⟩ := Pieces.even ps _ (fun p' hp' => hp p' (by simp [hp'])) h3
    rw [List.length_drop] at g1
    refine ⟨by rw [List.length_cons, Nat.add_mul, Nat.one_mul]; omega, fun i hi => ?_⟩
    cases i with
    | zero => simpa using h1
    | succ i =>
      have := g2 i (by simpa using hi)
      rw [List.drop_drop] at this
      rw [show (i + 1) * c = c + i * c by rw [Nat.add_mul, Nat.one_mul]; omega]
      exact this

theorem Pieces.fields {G : GH} {g : TypeId → Option Nat} {cs : List Value} {Q : Field → GH → List IV → Prop} : ∀ (fs : List Field) (o c : Nat) (l : List IV), argF P g fs o = some c → c = cs.length → cs.length = o + l.length →
    Pieces G (fs.map fun f => ((cs.drop f.offset).take (P.cellsOf f.type), Q f)) l → ∀ f ∈ fs, o ≤ f.offset ∧ Q f G ((l.drop (f.offset - o)).take (P.cellsOf f.type))
  | [], _, _, _, _, _, _, _ => by simp
  | f :: fs, o, c, l, ha, hc, hl, h => by
    simp only [argF] at ha
    split at ha
    · rename_i cf hcf
      split at ha
      · rename_i hh
        obtain ⟨ho, hce⟩ := hh
        obtain ⟨h1, h2, h3⟩ := h
        have hlen : ((cs.drop f.offset).take (P.cellsOf f.type)).length ≤ l.length := h2
        have hge : ∀ (fs : List Field) (o c : Nat), argF P g fs o = some c → o ≤ c := by
          intro fs
          induction fs with
          | nil => intro o c h; simp [argF] at h; omega
          | cons f fs ih =>
            intro o c h
            simp only [argF] at h
            split at h
            · split at h
              · have := ih _ _ h; omega
              · cases h
            · cases h
        have hcc := hge fs _ _ ha
        have hfl : ((cs.drop f.offset).take (P.cellsOf f.type)).length = P.cellsOf f.type := by
          rw [List.length_take, List.length_drop]; omega
        simp only at h1 h2 h3
        rw [hfl] at h1 h2 h3
        intro f' hf'
        rcases List.mem_cons.1 hf' with rfl | hf'
        · exact ⟨by omega, by rw [ho, Nat.sub_self, List.drop_zero]; exact h1⟩
        · obtain ⟨q1, q2⟩ := Pieces.fields fs (o + cf) c (l.drop (P.cellsOf f.type)) ha hc (by rw [List.length_drop]; omega) h3 f' hf'
          rw [List.drop_drop, show P.cellsOf f.type + (f'.offset - (o + cf)) = f'.offset - o by omega] at q2
          exact ⟨by omega, q2⟩
      · cases ha
    · cases ha

theorem fields_flat {g : TypeId → Option Nat} {cs : List Value} : ∀ (fs : List Field) (o c : Nat), argF P g fs o = some c → c = cs.length → ((fs.map fun f => (cs.drop f.offset).take (P.cellsOf f.type)).flatten) = cs.drop o
  | [], o, c, ha, hc => by
    simp only [argF, Option.some.injEq] at ha
    rw [List.drop_eq_nil_of_le (by omega)]; rfl
  | f :: fs, o, c, ha, hc => by
    simp only [argF] at ha
    split at ha
    · rename_i cf hcf
      split at ha
      · rename_i hh
        obtain ⟨ho, hce⟩ := hh
        rw [List.map_cons, List.flatten_cons, fields_flat fs _ _ ha hc, ho, hce, ← List.drop_drop, List.take_append_drop]
      · cases ha
    · cases ha

theorem even_flat {α : Type} {c : Nat} : ∀ (n : Nat) (cs : List α), cs.length = n * c → (((List.range n).map fun i => (cs.drop (i * c)).take c).flatten) = cs
  | 0, cs, h => by
    have : cs = [] := List.length_eq_zero_iff.1 (by omega)
    subst this; rfl
  | n + 1, cs, h => by
    rw [Nat.add_mul, Nat.one_mul] at h
    have := even_flat (c := c) n (cs.drop c) (by rw [List.length_drop]; omega)
    rw [List.range_succ_eq_map, List.map_cons, List.flatten_cons, List.map_map]
    rw [show ((fun i => (cs.drop (i * c)).take c) ∘ Nat.succ) = fun i => ((cs.drop c).drop (i * c)).take c from ?_, this]
    · rw [Nat.zero_mul, List.drop_zero, List.take_append_drop]
    · funext i
      simp only [Function.comp, List.drop_drop, Nat.succ_eq_add_one]
      rw [show (i + 1) * c = c + i * c by rw [Nat.add_mul, Nat.one_mul]; omega]

theorem even_get {α : Type} {c : Nat} (hc : 0 < c) {f : Nat → List α} : ∀ (n : Nat), (∀ i, i < n → (f i).length = c) → ∀ (k : Nat) (x : α), (((List.range n).map f).flatten)[k]? = some x → k / c < n ∧ (f (k / c))[k % c]? = some x
  | 0, _, k, x, h => by simp at h
  | n + 1, hf, k, x, h => by
    rw [List.range_succ, List.map_append, List.flatten_append] at h
    have hl : (((List.range n).map f).flatten).length = n * c := by
      clear h
      induction n with
      | zero => simp
      | succ n ih => rw [List.range_succ, List.map_append, List.flatten_append, List.length_append, ih (fun i hi => hf i (by omega))]; simp [hf n (by omega), Nat.add_mul]
    by_cases hk : k < n * c
    · rw [List.getElem?_append_left (by rw [hl]; exact hk)] at h
      obtain ⟨h1, h2⟩ := even_get hc n (fun i hi => hf i (by omega)) k x h
      exact ⟨by omega, h2⟩
    · rw [List.getElem?_append_right (by rw [hl]; omega), hl] at h
      simp only [List.map_cons, List.map_nil, List.flatten_cons, List.flatten_nil, List.append_nil] at h
      have hlt := (List.getElem?_eq_some_iff.1 h).1
      rw [hf n (by omega)] at hlt
      have e1 : k / c = n := by
        rw [show k = (k - n * c) + n * c by omega, Nat.add_mul_div_right _ _ hc, Nat.div_eq_of_lt hlt, Nat.zero_add]
      have e2 : k % c = k - n * c := by
        rw [show k = (k - n * c) + n * c by omega, Nat.add_mul_mod_self_right, Nat.mod_eq_of_lt hlt]; omega
      exact ⟨by omega, by rw [e1, e2]; exact h⟩

theorem trod_f64 {held : Bool} {fuel : Nat} {t : TypeId} {cs : List Value} {x : DataW H × List MemPlace} (ht : P.underlying t = some (.float .f64)) (hx : DataW.trod enc P W 0 (fun _ => true) held fuel t cs = some x) : ∃ b, cs = [.float .f64 b] ∧ b < 2 ^ 64 := by
  cases fuel with
  | zero => simp [DataW.trod] at hx
  | succ m =>
    unfold DataW.trod at hx
    rw [ht] at hx
    split at hx <;> simp_all
    rename_i k' b heq
    obtain ⟨⟨hk, hwf⟩, hx⟩ := hx
    subst heq
    subst hk
    simpa [Lit.wf] using hwf

theorem trod_opens {held : Bool} : ∀ (d fuel : Nat) (t : TypeId) (c : Nat) (cs : List Value) (x : DataW H × List MemPlace), argN P d t = some c → DataW.trod enc P W 0 (fun _ => true) held fuel t cs = some x → (∀ n ∈ x.1.weights P t, n ≤ reachBytes) →
    cs.length = c ∧ Opens P W (fun G l => Opn P G d t l) cs
  | 0, _, _, _, _, _, h, _, _ => by simp [argN] at h
  | d + 1, fuel, t, c, cs, x, h, hx, hw => by
    simp only [argN] at h
    split at h
    · rename_i k ht
      split at h
      · injection h with h; subst h
        obtain ⟨n, rfl, rfl, hwf⟩ := DataW.trod_int ht hx
        simp only [Lit.wf, Bool.and_eq_true, decide_eq_true_eq] at hwf
        exact ⟨rfl, Opens.one (iv := .int k n) (fun m => .int k n) rfl rfl fun G => by simp only [Opn, ht]; exact ⟨n, rfl, hwf.1, hwf.2⟩⟩
      · cases h
    · rename_i ht
      split at h
      · injection h with h; subst h
        obtain ⟨b, rfl, hwf⟩ := trod_f64 ht hx
        exact ⟨rfl, Opens.one (iv := .float .f64 b) (fun m => .float .f64 b) rfl rfl fun G => by simp only [Opn, ht]; exact ⟨b, rfl, hwf⟩⟩
      · cases h
    · rename_i ht
      split at h
      · injection h with h; subst h
        obtain ⟨b, rfl, rfl⟩ := DataW.trod_bool ht hx
        exact ⟨rfl, Opens.one (iv := .bool b) (fun m => .bool b) rfl rfl fun G => by simp only [Opn, ht]; exact ⟨b, rfl⟩⟩
      · cases h
    · rename_i ht
      split at h
      · injection h with h; subst h
        obtain ⟨s, rfl, rfl, hs⟩ := DataW.trod_string ht hx
        have := hw s.data.toList.length (by simp [DataW.weights])
        exact ⟨rfl, Opens.one (iv := .str s.data.toList) (fun m => .str s.data.toList) rfl rfl fun G => by simp only [Opn, ht]; exact ⟨s.data.toList, rfl, Nat.le_trans this (by decide)⟩⟩
      · cases h
    · rename_i e ht
      split at h
      · rename_i ce hce
        split at h
        · rename_i hh
          obtain ⟨hc0, hcc, hby, _⟩ := hh
          injection h with h; subst h
          rcases DataW.trod_slice ht hx with ⟨rfl, rfl⟩ | ⟨a, n, cap, elems, rest, m, rfl, rfl, rfl, _, hl, hm, hlen, hel, hre, _⟩
          · exact ⟨rfl, Opens.one (iv := .slice none 0) (fun m => .sliceNil) rfl rfl fun G => by simp [Opn, ht]⟩
          · refine ⟨rfl, ?_⟩
            obtain ⟨hrl, hre⟩ := hre rfl
            have hbytes : n * P.bytesOf e ≤ reachBytes := by
              have := hw ((elems.map (·.1)).length * P.bytesOf e + (rest.map (·.1)).length * P.bytesOf e) (by simp [DataW.weights, ht, Nat.add_mul])
              simp only [List.length_map] at this
              rw [hlen] at this
              omega
            have hlb : n ≤ 140737488355328 := by
              have h1 : n * 1 ≤ n * P.bytesOf e := Nat.mul_le_mul_left _ hby
              have h2 : reachBytes ≤ 140737488355328 := by decide
              omega
            rcases Nat.eq_zero_or_pos cap with hcap | hcap
            · subst hcap
              have hn : n = 0 := by omega
              subst hn
              intro m' G0 ivs vs hA
              refine ⟨m', _, [.slice (some ⟨G0.length, 0⟩) 0], hA.pad e, m'.le_refl, ⟨rfl, fun i iv v p q => ?_⟩, by simp [Value.oneCell'], by simp [noLocs, noLoc], ?_⟩
              · cases i with
                | zero => simp at p q; subst p; subst q; exact .sliceE _ _
                | succ i => simp at p
              · simp only [Opn, ht]
                exact .inr ⟨G0.length, 0, [], rfl, by simp, by simp, by omega, fun i hi => by omega⟩
            · -- a place that is there
              have cellAt : ∀ j, j < cap → ∃ csj y, W.cells? 0 (a.add (j * P.cellsOf e)) (P.cellsOf e) = some csj ∧ DataW.trod enc P W 0 (fun _ => true) held m e csj = some y ∧ (j < n → ∀ k ∈ y.1.weights P e, k ≤ reachBytes) := by
                intro j hj
                by_cases hjn : j < n
                · have h1 := hel j hjn
                  have hjl : j < elems.length := by omega
                  rw [List.getElem?_eq_getElem hjl, Option.bind_eq_some_iff] at h1
                  obtain ⟨csj, h2, h3⟩ := h1
                  refine ⟨csj, _, h2, h3, fun _ k hk => hw k ?_⟩
                  simp only [DataW.weights, ht, List.mem_cons, List.mem_append]
                  exact .inr (.inl (weightsAll_mem (List.mem_map_of_mem (List.getElem_mem hjl)) hk))
                · have h1 := hre (j - n) (by omega)
                  have hjl : j - n < rest.length := by omega
                  rw [List.getElem?_eq_getElem hjl, Option.bind_eq_some_iff, show n + (j - n) = j by omega] at h1
                  obtain ⟨csj, h2, h3⟩ := h1
                  exact ⟨csj, _, h2, h3, fun h => absurd h hjn⟩
              have hrow : a.spot = none ∧ ∃ c t' fr, W.heap[a.block]? = some (.cells c t' fr) ∧ a.off < c.size := by
                obtain ⟨csj, y, h2, _, _⟩ := cellAt 0 hcap
                obtain ⟨_, h5, h6⟩ := World.cells?_some h2
                have h7 := h6 0 (by omega)
                rw [List.getElem?_eq_getElem (by omega), Nat.zero_mul] at h7
                simp only [Addr.add, if_true] at h7
                refine ⟨World.cell?_spot h7, ?_⟩
                unfold World.cell? at h7
                split at h7
                · rename_i cc tt fr hrow
                  rw [if_neg (by rw [World.cell?_spot (w := W) (a := a) (v := csj[0]) (by unfold World.cell?; rw [hrow]; exact h7)]; simp)] at h7
                  exact ⟨cc, tt, fr, hrow, (Array.getElem?_eq_some_iff.1 h7).1⟩
                · cases h7
              obtain ⟨hspot, cc, t', fr, hrow, hoff⟩ := hrow
              have hcell : ∀ i, W.cell? (a.add i) = cc[a.off + i]? := by
                intro i
                unfold World.cell?
                by_cases hi : i = 0
                · subst hi
                  simp [Addr.add, hrow, hspot]
                · simp [Addr.add, hrow, hi]
              obtain ⟨parts, g1, g2⟩ := choose_list (fun j (csj : List Value) => W.cells? 0 (a.add (j * P.cellsOf e)) (P.cellsOf e) = some csj ∧ Opens P W (fun G l => Opn P G d e l) csj) n fun j hj => by
                obtain ⟨csj, y, h2, h3, h4⟩ := cellAt j (by omega)
                exact ⟨csj, h2, (trod_opens d m e ce csj y hce h3 (h4 hj)).2⟩
              have plen : ∀ (j : Nat) (csj : List Value), parts[j]? = some csj → csj.length = P.cellsOf e := fun j (csj : List Value) hj => (World.cells?_some (g2 j csj hj).1).2.1
              have hpf : ∀ k y, parts.flatten[k]? = some y → cc[a.off + k]? = some y := by
                intro k y hk
                have hp : parts = (List.range n).map fun j => parts.getD j [] := by
                  refine List.ext_getElem? fun j => ?_
                  rw [List.getElem?_map]
                  by_cases hj : j < n
                  · rw [List.getElem?_range hj, Option.map_some, List.getD_eq_getElem?_getD, List.getElem?_eq_getElem (by omega)]; rfl
                  · rw [List.getElem?_eq_none (by omega), List.getElem?_eq_none (by simp; omega)]; rfl
                rw [hp] at hk
                obtain ⟨q1, q2⟩ := even_get (c := P.cellsOf e) (by omega) n (fun j hj => by
                  rw [List.getD_eq_getElem?_getD, List.getElem?_eq_getElem (by omega)]
                  exact plen j _ (List.getElem?_eq_getElem (by omega))) k y hk
                have hj : parts[k / P.cellsOf e]? = some (parts.getD (k / P.cellsOf e) []) := by
                  rw [List.getD_eq_getElem?_getD, List.getElem?_eq_getElem (by omega)]; rfl
                obtain ⟨_, h5, h6⟩ := World.cells?_some (g2 _ _ hj).1
                have := h6 (k % P.cellsOf e) (Nat.mod_lt _ (by omega))
                rw [q2, Addr.add_add, Nat.mul_comm, Nat.div_add_mod, hcell] at this
                exact this
              have hseq := Opens.seq (P := P) (W := W) (parts.map fun csj => (csj, fun G l => Opn P G d e l)) (by
                intro p hp
                obtain ⟨csj, hm, rfl⟩ := List.mem_map.1 hp
                obtain ⟨j, hj⟩ := List.getElem?_of_mem hm
                exact ⟨(g2 j csj hj).2, fun G G2 l h => Opn.grow G2 d e l h⟩)
              rw [List.map_map, show ((fun p : List Value × (GH → List IV → Prop) => p.1) ∘ fun csj : List Value => (csj, fun (G : GH) l => Opn P G d e l)) = id from rfl, List.map_id] at hseq
              intro m' G0 ivs vs hA
              obtain ⟨m1, G1, ivc, A1, k1, r1, o1, n1, q1⟩ := hseq _ _ _ _ hA
              obtain ⟨l1, l2⟩ := Pieces.even (c := P.cellsOf e) (Q := fun G l => Opn P G d e l) _ ivc (by
                intro p hp
                obtain ⟨csj, hm, rfl⟩ := List.mem_map.1 hp
                obtain ⟨j, hj⟩ := List.getElem?_of_mem hm
                exact ⟨plen j csj hj, rfl⟩) q1
              simp only [List.length_map, g1] at l1 l2
              have hcells : ∀ (i : Nat) (iv : IV), ivc[i]? = some iv → ∃ y, cc[a.off + i]? = some y ∧ VRel m1 iv y ∧ y.oneCell' = true := by
                intro i iv hi
                have hil : i < parts.flatten.length := by rw [← r1.1]; exact (List.getElem?_eq_some_iff.1 hi).1
                have hy := List.getElem?_eq_getElem hil
                exact ⟨_, hpf i _ hy, r1.2 i iv _ hi hy, o1 _ (List.getElem_mem hil)⟩
              have fit : a.off + ivc.length ≤ cc.size := by
                rcases Nat.eq_zero_or_pos ivc.length with h0 | h0
                · omega
                · obtain ⟨y, hy, _⟩ := hcells (ivc.length - 1) (ivc[ivc.length - 1]) (List.getElem?_eq_getElem (by omega))
                  have := (Array.getElem?_eq_some_iff.1 hy).1
                  omega
              have A2 := A1.blockN (b := a.block) (off := a.off) hrow ivc e fit hcells
              have hnone : m1.g (G0 ++ G1).length = none := A1.hrel.g_none (Nat.le_refl _)
              refine ⟨_, G1 ++ [⟨ivc, e, 0⟩], [.slice (some ⟨(G0 ++ G1).length, 0⟩) n], by rw [← List.append_assoc]; exact A2, Map.le_trans k1 (Map.le_addG hnone), ⟨rfl, fun i iv v p q => ?_⟩, by simp [Value.oneCell'], by simp [noLocs, noLoc], ?_⟩
              · cases i with
                | zero =>
                  simp only [List.getElem?_cons_zero, Option.some.injEq] at p q
                  subst p; subst q
                  have := VRel.slice (m := m1.addG (G0 ++ G1).length ⟨a.block, a.off, ivc.length, 0, false⟩) ⟨(G0 ++ G1).length, 0⟩ ⟨a.block, a.off, ivc.length, 0, false⟩ n cap (Map.addG_self _ _ _) hl (fun hx => by cases hx)
                  obtain ⟨ab, ao, asp⟩ := a
                  simp only at hspot
                  subst hspot
                  simpa using this
                | succ i => simp at p
              · simp only [Opn, ht]
                refine .inr ⟨(G0 ++ G1).length, n, ivc, rfl, ?_, l1, hlb, fun i hi => ?_⟩
                · rw [← List.append_assoc, List.getElem?_append_right (Nat.le_refl _), Nat.sub_self]; rfl
                · rw [← List.append_assoc]
                  exact Opn.grow _ d e _ (l2 i hi)
        · cases h
      · cases h
    · rename_i fs ht
      split at h
      · rename_i c0 h0
        split at h
        · rename_i hc
          injection h with h; subst h
          obtain ⟨xs, m, rfl, rfl, hl, hxs, hf⟩ := DataW.trod_struct ht hx
          refine ⟨by omega, ?_⟩
          have hps : ∀ f ∈ fs.toList, Opens P W (fun G l => Opn P G d f.type l) ((cs.drop f.offset).take (P.cellsOf f.type)) := by
            intro f hf'
            obtain ⟨j, hj⟩ := List.getElem?_of_mem hf'
            have hj' : fs[j]? = some f := by simpa using hj
            have hjl : j < xs.length := by rw [hxs]; exact (Array.getElem?_eq_some_iff.1 hj').1
            have hg : ∃ cf, argN P d f.type = some cf := by
              have hget : ∀ (fs : List Field) (o c : Nat), argF P (argN P d) fs o = some c → ∀ f ∈ fs, ∃ cf, argN P d f.type = some cf := by
                intro fs
                induction fs with
                | nil => intro o c _ f hf; simp at hf
                | cons f0 fs ih =>
                  intro o c h f hf
                  simp only [argF] at h
                  split at h
                  · rename_i cf hcf
                    split at h
                    · rcases List.mem_cons.1 hf with rfl | hf
                      · exact ⟨cf, hcf⟩
                      · exact ih _ _ h f hf
                    · cases h
                  · cases h
              exact hget _ _ _ h0 f hf'
            obtain ⟨cf, hcf⟩ := hg
            refine (trod_opens d m f.type cf _ xs[j] hcf (by rw [hf j f hj']; exact List.getElem?_eq_getElem hjl) fun n hn => hw n ?_).2
            simp only [DataW.weights, ht]
            refine DataW.weights_mem_each (j := j) (t := f.type) (d := xs[j].1) ?_ ?_ n hn
            · rw [List.getElem?_map, hj]; rfl
            · rw [List.getElem?_map, List.getElem?_eq_getElem hjl]; rfl
          have hseq := Opens.seq (P := P) (W := W) (fs.toList.map fun f => ((cs.drop f.offset).take (P.cellsOf f.type), fun G l => Opn P G d f.type l)) (by
            intro p hp
            obtain ⟨f, hm, rfl⟩ := List.mem_map.1 hp
            exact ⟨hps f hm, fun G G2 l h => Opn.grow G2 d f.type l h⟩)
          rw [List.map_map, show ((fun p : List Value × (GH → List IV → Prop) => p.1) ∘ fun f : Field => ((cs.drop f.offset).take (P.cellsOf f.type), fun (G : GH) l => Opn P G d f.type l)) = fun f : Field => (cs.drop f.offset).take (P.cellsOf f.type) from rfl,
            fields_flat fs.toList 0 _ h0 (by omega), List.drop_zero] at hseq
          intro m' G0 ivs vs hA
          obtain ⟨m1, G1, ivc, A1, k1, r1, o1, n1, q1⟩ := hseq _ _ _ _ hA
          refine ⟨m1, G1, ivc, A1, k1, r1, o1, n1, ?_⟩
          simp only [Opn, ht]
          refine ⟨by rw [r1.1, hl], fun f hf' => ?_⟩
          have := (Pieces.fields (P := P) (g := argN P d) (cs := cs) (Q := fun f G l => Opn P G d f.type l) fs.toList 0 _ ivc h0 (by omega) (by rw [r1.1]; omega) q1 f hf').2
          rw [Nat.sub_zero] at this
          exact this
        · cases h
      · cases h
    · rename_i n e ht
      split at h
      · rename_i ce hce
        split at h
        · rename_i hc
          injection h with h; subst h
          obtain ⟨xs, m, rfl, rfl, hl, hxs, hf⟩ := DataW.trod_array ht hx
          refine ⟨by omega, ?_⟩
          have hseq := Opens.seq (P := P) (W := W) ((List.range n).map fun i => ((cs.drop (i * P.cellsOf e)).take (P.cellsOf e), fun G l => Opn P G d e l)) (by
            intro p hp
            obtain ⟨i, hm, rfl⟩ := List.mem_map.1 hp
            have hi : i < n := by simpa using hm
            have hj : i < xs.length := by omega
            refine ⟨(trod_opens d m e ce _ xs[i] hce (by rw [hf _ hi]; exact List.getElem?_eq_getElem hj) (fun k hk => hw k (by
              simp only [DataW.weights, ht]
              exact weightsAll_mem (List.mem_map_of_mem (List.getElem_mem hj)) hk))).2, fun G G2 l h => Opn.grow G2 d e l h⟩)
          rw [List.map_map, show ((fun p : List Value × (GH → List IV → Prop) => p.1) ∘ fun i : Nat => ((cs.drop (i * P.cellsOf e)).take (P.cellsOf e), fun (G : GH) l => Opn P G d e l)) = fun i : Nat => (cs.drop (i * P.cellsOf e)).take (P.cellsOf e) from rfl,
            even_flat n cs (by rw [hl, hc.2, hc.1])] at hseq
          intro m' G0 ivs vs hA
          obtain ⟨m1, G1, ivc, A1, k1, r1, o1, n1, q1⟩ := hseq _ _ _ _ hA
          refine ⟨m1, G1, ivc, A1, k1, r1, o1, n1, ?_⟩
          simp only [Opn, ht]
          obtain ⟨l1, l2⟩ := Pieces.even (c := P.cellsOf e) (Q := fun G l => Opn P G d e l) _ ivc (by
            intro p hp
            obtain ⟨i, hm, rfl⟩ := List.mem_map.1 hp
            have hi : i < n := by simpa using hm
            refine ⟨?_, rfl⟩
            have : (i + 1) * ce ≤ n * ce := Nat.mul_le_mul_right _ hi
            rw [Nat.add_mul, Nat.one_mul] at this
            simp only [List.length_take, List.length_drop, hl, hc.2, hc.1]
            omega) q1
          simp only [List.length_map, List.length_range] at l1 l2
          exact ⟨by rw [r1.1, hl], l2⟩
        · cases h
      · cases h
    · cases h

/-- An argument more: of any such type. -/
theorem Args.anyAgg {held : Bool} {m : Map} {G0 : GH} {ivs : List IV} {vs : List Value} (h : Args P W m G0 ivs vs) {d : Nat} {t : TypeId} {c : Nat} {cs : Array Value} {y : DataW H} {ps : List MemPlace} (ha : argN P d t = some c)
    (hd : DataW.Trod enc P W 0 (fun _ => true) held t (.agg cs) y ps) (hwt : ∀ n ∈ y.weights P t, n ≤ reachBytes) :
    ∃ (m' : Map) (G1 : GH) (ivc : List IV), Args P W m' (G0 ++ G1) (ivs ++ [.agg ivc]) (vs ++ [.agg cs]) ∧ Opn P (G0 ++ G1) d t ivc := by
  obtain ⟨fuel, hf⟩ := hd
  obtain ⟨m', G1, ivc, A1, k1, r1, o1, n1, q1⟩ := (trod_opens d fuel t c _ _ ha hf hwt).2 _ _ _ _ h
  exact ⟨m', G1, ivc, A1.snoc (.agg ivc cs (by simpa [Value.cells] using r1.1) fun i iv x a b => r1.2 i iv x a (by simpa [Value.cells] using b)) (by simpa [noLoc] using n1), q1⟩
end
end Go.LI
