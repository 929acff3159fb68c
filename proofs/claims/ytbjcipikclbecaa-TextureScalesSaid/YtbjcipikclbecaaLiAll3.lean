/- The interpreter LI and its soundness (part 3 of 3). -/
import Derived.Test.YtbjcipikclbecaaLiAll2
import Derived.Laws.FloatBits
import Derived.Below
import Derived.ChangeSame
import Derived.WalkKit
import Derived.ProofKit
import Derived.OpenShut
import Derived.Carry
import Derived.Laws.Cover2
import Derived.SizedLaws
import Derived.DataElems

/-! Words of floating point that are no NaN. -/
namespace Go.LI
open Go Ieee

/-- No NaN. -/
def nn (f : Format) (x : Nat) : Prop := (f.read x).isNaN = false

theorem nn_word (f : Format) (neg : Bool) {rung : Nat} (h : rung ≤ f.infRung) : nn f (f.word neg rung) := by
  have hlt : rung < f.signWeight := Nat.lt_of_le_of_lt h f.infRung_lt
  have hmod : f.word neg rung % f.signWeight = rung := by
    unfold Format.word
    split
    · rw [Nat.add_mod_left, Nat.mod_eq_of_lt hlt]
    · exact Nat.mod_eq_of_lt hlt
  unfold nn Format.read
  simp only [hmod]
  split
  · rfl
  · split
    · rfl
    · rw [if_pos (by omega)]; rfl

theorem order_self {d : Datum} (h : d.isNaN = false) : d.order d = some .eq := by
  cases d with
  | number s m e => simp [Datum.order, compare, compareOfLessAndEq]
  | infinity s => simp [Datum.order, compare, compareOfLessAndEq]
  | nan => cases h

theorem feq_self {k : FloatKind} {x : Nat} (h : nn k.format x) : feq k x x = true := by
  unfold feq Format.order
  rw [order_self h]
  rfl

end Go.LI

/-! The last step of a law's row, where no more is known of the world behind the call than that what stood is left alone. -/
namespace Go.LI
open Go Go.RowKit Go.WideShapes Go.ChangeShapes

section
variable {H : Type} {enc : TypeId × Value → H} {P : Program}

/-- A law that answered true: its arguments read as they did. -/
theorem post_law {f : Func} {s : ChangeSpec} {apart fresh handsOn again : Bool} {W W' : World} {args : Array Value} {ds gs : List (DataW H)} {before pa pv : List MemPlace} {t : TypeId}
    (hW : DataW.Whole enc P f.params.toList s.vars apart W args.toList ds gs before)
    (ht : P.underlying t = some .bool) (hrt : f.resultTypes = #[t]) (hsr : (s.fn H (ds ++ gs)).results = [.lit (.bool true)])
    (hargs : ∀ sp : Nat → Bool, (∀ p ∈ before, sp p.block = true) → DataW.TrodAll enc P W' 0 sp true f.params.toList args.toList (s.fn H (ds ++ gs)).args pa)
    (hvars : ∀ sp : Nat → Bool, (∀ p ∈ before, sp p.block = true) → DataW.TrodVars enc P W' sp s.vars (s.fn H (ds ++ gs)).vars pv)
    (hps : before = pa ++ pv) (hb : Below W.heap.size W W') :
    s.post enc P f apart fresh handsOn again W args (.bool true) W' := by
  have hres : ∀ (b : Nat) (sp : Nat → Bool) (hd : Bool), DataW.TrodAll enc P W' b sp hd f.resultTypes.toList ((Value.bool true).resultList f.resultTypes.size) (s.fn H (ds ++ gs)).results [] := by
    intro b sp hd
    rw [hsr, hrt]
    exact trodAll_cons_mk (shut_bool ht _) trodAll_mk0
  have hok : ∀ (j : Nat) (u : TypeId) (r : Value), f.resultTypes[j]? = some u → ((Value.bool true).resultList f.resultTypes.size)[j]? = some r → Value.okWide P W' .any 0 u r :=
    ok_one hrt rfl (okWide_bool_mk ht _)
  have hin : ∀ p ∈ before, p.block < W.heap.size := fun p hp => hW.lt p hp
  have hmem : ∀ p ∈ before, (fun b => decide (b < W.heap.size)) p.block = true := fun p hp => decide_eq_true (hin p hp)
  have hkept : ∀ p ∈ ([] ++ pa) ++ pv, p ∈ before := fun p hp => by rw [hps]; simpa using hp
  refine ⟨ds, gs, before, [], pa, pv, hW, hres _ _ _, hargs _ hmem, hvars _ hmem, World.keptBut_mono (fun p hp => ⟨hp, Or.inr ?_⟩) (hb.frame (· ∈ before)), fun _ => ?_⟩
  · rw [hps] at hp
    exact List.mem_append.1 hp
  · obtain ⟨_, _, _, _, _, hz, hn⟩ := hW
    refine ⟨hok, _, _, ([] ++ pa) ++ pv, ⟨[] ++ pa, pv, trodAll_append (hargs _ (fun _ _ => rfl)) (hres _ _ _), hvars _ (fun _ _ => rfl), rfl, fun b off hp => ?_, fun ha => ?_⟩, fun p hp _ => hkept p hp⟩
    · have hq : MemPlace.cell b off ∈ before := by rw [hps]; simpa using hp
      rw [hb.frozen (hin _ hq)]
      exact hz b off hq
    · have hx := hn ha
      rw [hps] at hx
      simpa using hx
end
end Go.LI

/-! The last step of a law's row, for arguments of any form: what can be read stays as it was. -/
set_option linter.unusedVariables false
namespace Go.LI
open Go Go.RowKit Go.ChangeShapes Go.WideShapes Go.WideElems

section
variable {H : Type} {enc : TypeId × Value → H} {P : Program}

def rowed (P : Program) (ts : List TypeId) : Bool := ts.all fun t => P.readableRec t && decide (t < P.types.size)

theorem trodAll_stays (hl : laidOutB P = true) {W W' : World} (hb : Below W.heap.size W W') {sp : Nat → Bool} : ∀ {ts : List TypeId} {vs : List Value} {ds : List (DataW H)} {ps : List MemPlace}, rowed P ts = true →
    DataW.TrodAll enc P W 0 (fun _ => true) true ts vs ds ps → (∀ p ∈ ps, p.block < W.heap.size) → (∀ p ∈ ps, sp p.block = true) → DataW.TrodAll enc P W' 0 sp true ts vs ds ps
  | [], [], [], ps, _, h, _, _ => h
  | t :: ts, v :: vs, d :: ds, ps, hr, h, hlt, hsp => by
    obtain ⟨v', vs', d', ds', p, q, e1, e2, e3, h1, h2⟩ := trodAll_cons h
    simp only [rowed, List.all_cons, Bool.and_eq_true, decide_eq_true_eq] at hr
    injection e1 with e1 e1'
    injection e2 with e2 e2'
    subst e1; subst e1'; subst e2; subst e2'; subst e3
    refine trodAll_cons_mk (Trod_stays hl hr.1.1 hr.1.2 h1 (fun x hx => hb.same (hlt x (List.mem_append.2 (.inl hx)))) fun x hx => hsp x (List.mem_append.2 (.inl hx))) ?_
    exact trodAll_stays hl hb hr.2 h2 (fun x hx => hlt x (List.mem_append.2 (.inr hx))) fun x hx => hsp x (List.mem_append.2 (.inr hx))
  | [], _ :: _, _, _, _, h, _, _ => by cases h
  | [], [], _ :: _, _, _, h, _, _ => by cases h
  | _ :: _, [], _, _, _, h, _, _ => by cases h
  | _ :: _, _ :: _, [], _, _, h, _, _ => by cases h

/-- A law that returned true, and left all that was there. -/
theorem law_post {f : Func} {s : ChangeSpec} {apart fresh handsOn again : Bool} {W W' : World} {args : Array Value} {ds gs : List (DataW H)} {before : List MemPlace} {t : TypeId}
    (hW : DataW.Whole enc P f.params.toList s.vars apart W args.toList ds gs before) (hl : laidOutB P = true) (hr : rowed P f.params.toList = true) (hvars : s.vars = [])
    (ht : P.underlying t = some .bool) (hrt : f.resultTypes = #[t]) (hfn : ∀ ds, ds.length = f.params.size → (s.fn H ds).results = [.lit (.bool true)] ∧ (s.fn H ds).args = ds ∧ (s.fn H ds).vars = [])
    (hb : Below W.heap.size W W') : s.post enc P f apart fresh handsOn again W args (.bool true) W' := by
  have hW' := hW
  obtain ⟨p, q, hA, hV, hpq, hfz, hnd⟩ := hW
  rw [hvars] at hV
  obtain ⟨hg, hq⟩ := trodVars_none hV
  subst hg; subst hq
  have hlen : ds.length = f.params.size := by
    have key : ∀ {ts : List TypeId} {vs : List Value} {ds : List (DataW H)} {ps : List MemPlace}, DataW.TrodAll enc P W 0 (fun _ => true) true ts vs ds ps → ds.length = ts.length := by
      intro ts
      induction ts with
      | nil =>
        intro vs ds ps h
        cases vs <;> cases ds <;> first | rfl | cases h
      | cons t ts ih =>
        intro vs ds ps h
        obtain ⟨v', vs', d', ds', p, q, e1, e2, e3, h1, h2⟩ := trodAll_cons h
        subst e2
        simp [ih h2]
    have := key hA
    simpa using this
  obtain ⟨f1, f2, f3⟩ := hfn ds hlen
  have hin : ∀ x ∈ before, x.block < W.heap.size := fun x hx => hW'.lt x hx
  refine post_law (pa := p) (pv := []) hW' ht hrt (by simpa using f1) (fun sp hsp => ?_) (fun sp hsp => ?_) hpq hb
  · have hp : ∀ x ∈ p, x ∈ before := fun x hx => by rw [hpq]; exact List.mem_append.2 (.inl hx)
    rw [List.append_nil, f2]
    exact trodAll_stays hl hb hr hA (fun x hx => hin x (hp x hx)) fun x hx => hsp x (hp x hx)
  · rw [List.append_nil, f3, hvars]
    exact hV

end
end Go.LI

/-! Ranges of arguments. -/
namespace Go.LI
open Go Go.RowKit Go.ChangeShapes Go.WideShapes Go.ChangeAt
set_option linter.unusedVariables false
section
variable {P : Program} {w : World} {r : Reach} {base : Nat} {t : TypeId} {v : Value}
end
end Go.LI

/-! Runs with a shelf of library functions. -/
namespace Go.LI
open Go Go.RowKit

/-- What a library function gives for plain arguments. -/
abbrev Lib := Nat → List IV → Option IV
def nil0 : Map := ⟨fun _ => none, fun _ => none⟩

def runL {R : Type} (P : Program) (lib : Lib) (lo : Nat → List Nat) (fuel : Nat) : Nat → Ora R
  | 0, _, _, _, _ => none
  | n + 1, f, args, G, k => match lib f args with
    | some v => k v G
    | none => match P.funcs[f]? with
      | some fn => if (lo f).contains pureMark then (if isFlats args then bodyC P (runL P lib lo fuel n) (lo f) fuel fn args [] (fun v _ => if isFlat v then k v G else none) else none)
        else bodyC P (runL P lib lo fuel n) (lo f) fuel fn args G k
      | none => none

def GoodLib (P : Program) (lib : Lib) : Prop :=
  ∀ (f : Nat) (args : List IV) (v : IV), lib f args = some v → isFlats args = true ∧ isFlat v = true ∧ noLoc v = true ∧
    ∀ (w : World) (args' : Array Value), ARel nil0 args args' → CallSim P f args' w fun v' w' => Below w.heap.size w w' ∧ VRel nil0 v v'

section
variable {R : Type} {P : Program} {lib : Lib}

theorem natL (lo : Nat → List Nat) (fuel : Nat) : ∀ n : Nat, NatO (R := R) (runL P lib lo fuel n)
  | 0 => fun f args G k r h => by cases h
  | n + 1 => fun f args G k r h => by
    simp only [runL] at h
    split at h
    · rename_i v hv
      exact ⟨v, G, fun k' => by simp only [runL]; rw [hv]⟩
    · rename_i hv
      split at h
      · rename_i fn hf
        by_cases hp : (lo f).contains pureMark = true
        · rw [if_pos hp] at h
          split at h
          · rename_i hfl
            obtain ⟨v, G', h1⟩ := body_nat (natL lo fuel n) h
            rw [h1] at h
            split at h
            · rename_i hv2
              exact ⟨v, G, fun k' => by simp only [runL]; rw [hv, hf]; simp only; rw [if_pos hp, if_pos hfl, h1, if_pos hv2]⟩
            · cases h
          · cases h
        · rw [if_neg hp] at h
          obtain ⟨v, G', h1⟩ := body_nat (natL lo fuel n) h
          exact ⟨v, G', fun k' => by simp only [runL]; rw [hv, hf]; simp only; rw [if_neg hp]; exact h1 k'⟩
      · cases h

theorem goodL (hm : P.follows .mixedOrders = true) (hn : ∀ (f : Nat) (fn : Func), P.funcs[f]? = some fn → (fn.name == "runtime.NumGoroutine") = false) (hL : GoodLib P lib) (lo : Nat → List Nat) (fuel : Nat) : ∀ n, GoodO P (runL (R := R) P lib lo fuel n)
  | 0 => fun f args G k r h => by simp [runL] at h
  | n + 1 => fun f args G k r h hl => by
    simp only [runL] at h
    split at h
    · rename_i v hv
      obtain ⟨h1, h2, h3, h4⟩ := hL f args v hv
      refine ⟨v, G, h, h3, fun B K w0 m w args' hmf hA hR => ?_⟩
      refine (h4 w args' ⟨hA.1, fun i iv x a b => call_quiet.flat_any (hA.2 i iv x a b) (flat_eq0.flats_get h1 a)⟩).mono ?_
      rintro v' w' ⟨q1, q2⟩
      exact ⟨m, m.le_refl, hmf, hR.grow q1, call_quiet.flat_any q2 h2⟩
    · split at h
      · rename_i fn hf
        split at h
        · split at h
          · rename_i hfl
            exact pure_good hfl (fun h => body_sim hm (goodL hm hn hL lo fuel n) (natL lo fuel n) hf (hn f fn hf) h) h
          · cases h
        · exact body_sim hm (goodL hm hn hL lo fuel n) (natL lo fuel n) hf (hn f fn hf) h
      · cases h

end
end Go.LI

/-! Arguments that are read alone: slices of plain cells stand in blocks that are read alone. -/
namespace Go.LI
open Go Go.RowKit Go.ChangeShapes Go.WideShapes Go.ChangeAt
set_option linter.unusedVariables false

/-- A plain cell's kind. -/
inductive Lk where
  | int (k : IntKind) | f64 | bool | str
  deriving DecidableEq
def Lk.ok : Lk → IV → Prop
  | .int k, iv => ∃ n, iv = .int k n ∧ k.min ≤ n ∧ n ≤ k.max
  | .f64, iv => ∃ b, iv = .float .f64 b ∧ b < 2 ^ 64
  | .bool, iv => ∃ b, iv = .bool b
  | .str, iv => ∃ s, iv = .str s ∧ s.length ≤ 140737488355328

def CellsOk (ls : List Lk) (cs : List Value) : Prop :=
  cs.length = ls.length ∧ ∀ (i : Nat) (l : Lk) (v : Value), ls[i]? = some l → cs[i]? = some v → ∃ iv, l.ok iv ∧ VRel nil0 iv v ∧ v.oneCell' = true

theorem CellsOk.one {l : Lk} {v : Value} {iv : IV} (h1 : l.ok iv) (h2 : VRel nil0 iv v) (h3 : v.oneCell' = true) : CellsOk [l] [v] := by
  refine ⟨rfl, fun i l' v' a b => ?_⟩
  cases i with
  | zero => simp at a b; subst a; subst b; exact ⟨iv, h1, h2, h3⟩
  | succ i => simp at a

section
variable {H : Type} {enc : TypeId × Value → H} {P : Program} {w : World} {base : Nat} {sp : Nat → Bool} {held : Bool}

theorem weightsAll_mem {e : TypeId} {d : DataW H} {n : Nat} : ∀ {ds : List (DataW H)}, d ∈ ds → n ∈ d.weights P e → n ∈ DataW.weightsAll P e ds
  | [], h, _ => by simp at h
  | x :: ds, h, hn => by
    simp only [DataW.weightsAll, List.mem_append]
    rcases List.mem_cons.1 h with rfl | h
    · exact .inl hn
    · exact .inr (weightsAll_mem h hn)

/-- A slice's cells: as the interpreter has them. -/
structure SlArg (W : World) (ls : List Lk) (v : Value) (n : Nat) (cells : List IV) (a : Addr) (cap : Nat) (c : Array Value) (t : TypeId) (fr : Nat × Nat) : Prop where
  v : v = .slice (some a) n cap
  spot : a.spot = none
  cap : n ≤ cap
  row : W.heap[a.block]? = some (.cells c t fr)
  len : cells.length = n * ls.length
  fit : 0 < n → a.off + n * ls.length ≤ c.size
  at' : ∀ (i : Nat) (iv : IV), cells[i]? = some iv → ∃ x, c[a.off + i]? = some x ∧ VRel nil0 iv x ∧ x.oneCell' = true
  ok : ∀ (i : Nat) (iv : IV), cells[i]? = some iv → ∃ l, ls[i % ls.length]? = some l ∧ l.ok iv
  bytes : n ≤ 140737488355328

theorem choose_list {α : Type} (Q : Nat → α → Prop) : ∀ n : Nat, (∀ i, i < n → ∃ a, Q i a) → ∃ l : List α, l.length = n ∧ ∀ i a, l[i]? = some a → Q i a
  | 0, _ => ⟨[], rfl, fun i a h => by simp at h⟩
  | n + 1, h => by
    obtain ⟨l, h1, h2⟩ := choose_list Q n fun i hi => h i (by omega)
    obtain ⟨a, ha⟩ := h n (by omega)
    refine ⟨l ++ [a], by simp [h1], fun i b hb => ?_⟩
    by_cases hi : i < n
    · rw [List.getElem?_append_left (by omega)] at hb; exact h2 i b hb
    · rw [List.getElem?_append_right (by omega)] at hb
      have : i - l.length = 0 := by
        have := (List.getElem?_eq_some_iff.1 hb).1
        simp at this; omega
      rw [this] at hb
      simp at hb; subst hb
      rw [show i = n by omega]; exact ha

/-- What the arguments stand for. -/
structure Args (P : Program) (W : World) (m : Map) (G0 : GH) (ivs : List IV) (vs : List Value) : Prop where
  nof : ∀ i, m.f i = none
  arel : LRel m ivs vs
  hrel : HRel P (fun b => b < W.heap.size) (fun b => b < W.heap.size) W m [] G0 W
  nol : noLocs ivs = true
  ro : ∀ (i : Nat) (k : Blk), G0[i]? = some k → k.mode = 0

theorem Args.nil (W : World) : Args P W nil0 [] [] [] :=
  ⟨fun _ => rfl, ⟨rfl, fun i iv v h => by simp at h⟩, HRel.empty W, rfl, fun i k h => by simp at h⟩

theorem Args.snoc {W : World} {m : Map} {G0 : GH} {ivs : List IV} {vs : List Value} (h : Args P W m G0 ivs vs) {iv : IV} {v : Value} (hv : VRel m iv v) (hn : noLoc iv = true) : Args P W m G0 (ivs ++ [iv]) (vs ++ [v]) := by
  refine ⟨h.nof, ⟨by simp [h.arel.1], fun i x y a b => ?_⟩, h.hrel, noLocs_append h.nol (by simp [noLocs, hn]), h.ro⟩
  by_cases hi : i < ivs.length
  · rw [List.getElem?_append_left hi] at a
    rw [List.getElem?_append_left (by rw [← h.arel.1]; exact hi)] at b
    exact h.arel.2 i x y a b
  · rw [List.getElem?_append_right (by omega)] at a
    rw [List.getElem?_append_right (by rw [← h.arel.1]; omega), ← h.arel.1] at b
    have hz : i - ivs.length = 0 := by
      have := (List.getElem?_eq_some_iff.1 a).1
      simp at this; omega
    rw [hz] at a b
    simp at a b
    subst a; subst b; exact hv

theorem Args.block {W : World} {m : Map} {G0 : GH} {ivs : List IV} {vs : List Value} (h : Args P W m G0 ivs vs) {b off : Nat} {c : Array Value} {t : TypeId} {fr : Nat × Nat} (row : W.heap[b]? = some (.cells c t fr))
    (cells : List IV) (elem : Nat) (fit : off + cells.length ≤ c.size) (hc : ∀ (i : Nat) (iv : IV), cells[i]? = some iv → ∃ x, c[off + i]? = some x ∧ VRel nil0 iv x ∧ x.oneCell' = true) :
    Args P W (m.addG G0.length ⟨b, off, cells.length, 0, false⟩) (G0 ++ [⟨cells, elem, 0⟩]) ivs vs := by
  have hnone : m.g G0.length = none := h.hrel.g_none (Nat.le_refl _)
  have hle : m.le (m.addG G0.length ⟨b, off, cells.length, 0, false⟩) := Map.le_addG hnone
  have hn0 : nil0.le (m.addG G0.length ⟨b, off, cells.length, 0, false⟩).noF := ⟨fun _ _ x => (by cases x), fun _ _ x => (by cases x)⟩
  have hro : ∀ (i : Nat) (k : Blk), (G0 ++ [⟨cells, elem, 0⟩])[i]? = some k → k.mode = 0 := by
    intro i k hk
    by_cases hi : i < G0.length
    · rw [List.getElem?_append_left hi] at hk; exact h.ro i k hk
    · rw [List.getElem?_append_right (by omega)] at hk
      have hz : i - G0.length = 0 := by
        have := (List.getElem?_eq_some_iff.1 hk).1
        simp at this; omega
      rw [hz] at hk; simp at hk; subst hk; rfl
  refine ⟨h.nof, LRel.mono hle h.arel, ?_, h.nol, hro⟩
  have R := h.hrel
  exact {
    bk := R.bk, frame := R.frame, os := R.os, tape := R.tape, output := R.output, size := R.size,
    gdom := fun i e he => by
      simp only [Map.addG] at he
      split at he
      · rename_i hi; subst hi; simp
      · have := R.gdom i e he; simp; omega
    fdom := fun k x hx => by have := h.nof k; rw [show (m.addG G0.length ⟨b, off, cells.length, 0, false⟩).f k = m.f k from rfl, this] at hx; cases hx
    gblk := fun i k e hk hm he => by
      by_cases hi : i < G0.length
      · rw [List.getElem?_append_left hi] at hk
        simp only [Map.addG] at he
        rw [if_neg (by omega)] at he
        obtain ⟨c', t', fr', g⟩ := R.gblk i k e hk hm he
        exact ⟨c', t', fr', ⟨g.row, g.fits, fun j iv hj => by
          obtain ⟨v, q1, q2, q3⟩ := g.cells j iv hj
          exact ⟨v, q1, q2.mono (Map.noF_mono hle), q3⟩, g.ro, g.esz, g.rw⟩⟩
      · have hil : i < (G0 ++ [(⟨cells, elem, 0⟩ : Blk)]).length := (List.getElem?_eq_some_iff.1 hk).1
        have hi2 : i = G0.length := by simp at hil; omega
        subst hi2
        simp at hk
        subst hk
        rw [Map.addG_self] at he
        injection he with he; subst he
        refine ⟨c, t, fr, ⟨row, fit, fun j iv hj => ?_, fun _ => ?_, fun hf => (by cases hf), fun hf => (by cases hf)⟩⟩
        · obtain ⟨x, q1, q2, q3⟩ := hc j iv hj
          exact ⟨x, q1, q2.mono hn0, q3⟩
        · exact (Array.getElem?_eq_some_iff.1 row).1
    fblk := fun i cs x hx => by simp at hx
    ginj := fun b1 b2 k1 k2 e1 e2 h1 h2 m1 => by have := hro b1 k1 h1; omega
    gf := fun i x k e r hk hm => by have := hro i k hk; omega
    finj := fun i j r s hr => by have := h.nof i; rw [show (m.addG G0.length ⟨b, off, cells.length, 0, false⟩).f i = m.f i from rfl, this] at hr; cases hr }

/-- A slice in the interpreter's heap, read alone. -/
def RSl (G : GH) (e : Nat) (a : Option GA) (n : Nat) (cells : List IV) : Prop :=
  (a = none ∧ n = 0 ∧ cells = []) ∨ ∃ ga, a = some ga ∧ G[ga.b]? = some ⟨cells, e, 0⟩ ∧ (0 < n → ga.o = 0)

/-- A slice more. -/
theorem Args.slice {W : World} {m : Map} {G0 : GH} {ivs : List IV} {vs : List Value} (h : Args P W m G0 ivs vs) (elem : Nat) {ls : List Lk} {v : Value}
    (hs : v = .slice none 0 0 ∨ ∃ n cells a cap c t' fr, SlArg W ls v n cells a cap c t' fr) :
    ∃ m' a n cells G1, Args P W m' (G0 ++ G1) (ivs ++ [.slice a n]) (vs ++ [v]) ∧ RSl (G0 ++ G1) elem a n cells ∧ cells.length = n * ls.length ∧ n ≤ 140737488355328 ∧
      (∀ (i : Nat) (iv : IV), cells[i]? = some iv → ∃ l, ls[i % ls.length]? = some l ∧ l.ok iv) ∧ (a = none → v = .slice none 0 0) := by
  rcases hs with rfl | ⟨n, cells, a, cap, c, t', fr, s⟩
  · refine ⟨m, none, 0, [], [], ?_, .inl ⟨rfl, rfl, rfl⟩, by simp, by omega, fun i iv hi => by simp at hi, fun _ => rfl⟩
    rw [List.append_nil]
    exact h.snoc .sliceNil rfl
  · have hv := s.v
    subst hv
    obtain ⟨ab, ao, asp⟩ := a
    have hsp := s.spot
    simp only at hsp
    subst hsp
    rcases Nat.eq_zero_or_pos n with h0 | h0
    · subst h0
      have hc0 : cells = [] := List.length_eq_zero_iff.1 (by rw [s.len]; simp)
      subst hc0
      have hb := h.block s.row [] elem (off := 0) (by simp) (fun i iv hi => by simp at hi)
      refine ⟨_, some ⟨G0.length, ao⟩, 0, [], _, hb.snoc (v := .slice (some ⟨ab, ao, none⟩) 0 cap) ?_ rfl, .inr ⟨_, rfl, by simp, fun hx => by omega⟩, by simp, by omega, fun i iv hi => by simp at hi, fun hx => by cases hx⟩
      have := VRel.slice (m := m.addG G0.length ⟨ab, 0, ([] : List IV).length, 0, false⟩) ⟨G0.length, ao⟩ ⟨ab, 0, ([] : List IV).length, 0, false⟩ 0 cap (Map.addG_self _ _ _) (Nat.zero_le _) (fun hx => by cases hx)
      simpa using this
    · have hb := h.block s.row cells elem (off := ao) (by rw [s.len]; exact s.fit h0) s.at'
      refine ⟨_, some ⟨G0.length, 0⟩, n, cells, _, hb.snoc (v := .slice (some ⟨ab, ao, none⟩) n cap) ?_ rfl, .inr ⟨_, rfl, by simp, fun _ => rfl⟩, s.len, s.bytes, s.ok, fun hx => by cases hx⟩
      have := VRel.slice (m := m.addG G0.length ⟨ab, ao, cells.length, 0, false⟩) ⟨G0.length, 0⟩ ⟨ab, ao, cells.length, 0, false⟩ n cap (Map.addG_self _ _ _) s.cap (fun hx => by cases hx)
      simpa using this

/-- From a run to the call, with arguments that are read. -/
theorem callsA_of_run {lib : Lib} (hm : P.follows .mixedOrders = true) (hn : ∀ (f : Nat) (fn : Func), P.funcs[f]? = some fn → (fn.name == "runtime.NumGoroutine") = false) (hL : GoodLib P lib)
    {lo : Nat → List Nat} {fuel n : Nat} {f : FuncId} {fn : Func} {c : Code} {m : Map} {G0 : GH} {ivs : List IV} {vs : List Value} {W : World} (hf : P.funcs[f]? = some fn) (hc : fn.body = some c) (hA : Args P W m G0 ivs vs) {b : Bool}
    (h : runL (R := IV) P lib lo fuel n f ivs G0 (fun v _ => some v) = some (.bool b)) :
    Calls P f vs.toArray W fun e w' => e = .returned (.bool b) ∧ Below W.heap.size W w' := by
  obtain ⟨v, G', h1, h2, h3⟩ := goodL hm hn hL lo fuel n f ivs G0 _ _ h hA.nol
  injection h1 with h1
  subst h1
  rcases h3 _ _ W m W vs.toArray hA.nof ⟨by simpa using hA.arel.1, fun i iv x a b => hA.arel.2 i iv x a (by simpa using b)⟩ hA.hrel with ⟨_, hcall⟩ | ⟨v', hv, _⟩
  · refine hcall.mono ?_
    rintro e w' ⟨v', rfl, m', q1, q2, q3, q4⟩
    refine ⟨?_, ⟨q3.os, q3.tape, q3.output, q3.size, fun b hb => (q3.frame b hb).2⟩⟩
    cases q4
    rfl
  · have hn' : ¬ fn.name = "runtime.NumGoroutine" := by simpa using hn f fn hf
    simp [callFunc, hf, hn', hc] at hv
theorem noLib_good : GoodLib P (fun _ _ => none) := fun f args v h => by cases h
end
end Go.LI

/-! Arguments that are read: lists of plain values. -/
namespace Go.LI
open Go Go.RowKit
set_option linter.unusedVariables false

theorem RSl.grow {G : GH} {e : Nat} {a : Option GA} {n : Nat} {cs : List IV} (h : RSl G e a n cs) (G2 : GH) : RSl (G ++ G2) e a n cs := by
  rcases h with h | ⟨ga, h1, h2, h3⟩
  · exact .inl h
  · exact .inr ⟨ga, h1, by rw [List.getElem?_append_left (List.getElem?_eq_some_iff.1 h2).1]; exact h2, h3⟩

theorem wt_of {H : Type} {P : Program} {ts : List TypeId} {ds : List (DataW H)} (h : (DataW.weightsEach P ts ds).all (· ≤ reachBytes) = true) {j : Nat} {t : TypeId} {d : DataW H} (ht : ts[j]? = some t) (hd : ds[j]? = some d) : ∀ n ∈ d.weights P t, n ≤ reachBytes := by
  intro n hn
  have := List.all_eq_true.1 h n (DataW.weights_mem_each ht hd n hn)
  simpa using this

end Go.LI
