/- How the interpreter's values and memory stand to the model's. -/
import Derived.Test.YtckelpgijjbpaaaLiA
namespace Go.LI
open Go Go.RowKit

structure Ent where
  blk : Nat
  off : Nat
  size : Nat
  esz : Nat
  rw : Bool

structure Map where
  g : Nat → Option Ent
  f : Nat → Option Nat

inductive VRel (m : Map) : IV → Value → Prop
  | bool (b) : VRel m (.bool b) (.bool b)
  | int (k n) : VRel m (.int k n) (.int k n)
  | float (k b) : VRel m (.float k b) (.float k b)
  | str (s : List UInt8) : VRel m (.str s) (.string ⟨⟨s⟩⟩)
  | ptrNil : VRel m (.ptr none) (.pointer none)
  | ptr (a : GA) (e : Ent) (h : m.g a.b = some e) : VRel m (.ptr (some a)) (.pointer (some ⟨e.blk, e.off + a.o, none⟩))
  | loc (k o b : Nat) (h : m.f k = some b) : VRel m (.loc k o) (.pointer (some ⟨b, o, none⟩))
  | sliceNil : VRel m (.slice none 0) (.slice none 0 0)
  | slice (a : GA) (e : Ent) (n c : Nat) (h : m.g a.b = some e) (hn : n ≤ c) (hc : e.rw = true → a.o + c * e.esz ≤ e.size) :
      VRel m (.slice (some a) n) (.slice (some ⟨e.blk, e.off + a.o, none⟩) n c)
  | sliceE (a : GA) (a' : Addr) : VRel m (.slice (some a) 0) (.slice (some a') 0 0)
  | func (f : Nat) (cs : List IV) (cs' : Array Value) (hs : cs.length = cs'.size) (h : ∀ (i : Nat) (iv : IV) (v : Value), cs[i]? = some iv → cs'[i]? = some v → VRel m iv v) :
      VRel m (.func f cs) (.func (.func f) #[] cs')
  | nilFunc : VRel m .nilFunc .nilFunc
  | nilIface : VRel m .nilIface .nilIface
  | iface (t iv v) (h : VRel m iv v) : VRel m (.iface t iv) (.iface t v)
  | agg (cs : List IV) (cs' : Array Value) (hs : cs.length = cs'.size) (h : ∀ (i : Nat) (iv : IV) (v : Value), cs[i]? = some iv → cs'[i]? = some v → VRel m iv v) :
      VRel m (.agg cs) (.agg cs')
  | tuple (cs : List IV) (cs' : Array Value) (hs : cs.length = cs'.size) (h : ∀ (i : Nat) (iv : IV) (v : Value), cs[i]? = some iv → cs'[i]? = some v → VRel m iv v) :
      VRel m (.tuple cs) (.tuple cs')
  | fo (k : FloatKind) (o : Option Nat) (b : Nat) (h : ∀ r, o = some r → b = r) (hn : o = none → (k.format.read b).isNaN = true) : VRel m (.fo k o) (.float k b)

/-- Lists of values. -/
def LRel (m : Map) (cs : List IV) (cs' : List Value) : Prop := cs.length = cs'.length ∧ ∀ (i : Nat) (iv : IV) (v : Value), cs[i]? = some iv → cs'[i]? = some v → VRel m iv v

def Map.le (m m' : Map) : Prop := (∀ b e, m.g b = some e → m'.g b = some e) ∧ (∀ k b, m.f k = some b → m'.f k = some b)
def Map.noF (m : Map) : Map := { m with f := fun _ => none }

theorem Map.le_refl (m : Map) : m.le m := ⟨fun _ _ h => h, fun _ _ h => h⟩
theorem Map.le_trans {a b c : Map} (h : a.le b) (k : b.le c) : a.le c := ⟨fun _ _ x => k.1 _ _ (h.1 _ _ x), fun _ _ x => k.2 _ _ (h.2 _ _ x)⟩
theorem Map.noF_le (m : Map) : m.noF.le m := ⟨fun _ _ h => h, fun _ _ h => by cases h⟩
theorem Map.noF_mono {m m' : Map} (h : m.le m') : m.noF.le m'.noF := ⟨h.1, fun _ _ h => by cases h⟩

theorem VRel.mono {m m' : Map} (hm : m.le m') {iv : IV} {v : Value} (h : VRel m iv v) : VRel m' iv v := by
  induction h with
  | bool => exact .bool _
  | int => exact .int _ _
  | float => exact .float _ _
  | str => exact .str _
  | ptrNil => exact .ptrNil
  | ptr a e h => exact .ptr a e (hm.1 _ _ h)
  | loc k o b h => exact .loc k o b (hm.2 _ _ h)
  | sliceNil => exact .sliceNil
  | slice a e n c h hn hc => exact .slice a e n c (hm.1 _ _ h) hn hc
  | sliceE => exact .sliceE _ _
  | func f cs cs' hs _ ih => exact .func f cs cs' hs ih
  | nilFunc => exact .nilFunc
  | nilIface => exact .nilIface
  | iface t iv v _ ih => exact .iface t iv v ih
  | agg cs cs' hs _ ih => exact .agg cs cs' hs ih
  | tuple cs cs' hs _ ih => exact .tuple cs cs' hs ih
  | fo k o b h hn => exact .fo k o b h hn

theorem LRel.mono {m m' : Map} (hm : m.le m') {cs : List IV} {cs' : List Value} (h : LRel m cs cs') : LRel m' cs cs' :=
  ⟨h.1, fun i iv v a b => (h.2 i iv v a b).mono hm⟩

/-- A value without local addresses stands so without the locals. -/
theorem VRel.noF {m : Map} {iv : IV} {v : Value} (h : VRel m iv v) : noLoc iv = true → VRel m.noF iv v := by
  induction h with
  | bool => intro _; exact .bool _
  | int => intro _; exact .int _ _
  | float => intro _; exact .float _ _
  | str => intro _; exact .str _
  | ptrNil => intro _; exact .ptrNil
  | ptr a e h => intro _; exact .ptr a e h
  | loc k o b h => intro hn; simp [noLoc] at hn
  | sliceNil => intro _; exact .sliceNil
  | slice a e n c h hn hc => intro _; exact .slice a e n c h hn hc
  | sliceE => intro _; exact .sliceE _ _
  | func f cs cs' hs _ ih => intro hn; exact .func f cs cs' hs fun i iv v a b => ih i iv v a b (noLocs_get (by simpa [noLoc] using hn) a)
  | nilFunc => intro _; exact .nilFunc
  | nilIface => intro _; exact .nilIface
  | iface t iv v _ ih => intro hn; exact .iface t iv v (ih (by simpa [noLoc] using hn))
  | agg cs cs' hs _ ih => intro hn; exact .agg cs cs' hs fun i iv v a b => ih i iv v a b (noLocs_get (by simpa [noLoc] using hn) a)
  | tuple cs cs' hs _ ih => intro hn; exact .tuple cs cs' hs fun i iv v a b => ih i iv v a b (noLocs_get (by simpa [noLoc] using hn) a)
  | fo k o b h hn => intro _; exact .fo k o b h hn
where
  noLocs_get : ∀ {cs : List IV} {i : Nat} {iv : IV}, noLocs cs = true → cs[i]? = some iv → noLoc iv = true
    | [], _, _, _, h => by simp at h
    | c :: cs, 0, iv, hn, h => by simp [noLocs] at hn; simp at h; rw [← h]; exact hn.1
    | c :: cs, i + 1, iv, hn, h => by simp [noLocs] at hn; exact noLocs_get hn.2 (by simpa using h)


theorem noLocs_cells {v : IV} (h : noLoc v = true) : noLocs v.cells = true := by
  cases v <;> simp_all [IV.cells, noLocs, noLoc]

/-! ### Memory -/
/-- What can be read: mapped memory holds related values. -/
structure MemOk (P : Program) (m : Map) (F : List (List IV)) (G : GH) (w : World) : Prop where
  g : ∀ (a : GA) (iv : IV) (e : Ent), gld G a = some iv → m.g a.b = some e → e.blk < w.heap.size ∧ ∃ v, w.cell? ⟨e.blk, e.off + a.o, none⟩ = some v ∧ VRel m iv v
  z : ∀ (b : Nat) (k : Blk) (e : Ent), G[b]? = some k → k.mode ≤ 1 → m.g b = some e → e.rw = true → e.esz = P.cellsOf k.elem
  f : ∀ (i : Nat) (cs : List IV) (b : Nat), F[i]? = some cs → m.f i = some b → b < w.heap.size ∧ ∀ (o : Nat) (iv : IV), cs[o]? = some iv → ∃ v, w.cell? ⟨b, o, none⟩ = some v ∧ VRel m iv v

/-- A block of the shared heap stands at a row of the model's. -/
structure GB (P : Program) (B K : Nat → Prop) (m : Map) (k : Blk) (e : Ent) (w : World) (c : Array Value) (t : TypeId) (fr : Nat × Nat) : Prop where
  row : w.heap[e.blk]? = some (.cells c t fr)
  fits : e.off + k.cells.length ≤ c.size
  cells : ∀ (i : Nat) (iv : IV), k.cells[i]? = some iv → ∃ v, c[e.off + i]? = some v ∧ VRel m.noF iv v ∧ v.oneCell' = true
  ro : k.mode = 0 → B e.blk
  esz : e.rw = true → e.esz = P.cellsOf k.elem
  rw : k.mode = 1 → ¬ K e.blk ∧ t = k.elem ∧ e.rw = true ∧ c.size = e.off + e.size ∧ (∀ o, o < c.size → ¬ (fr.1 ≤ o ∧ o < fr.2))

structure FB (K : Nat → Prop) (m : Map) (cs : List IV) (b : Nat) (w : World) (c : Array Value) (t : TypeId) : Prop where
  row : w.heap[b]? = some (.cells c t (0, 0))
  size : c.size = cs.length
  cells : ∀ (i : Nat) (iv : IV), cs[i]? = some iv → ∃ v, c[i]? = some v ∧ VRel m iv v
  own : ¬ K b

structure HRel (P : Program) (B K : Nat → Prop) (w0 : World) (m : Map) (F : List (List IV)) (G : GH) (w : World) : Prop where
  bk : ∀ b, B b → K b
  frame : ∀ b, K b → b < w0.heap.size ∧ w.heap[b]? = w0.heap[b]?
  os : w.os = w0.os
  tape : w.tape = w0.tape
  output : w.output = w0.output
  size : w0.heap.size ≤ w.heap.size
  gdom : ∀ b e, m.g b = some e → b < G.length
  fdom : ∀ k b, m.f k = some b → k < F.length
  gblk : ∀ (b : Nat) (k : Blk) (e : Ent), G[b]? = some k → k.mode ≤ 1 → m.g b = some e → ∃ c t fr, GB P B K m k e w c t fr
  fblk : ∀ (i : Nat) (cs : List IV) (b : Nat), F[i]? = some cs → m.f i = some b → ∃ c t, FB K m cs b w c t
  ginj : ∀ (b1 b2 : Nat) (k1 k2 : Blk) (e1 e2 : Ent), G[b1]? = some k1 → G[b2]? = some k2 → k1.mode = 1 → k2.mode = 1 → m.g b1 = some e1 → m.g b2 = some e2 → b1 ≠ b2 → e1.blk ≠ e2.blk
  gf : ∀ (b i : Nat) (k : Blk) (e : Ent) (r : Nat), G[b]? = some k → k.mode = 1 → m.g b = some e → m.f i = some r → e.blk ≠ r
  finj : ∀ i j r s, m.f i = some r → m.f j = some s → i ≠ j → r ≠ s

def Map.addF (m : Map) (i b : Nat) : Map := { m with f := fun k => if k = i then some b else m.f k }
def Map.addG (m : Map) (i : Nat) (e : Ent) : Map := { m with g := fun k => if k = i then some e else m.g k }

theorem Map.addG_self (m : Map) (i : Nat) (e : Ent) : (m.addG i e).g i = some e := by simp [Map.addG]
theorem Map.addF_self (m : Map) (i b : Nat) : (m.addF i b).f i = some b := by simp [Map.addF]
theorem Map.le_addF {m : Map} {i b : Nat} (h : m.f i = none) : m.le (m.addF i b) := by
  refine ⟨fun _ _ x => x, fun k c x => ?_⟩
  simp only [Map.addF]
  split
  · rename_i hk; subst hk; rw [h] at x; cases x
  · exact x
theorem Map.le_addG {m : Map} {i : Nat} {e : Ent} (h : m.g i = none) : m.le (m.addG i e) := by
  refine ⟨fun k c x => ?_, fun _ _ x => x⟩
  simp only [Map.addG]
  split
  · rename_i hk; subst hk; rw [h] at x; cases x
  · exact x

section
variable {P : Program} {B K : Nat → Prop} {w0 : World} {m : Map} {F : List (List IV)} {G : GH} {w : World}

theorem HRel.g_none (h : HRel P B K w0 m F G w) {b : Nat} (hb : G.length ≤ b) : m.g b = none := by
  cases hm : m.g b with
  | none => rfl
  | some e => have := h.gdom _ _ hm; omega
theorem HRel.f_none (h : HRel P B K w0 m F G w) {b : Nat} (hb : F.length ≤ b) : m.f b = none := by
  cases hm : m.f b with
  | none => rfl
  | some e => have := h.fdom _ _ hm; omega

theorem lt_of_row {w : World} {b : Nat} {o : Obj} (h : w.heap[b]? = some o) : b < w.heap.size := (Array.getElem?_eq_some_iff.1 h).1

/-- Only new blocks have come. -/
theorem HRel.grow (h : HRel P B K w0 m F G w) {w' : World} (hb : Below w.heap.size w w') : HRel P B K w0 m F G w' where
  bk := h.bk
  frame := fun b hk => by
    obtain ⟨h1, h2⟩ := h.frame b hk
    exact ⟨h1, (hb.block b (Nat.lt_of_lt_of_le h1 h.size)).trans h2⟩
  os := hb.os.trans h.os
  tape := hb.tape.trans h.tape
  output := hb.output.trans h.output
  size := Nat.le_trans h.size hb.size
  gdom := h.gdom
  fdom := h.fdom
  gblk := fun b k e h1 h2 he => by
    obtain ⟨c, t, fr, hg⟩ := h.gblk b k e h1 h2 he
    exact ⟨c, t, fr, { hg with row := (hb.block _ (lt_of_row hg.row)).trans hg.row }⟩
  fblk := fun i cs b h1 he => by
    obtain ⟨c, t, hf⟩ := h.fblk i cs b h1 he
    exact ⟨c, t, { hf with row := (hb.block _ (lt_of_row hf.row)).trans hf.row }⟩
  ginj := h.ginj
  gf := h.gf
  finj := h.finj

theorem below_drawn (w : World) (n : Nat) : Below w.heap.size w { w with drawn := n } := ⟨rfl, rfl, rfl, Nat.le_refl _, fun _ _ => rfl⟩
theorem HRel.drew (h : HRel P B K w0 m F G w) (n : Nat) : HRel P B K w0 m F G { w with drawn := n } := h.grow (below_drawn w n)

theorem cell?_eq {w : World} {b o : Nat} {c : Array Value} {t : TypeId} {fr : Nat × Nat} (h : w.heap[b]? = some (.cells c t fr)) : w.cell? ⟨b, o, none⟩ = c[o]? := by
  simp [World.cell?, h]

theorem HRel.mem (h : HRel P B K w0 m F G w) : MemOk P m F G w where
  z := fun b k e h1 h2 h3 h4 => by
    obtain ⟨c, t, fr, hg⟩ := h.gblk b k e h1 h2 h3
    exact hg.esz h4
  g := fun a iv e hg he => by
    unfold gld at hg
    split at hg
    · rename_i k hk
      split at hg
      · rename_i hm
        obtain ⟨c, t, fr, hgb⟩ := h.gblk _ _ e hk hm he
        obtain ⟨v, hv, hr, _⟩ := hgb.cells _ _ hg
        exact ⟨lt_of_row hgb.row, v, by rw [cell?_eq hgb.row]; exact hv, hr.mono m.noF_le⟩
      · cases hg
    · cases hg
  f := fun i cs b hi hb => by
    obtain ⟨c, t, hf⟩ := h.fblk i cs b hi hb
    refine ⟨lt_of_row hf.row, fun o iv ho => ?_⟩
    obtain ⟨v, hv, hr⟩ := hf.cells o iv ho
    exact ⟨v, by rw [cell?_eq hf.row]; exact hv, hr⟩

theorem MemOk.grow (h : MemOk P m F G w) {w' : World} (hb : Below w.heap.size w w') : MemOk P m F G w' where
  z := h.z
  g := fun a iv e hg he => by
    obtain ⟨h1, v, h2, h3⟩ := h.g a iv e hg he
    exact ⟨Nat.lt_of_lt_of_le h1 hb.size, v, (hb.cell (p := ⟨e.blk, _, none⟩) h1).trans h2, h3⟩
  f := fun i cs b hi hb' => by
    obtain ⟨h1, h2⟩ := h.f i cs b hi hb'
    refine ⟨Nat.lt_of_lt_of_le h1 hb.size, fun o iv ho => ?_⟩
    obtain ⟨v, h3, h4⟩ := h2 o iv ho
    exact ⟨v, (hb.cell (p := ⟨b, o, none⟩) h1).trans h3, h4⟩

end
end Go.LI
