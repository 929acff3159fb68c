/- Bytes in slices; lines of a file's head. -/
import Derived.Test.YtmhoddmenfondaaDoorDoorG
import Derived.Test.YtmhoddmenfondaaDoorDoorD
import Derived.Test.YtmhoddmenfondaaDoorFlE
namespace Go.LI.Door
open Go.Proofs.YtmhoddmenfondaaDoor Go Go.Proofs Go.LI
set_option linter.unusedVariables false
set_option linter.unusedSimpArgs false
set_option maxRecDepth 100000

theorem bytesI_length (l : List UInt8) : (bytesI l).length = l.length := by simp [bytesI]
theorem bytesI_app (l r : List UInt8) : bytesI (l ++ r) = bytesI l ++ bytesI r := by simp [bytesI]
theorem bytesI_get (l : List UInt8) (i : Nat) (hi : i < l.length) : (bytesI l)[i]? = some (.int .u8 ((l[i]'hi).toNat : Int)) := by
  simp [bytesI, hi]
theorem asBytes_bytesI : ∀ l : List UInt8, asBytes (bytesI l) = some l
  | [] => rfl
  | b :: l => by
    have h := asBytes_bytesI l
    simp only [bytesI] at h
    simp only [bytesI, List.map_cons, asBytes, h, Int.toNat_natCast]
    simp

/-- The bytes bs stand at ⟨b, o⟩. -/
def By (G : GH) (b o : Nat) (bs : List UInt8) : Prop := ∃ cs md, G[b]? = some ⟨cs, 5, md⟩ ∧ md ≤ 1 ∧ o + bs.length ≤ cs.length ∧ (cs.drop o).take bs.length = bytesI bs
theorem By.grd {G : GH} {b o : Nat} {bs : List UInt8} (h : By G b o bs) : grd G ⟨b, o⟩ bs.length = some (bytesI bs) := by
  obtain ⟨cs, md, h1, h2, h3, h4⟩ := h
  simp [Go.LI.grd, h1, h2, h3, h4]
theorem By.str {R : Type} {G : GH} {b o : Nat} {bs : List UInt8} (h : By G b o bs) (k : List UInt8 → Option R) : strOf G (some ⟨b, o⟩) bs.length k = k bs := strOf_some h.grd (asBytes_bytesI bs)
theorem By.bytesS {G : GH} {b o : Nat} {bs : List UInt8} (h : By G b o bs) : Go.LI.bytesS G (some ⟨b, o⟩) bs.length = some bs := by
  simp only [Go.LI.bytesS, h.grd, Option.bind_some, asBytes_bytesI]
theorem By.cell {G : GH} {b o : Nat} {bs : List UInt8} (h : By G b o bs) {i : Nat} (hi : i < bs.length) : ldInt G .u8 ⟨b, o + i⟩ = some ((bs[i]'hi).toNat : Int) := by
  obtain ⟨cs, md, h1, h2, h3, h4⟩ := h
  have h5 : ((cs.drop o).take bs.length)[i]? = some (.int .u8 ((bs[i]'hi).toNat : Int)) := by rw [h4]; exact bytesI_get bs i hi
  rw [List.getElem?_take, if_pos hi, List.getElem?_drop] at h5
  simp [ldInt, gld, h1, h2, h5]
theorem By.left {G : GH} {b o : Nat} {l r : List UInt8} (h : By G b o (l ++ r)) : By G b o l := by
  obtain ⟨cs, md, h1, h2, h3, h4⟩ := h
  rw [List.length_append] at h3
  refine ⟨cs, md, h1, h2, by omega, ?_⟩
  have h5 : ((cs.drop o).take (l ++ r).length).take l.length = bytesI l := by
    rw [h4, bytesI_app, List.take_append_of_le_length (by rw [bytesI_length]; exact Nat.le_refl _), List.take_of_length_le (by rw [bytesI_length]; exact Nat.le_refl _)]
  rwa [List.take_take, List.length_append, Nat.min_eq_left (by omega)] at h5
theorem By.right {G : GH} {b o : Nat} {l r : List UInt8} (h : By G b o (l ++ r)) : By G b (o + l.length) r := by
  obtain ⟨cs, md, h1, h2, h3, h4⟩ := h
  rw [List.length_append] at h3
  refine ⟨cs, md, h1, h2, by omega, ?_⟩
  have h5 : ((cs.drop o).take (l ++ r).length).drop l.length = bytesI r := by
    rw [h4, bytesI_app]
    have : l.length = (bytesI l).length := (bytesI_length l).symm
    rw [this, List.drop_left]
  rwa [List.drop_take, List.drop_drop, List.length_append, Nat.add_sub_cancel_left] at h5
theorem By.keep {G G' : GH} {b o base : Nat} {bs : List UInt8} (h : By G b o bs) (k : Keeps base G G') (hb : b < base) : By G' b o bs := by
  obtain ⟨cs, md, h1, h2⟩ := h
  exact ⟨cs, md, by rw [k.2 b hb]; exact h1, h2⟩
theorem By.cut {G : GH} {b o o' : Nat} {bs : List UInt8} (h : By G b o bs) : gcut G (some ⟨b, o'⟩) 5 = true := by
  obtain ⟨cs, md, h1, h2, h3⟩ := h
  simp [gcut, h1, h2]
theorem By.lt {G : GH} {b o : Nat} {bs : List UInt8} (h : By G b o bs) : b < G.length := by
  obtain ⟨cs, md, h1, h2⟩ := h
  exact (List.getElem?_eq_some_iff.1 h1).1
theorem By.new (G : GH) (bs : List UInt8) : By (gnew G (bytesI bs) 5) G.length 0 bs :=
  ⟨bytesI bs, 1, gnew_at G _ 5, by decide, by rw [bytesI_length]; omega, by rw [List.drop_zero, List.take_of_length_le (by rw [bytesI_length]; exact Nat.le_refl _)]⟩
theorem idxB {b o n i : Nat} (h : i < n) : idx? (some ⟨b, o⟩) n (i : Int) 1 = some ⟨b, o + i⟩ := by
  simp only [idx?]
  rw [if_pos ⟨by omega, by omega⟩]
  simp [GA.add]

theorem indexByte_at (c : UInt8) : ∀ (l rest : List UInt8), c ∉ l → Go.Lib.indexByte (l ++ c :: rest) c = (l.length : Int)
  | [], rest, _ => by simp [Go.Lib.indexByte]
  | x :: l, rest, h => by
    have hx : (x == c) = false := by
      rw [beq_eq_false_iff_ne]
      intro e
      exact h (by rw [e]; exact List.mem_cons_self)
    have ih := indexByte_at c l rest (fun hc => h (List.mem_cons_of_mem _ hc))
    have hne : ((l.length : Int) == -1) = false := by rw [beq_eq_false_iff_ne]; omega
    rw [List.cons_append, Go.Lib.indexByte, hx, ih, hne]
    simp

section
variable {R : Type} {O : Ora R}
abbrev S73 (O : Ora R) : Prop := ∀ (b o : Nat) (bs : List UInt8) (c : Int) (G : GH) (k : IV → GH → Option R), By G b o bs → O fn_internal_bytealg_IndexByte [.slice (some ⟨b, o⟩) bs.length, .int .u8 c] G k = k (.int .i64 (Go.Lib.indexByte bs c.toNat.toUInt8)) G
abbrev S60 (O : Ora R) : Prop := ∀ (b o : Nat) (bs : List UInt8) (c : Int) (G : GH) (k : IV → GH → Option R), By G b o bs → O fn_bytes_IndexByte [.slice (some ⟨b, o⟩) bs.length, .int .u8 c] G k = k (.int .i64 (Go.Lib.indexByte bs c.toNat.toUInt8)) G
/-- A separator of one byte. -/
abbrev S54 (O : Ora R) : Prop := ∀ (b o b' o' : Nat) (bs : List UInt8) (c : UInt8) (G : GH) (k : IV → GH → Option R), By G b o bs → By G b' o' [c] → O fn_bytes_Index [.slice (some ⟨b, o⟩) bs.length, .slice (some ⟨b', o'⟩) 1] G k = k (.int .i64 (Go.Lib.indexByte bs c)) G
abbrev S50 (O : Ora R) : Prop := ∀ (b o b' o' : Nat) (l r : List UInt8) (c : UInt8) (G : GH) (k : IV → GH → Option R), By G b o (l ++ c :: r) → c ∉ l → l.length + r.length ≤ 1000000000 → By G b' o' [c] →
  O fn_bytes_Cut [.slice (some ⟨b, o⟩) (l.length + (r.length + 1)), .slice (some ⟨b', o'⟩) 1] G k = k (.tuple [.slice (some ⟨b, o⟩) l.length, .slice (some ⟨b, o + (l.length + 1)⟩) r.length, .bool true]) G
abbrev SLn (O : Ora R) : Prop := ∀ (b o : Nat) (l r : List UInt8) (G : GH) (k : IV → GH → Option R), By G b o (l ++ 10 :: r) → (10 : UInt8) ∉ l → l.length + r.length ≤ 1000000000 →
  O fn_pfm_line [.slice (some ⟨b, o⟩) (l.length + (r.length + 1))] G k = k (.tuple [.str l, .slice (some ⟨b, o + (l.length + 1)⟩) r.length, .bool true]) (gnew G [.int .u8 10] 5)

theorem i60 (h : S73 O) {F : Nat} (b o : Nat) (bs : List UInt8) (c : Int) (G : GH) (k : IV → GH → Option R) (hB : By G b o bs) : bodyC Tryd.prog O [777777] F Tryd.f60 [.slice (some ⟨b, o⟩) bs.length, .int .u8 c] G k = k (.int .i64 (Go.Lib.indexByte bs c.toNat.toUInt8)) G := by
  rw [e_bytes_IndexByte, h b o bs c G _ hB]
  rfl
theorem ofInt8 (c : UInt8) : ((c.toNat : Int)).toNat.toUInt8 = c := by simp
theorem i54 (h : S60 O) {F : Nat} (b o b' o' : Nat) (bs : List UInt8) (c : UInt8) (G : GH) (k : IV → GH → Option R) (hB : By G b o bs) (hC : By G b' o' [c]) :
    bodyC Tryd.prog O [777777] F Tryd.f54 [.slice (some ⟨b, o⟩) bs.length, .slice (some ⟨b', o'⟩) 1] G k = k (.int .i64 (Go.Lib.indexByte bs c)) G := by
  have n0 : (((1 : Nat) : Int) == (0 : Int)) = false := by decide
  have n1 : (((1 : Nat) : Int) == (1 : Int)) = true := by decide
  have hc := hC.cell (i := 0) (by simp)
  have hx : idx? (some (⟨b', o'⟩ : GA)) 1 (0 : Int) 1 = some ⟨b', o' + 0⟩ := idxB (i := 0) (by decide)
  rw [e_bytes_Index, n0, n1, cond_false, cond_true, hx, Option.bind_some, hc, Option.bind_some, h b o bs _ G _ hB]
  simp only [List.getElem_cons_zero, ofInt8]
  rfl
theorem ge0 (n : Nat) : decide ((n : Int) ≥ 0) = true := by simp
theorem i50 (h : S54 O) {F : Nat} (b o b' o' : Nat) (l r : List UInt8) (c : UInt8) (G : GH) (k : IV → GH → Option R) (hB : By G b o (l ++ c :: r)) (hl : c ∉ l) (hn : l.length + r.length ≤ 1000000000) (hC : By G b' o' [c]) :
    bodyC Tryd.prog O [777777] F Tryd.f50 [.slice (some ⟨b, o⟩) (l.length + (r.length + 1)), .slice (some ⟨b', o'⟩) 1] G k = k (.tuple [.slice (some ⟨b, o⟩) l.length, .slice (some ⟨b, o + (l.length + 1)⟩) r.length, .bool true]) G := by
  have hlen : l.length + (r.length + 1) = (l ++ c :: r).length := by simp
  have iv64 : ∀ n : Int, ivInt .i64 (.int .i64 n) = some n := fun _ => rfl
  have w1 : IntKind.wrap .i64 ((l.length : Int) + ((1 : Nat) : Int)) = ((l.length + 1 : Nat) : Int) := by rw [wr (by omega) (by omega)]; omega
  have c1 : decide (0 ≤ (0 : Int) ∧ (0 : Int) ≤ (l.length : Int) ∧ (l.length : Int) ≤ ((l.length + (r.length + 1) : Nat) : Int)) = true := by
    simp only [decide_eq_true_eq]; exact ⟨by omega, by omega, by omega⟩
  have c2 : decide (0 ≤ ((l.length + 1 : Nat) : Int) ∧ ((l.length + 1 : Nat) : Int) ≤ ((l.length + (r.length + 1) : Nat) : Int) ∧ ((l.length + (r.length + 1) : Nat) : Int) ≤ ((l.length + (r.length + 1) : Nat) : Int)) = true := by
    simp only [decide_eq_true_eq]; exact ⟨by omega, by omega, by omega⟩
  have q1 : Int.toNat (l.length : Int) - Int.toNat (0 : Int) = l.length := by simp
  have q2 : Int.toNat ((l.length + (r.length + 1) : Nat) : Int) - Int.toNat ((l.length + 1 : Nat) : Int) = r.length := by rw [Int.toNat_natCast, Int.toNat_natCast]; omega
  have h54 := fun k => h b o b' o' (l ++ c :: r) c G k hB hC
  rw [e_bytes_Cut, hlen, h54, ← hlen, iv64, Option.bind_some, indexByte_at c l r hl, ge0, cond_true, w1, c1, c2, hB.cut, Bool.and_self, cond_true, cond_true, q1, q2]
  simp only [cutA, GA.add, Int.toNat_natCast, Nat.mul_one]
  rfl
theorem iLn (h : S50 O) {F : Nat} (b o : Nat) (l r : List UInt8) (G : GH) (k : IV → GH → Option R) (hB : By G b o (l ++ 10 :: r)) (hl : (10 : UInt8) ∉ l) (hn : l.length + r.length ≤ 1000000000) :
    bodyC Tryd.prog O [777777] F Tryd.f43 [.slice (some ⟨b, o⟩) (l.length + (r.length + 1))] G k = k (.tuple [.str l, .slice (some ⟨b, o + (l.length + 1)⟩) r.length, .bool true]) (gnew G [.int .u8 10] 5) := by
  have hb := hB.lt
  have k0 : Keeps G.length G (gnew G [.int .u8 10] 5) := keeps_new G _ 5 (Nat.le_refl _)
  have hB' := hB.keep k0 hb
  have hC : By (gnew G [.int .u8 10] 5) G.length 0 [10] := By.new G [10]
  have hm : gmark (gnew G [.int .u8 10] 5) (gaddr G).b = true := by simp [gmark, gnew, gaddr]
  have t3 : ∀ (x y z : IV), ivTup 3 (.tuple [x, y, z]) = some [x, y, z] := fun _ _ _ => rfl
  have g : gaddr G = ⟨G.length, 0⟩ := rfl
  rw [e_pfm_line, if_neg (by decide), hm, cond_true, g, h b o G.length 0 l r 10 _ _ hB' hl hn hC, t3, Option.bind_some]
  simp only [List.getD_cons_zero, List.getD_cons_succ]
  have s1 : ∀ (a : Option GA) (n : Nat), ivSlice (.slice a n) = some (a, n) := fun _ _ => rfl
  have s2 : ∀ b, ivBool (.bool b) = some b := fun _ => rfl
  rw [s1, Option.bind_some, s1, Option.bind_some, s2, Option.bind_some, hB'.left.str]
end
end Go.LI.Door
