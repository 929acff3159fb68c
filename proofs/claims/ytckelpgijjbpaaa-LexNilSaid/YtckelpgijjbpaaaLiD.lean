/- The quiet operations, second part: arithmetic, comparisons, conversions. -/
import Derived.Test.YtckelpgijjbpaaaLiE
namespace Go.LI
open Go Go.RowKit

theorem run_v {P : Program} {w w' : World} {s : Sem Value} {v : Value} (h : s.run P w = .ok v w') : (do pure (Next.value (← s)) : Sem Next).run P w = .ok (.value v) w' := by
  simp [h]

section
variable {P : Program} {w : World}


theorem run_guard_int (op : BinOp) (t : TypeId) (x y : Operand) (k k' : IntKind) (n n' : Int) : (eqGuard op t x y (.int k n) (.int k' n')).run P w = .ok () w := by
  cases op <;> simp [eqGuard]
theorem run_guard_float (op : BinOp) (t : TypeId) (x y : Operand) (k k' : FloatKind) (n n' : Nat) : (eqGuard op t x y (.float k n) (.float k' n')).run P w = .ok () w := by
  cases op <;> simp [eqGuard]
theorem run_guard_str (op : BinOp) (t : TypeId) (x y : Operand) (n n' : ByteArray) : (eqGuard op t x y (.string n) (.string n')).run P w = .ok () w := by
  cases op <;> simp [eqGuard]
theorem run_guard_bool (op : BinOp) (t : TypeId) (x y : Operand) (n n' : Bool) : (eqGuard op t x y (.bool n) (.bool n')).run P w = .ok () w := by
  cases op <;> simp [eqGuard]
theorem run_guard_ptr (op : BinOp) (t : TypeId) (x y : Operand) (n n' : Option Addr) : (eqGuard op t x y (.pointer n) (.pointer n')).run P w = .ok () w := by
  cases op <;> simp [eqGuard]
theorem run_guard_slice (op : BinOp) (t : TypeId) (x y : Operand) (n n' : Option Addr) (a b c d : Nat) : (eqGuard op t x y (.slice n a b) (.slice n' c d)).run P w = .ok () w := by
  cases op <;> simp [eqGuard]

theorem run_equal_bool {t : TypeId} (h : P.underlying t = some .bool) (a b : Bool) : (Op.equal t (.bool a) (.bool b)).run P w = .ok (a == b) w := by
  show (Op.equalIn (9999 + 1) t _ _).run P w = _
  generalize 9999 = d
  simp [Op.equalIn, run_und h]
theorem run_equal_ptr_nil {t e : TypeId} (h : P.underlying t = some (.pointer e)) (a : Option Addr) : (Op.equal t (.pointer a) (.pointer none)).run P w = .ok a.isNone w := by
  show (Op.equalIn (9999 + 1) t _ _).run P w = _
  generalize 9999 = d
  cases a <;> simp [Op.equalIn, run_und h]
theorem run_equal_nil_ptr {t e : TypeId} (h : P.underlying t = some (.pointer e)) (a : Option Addr) : (Op.equal t (.pointer none) (.pointer a)).run P w = .ok a.isNone w := by
  show (Op.equalIn (9999 + 1) t _ _).run P w = _
  generalize 9999 = d
  cases a <;> simp [Op.equalIn, run_und h]
theorem run_equal_slice_nil' {t e : TypeId} (h : P.underlying t = some (.slice e)) (a : Option Addr) (n c x y : Nat) : (Op.equal t (.slice a n c) (.slice none x y)).run P w = .ok a.isNone w := by
  show (Op.equalIn (9999 + 1) t _ _).run P w = _
  generalize 9999 = d
  cases a <;> simp [Op.equalIn, run_und h]
theorem run_eql_bool {t : TypeId} (h : P.underlying t = some .bool) (a b : Bool) : (binOp .eql t (.bool a) (.bool b)).run P w = .ok (.bool (a == b)) w := by
  simp only [binOp, Sem.run_bind, run_equal_bool h, Result.andThen_ok, Sem.run_pure]
theorem run_neq_bool {t : TypeId} (h : P.underlying t = some .bool) (a b : Bool) : (binOp .neq t (.bool a) (.bool b)).run P w = .ok (.bool (!(a == b))) w := by
  simp only [binOp, Sem.run_bind, run_equal_bool h, Result.andThen_ok, Sem.run_pure]
theorem run_eql_pn {t e : TypeId} (h : P.underlying t = some (.pointer e)) (a : Option Addr) : (binOp .eql t (.pointer a) (.pointer none)).run P w = .ok (.bool a.isNone) w := by
  cases a <;> simp only [binOp, Sem.run_bind, run_equal_ptr_nil h, Result.andThen_ok, Sem.run_pure]
theorem run_neq_pn {t e : TypeId} (h : P.underlying t = some (.pointer e)) (a : Option Addr) : (binOp .neq t (.pointer a) (.pointer none)).run P w = .ok (.bool (!a.isNone)) w := by
  cases a <;> simp only [binOp, Sem.run_bind, run_equal_ptr_nil h, Result.andThen_ok, Sem.run_pure]
theorem run_eql_np {t e : TypeId} (h : P.underlying t = some (.pointer e)) (a : Option Addr) : (binOp .eql t (.pointer none) (.pointer a)).run P w = .ok (.bool a.isNone) w := by
  cases a <;> simp only [binOp, Sem.run_bind, run_equal_nil_ptr h, Result.andThen_ok, Sem.run_pure]
theorem run_neq_np {t e : TypeId} (h : P.underlying t = some (.pointer e)) (a : Option Addr) : (binOp .neq t (.pointer none) (.pointer a)).run P w = .ok (.bool (!a.isNone)) w := by
  cases a <;> simp only [binOp, Sem.run_bind, run_equal_nil_ptr h, Result.andThen_ok, Sem.run_pure]
theorem run_eql_sn {t e : TypeId} (h : P.underlying t = some (.slice e)) (a : Option Addr) (n c x y : Nat) : (binOp .eql t (.slice a n c) (.slice none x y)).run P w = .ok (.bool a.isNone) w := by
  simp only [binOp, Sem.run_bind, run_equal_slice_nil' h, Result.andThen_ok, Sem.run_pure]
theorem run_neq_sn {t e : TypeId} (h : P.underlying t = some (.slice e)) (a : Option Addr) (n c x y : Nat) : (binOp .neq t (.slice a n c) (.slice none x y)).run P w = .ok (.bool (!a.isNone)) w := by
  simp only [binOp, Sem.run_bind, run_equal_slice_nil' h, Result.andThen_ok, Sem.run_pure]

end

section
variable {R : Type} {P : Program} {m : Map} {F : List (List IV)} {G : GH} {w : World} {O : Ora R} {lo : List Nat} {sand : Bool} {o : Oper} {env : List IV} {a : Act} {k : IV → List (List IV) → GH → Option R} {r : R}

/-- What a comparison or a sum comes to, of related values. -/
theorem bin_rel {R : Type} {op : BinOp} {t : TypeId} {x y : IV} {k : IV → Option R} {r : R} {vx vy : Value} (ox oy : Operand) (h : binC P op t x y k = some r) (hx : VRel m x vx) (hy : VRel m y vy) :
    ∃ v v', (∀ w : World, (do eqGuard op t ox oy vx vy; binOp op t vx vy : Sem Value).run P w = .ok v' w) ∧ VRel m v v' ∧ k v = some r := by
  unfold binC at h
  split at h
  · rename_i kx a ky b
    cases hx; cases hy
    split at h
    · by_cases hb : b < 0
      · simp [hb] at h
      · rw [show decide (b < 0) = false by simp [hb]] at h
        exact ⟨_, _, fun w => by simp [run_guard_int, binOp, Op.shift, hb, shlI], .int kx _, h⟩
    · by_cases hb : b < 0
      · simp [hb] at h
      · rw [show decide (b < 0) = false by simp [hb]] at h
        exact ⟨_, _, fun w => by simp [run_guard_int, binOp, Op.shift, hb, shrI], .int kx _, h⟩
    · split at h
      · rename_i hk
        subst hk
        split at h
        · exact ⟨_, _, fun w => by simp [run_guard_int, binOp, Op.intArith], .int kx _, h⟩
        · exact ⟨_, _, fun w => by simp [run_guard_int, binOp, Op.intArith], .int kx _, h⟩
        · exact ⟨_, _, fun w => by simp [run_guard_int, binOp, Op.intArith], .int kx _, h⟩
        · by_cases hb : b = 0
          · simp [hb] at h
          · rw [show (b == 0) = false by simp [hb]] at h
            exact ⟨_, _, fun w => by simp [run_guard_int, binOp, Op.intDiv, hb], .int kx _, h⟩
        · by_cases hb : b = 0
          · simp [hb] at h
          · rw [show (b == 0) = false by simp [hb]] at h
            exact ⟨_, _, fun w => by simp [run_guard_int, binOp, Op.intDiv, hb], .int kx _, h⟩
        · exact ⟨_, _, fun w => by simp [run_guard_int, binOp, Op.intBits, andI], .int kx _, h⟩
        · exact ⟨_, _, fun w => by simp [run_guard_int, binOp, Op.intBits, orI], .int kx _, h⟩
        · exact ⟨_, _, fun w => by simp [run_guard_int, binOp, Op.intBits, xorI], .int kx _, h⟩
        · exact ⟨_, _, fun w => by simp [run_guard_int, binOp, Op.intBits, notI], .int kx _, h⟩
        · exact ⟨_, _, fun w => by simp [run_guard_int, binOp, Op.intCmp], .bool _, h⟩
        · exact ⟨_, _, fun w => by simp [run_guard_int, binOp, Op.intCmp], .bool _, h⟩
        · exact ⟨_, _, fun w => by simp [run_guard_int, binOp, Op.intCmp], .bool _, h⟩
        · exact ⟨_, _, fun w => by simp [run_guard_int, binOp, Op.intCmp], .bool _, h⟩
        · exact ⟨_, _, fun w => by simp [run_guard_int, binOp, Op.intCmp], .bool _, h⟩
        · exact ⟨_, _, fun w => by simp [run_guard_int, binOp, Op.intCmp], .bool _, h⟩
        · cases h
      · cases h
  · rename_i kx a ky b
    cases hx; cases hy
    split at h
    · rename_i hk
      subst hk
      split at h
      · split at h
        · rename_i q hq; exact ⟨_, _, fun w => by simp [run_guard_float, binOp, Op.floatArith, hq], .float kx _, h⟩
        · cases h
      · split at h
        · rename_i q hq; exact ⟨_, _, fun w => by simp [run_guard_float, binOp, Op.floatArith, hq], .float kx _, h⟩
        · cases h
      · split at h
        · rename_i q hq; exact ⟨_, _, fun w => by simp [run_guard_float, binOp, Op.floatArith, hq], .float kx _, h⟩
        · cases h
      · split at h
        · rename_i q hq; exact ⟨_, _, fun w => by simp [run_guard_float, binOp, Op.floatArith, hq], .float kx _, h⟩
        · cases h
      · exact ⟨_, _, fun w => by simp [run_guard_float, binOp, Op.floatCmp, feq], .bool _, h⟩
      · exact ⟨_, _, fun w => by simp [run_guard_float, binOp, Op.floatCmp, feq, bne], .bool _, h⟩
      · exact ⟨_, _, fun w => by simp [run_guard_float, binOp, Op.floatCmp, flt], .bool _, h⟩
      · exact ⟨_, _, fun w => by simp [run_guard_float, binOp, Op.floatCmp, fle], .bool _, h⟩
      · exact ⟨_, _, fun w => by simp [run_guard_float, binOp, Op.floatCmp, fgt], .bool _, h⟩
      · exact ⟨_, _, fun w => by simp [run_guard_float, binOp, Op.floatCmp, fge], .bool _, h⟩
      · cases h
    · cases h
  · rename_i a b
    cases hx; cases hy
    have ha : (⟨⟨a⟩⟩ : ByteArray).toList = a := ByteArray.toList_eq _
    have hb : (⟨⟨b⟩⟩ : ByteArray).toList = b := ByteArray.toList_eq _
    split at h
    · by_cases hl : a.length + b.length ≤ roomS
      · rw [show decide (a.length + b.length ≤ roomS) = true by simp [hl]] at h
        have e1 : (⟨⟨a⟩⟩ : ByteArray).size = a.length := rfl
        have e2 : (⟨⟨b⟩⟩ : ByteArray).size = b.length := rfl
        have e3 : ((⟨⟨a⟩⟩ : ByteArray) ++ ⟨⟨b⟩⟩) = ⟨⟨a ++ b⟩⟩ := by
          apply ByteArray.ext; apply Array.ext'; simp [ByteArray.data_append]
        have e4 : ¬ (((a.length + b.length : Nat) : Int) > IntKind.i64.max) := by
          have : (IntKind.i64.max) = 9223372036854775807 := by decide
          rw [this]; unfold roomS at hl; omega
        exact ⟨_, .string ⟨⟨a ++ b⟩⟩, fun w => by simp only [Sem.run_bind, run_guard_str, Result.andThen_ok, binOp, Op.stringOp, e1, e2, e4, if_false, e3, Sem.run_pure], .str _, h⟩
      · rw [show decide (a.length + b.length ≤ roomS) = false by simp [hl]] at h
        cases h
    · exact ⟨_, _, fun w => by simp only [Sem.run_bind, run_guard_str, Result.andThen_ok, binOp, Op.stringOp, ha, hb, Sem.run_pure], .bool _, h⟩
    · exact ⟨_, _, fun w => by simp only [Sem.run_bind, run_guard_str, Result.andThen_ok, binOp, Op.stringOp, ha, hb, Sem.run_pure], .bool _, h⟩
    · exact ⟨_, _, fun w => by simp only [Sem.run_bind, run_guard_str, Result.andThen_ok, binOp, Op.stringOp, ha, hb, Sem.run_pure], .bool _, h⟩
    · exact ⟨_, _, fun w => by simp only [Sem.run_bind, run_guard_str, Result.andThen_ok, binOp, Op.stringOp, ha, hb, Sem.run_pure], .bool _, h⟩
    · exact ⟨_, _, fun w => by simp only [Sem.run_bind, run_guard_str, Result.andThen_ok, binOp, Op.stringOp, ha, hb, Sem.run_pure], .bool _, h⟩
    · exact ⟨_, _, fun w => by simp only [Sem.run_bind, run_guard_str, Result.andThen_ok, binOp, Op.stringOp, ha, hb, Sem.run_pure], .bool _, h⟩
    · cases h
  · rename_i a b
    cases hx; cases hy
    split at h
    · rename_i hu; exact ⟨_, _, fun w => by simp only [Sem.run_bind, run_guard_bool, Result.andThen_ok, run_eql_bool hu], .bool _, h⟩
    · rename_i hu; exact ⟨_, _, fun w => by simp only [Sem.run_bind, run_guard_bool, Result.andThen_ok, run_neq_bool hu], .bool _, h⟩
    · cases h
  · rename_i a
    cases hy
    split at h
    · rename_i e hu
      cases hx <;> exact ⟨_, _, fun w => by simp only [Sem.run_bind, run_guard_ptr, Result.andThen_ok, run_eql_pn hu]; rfl, .bool _, h⟩
    · rename_i e hu
      cases hx <;> exact ⟨_, _, fun w => by simp only [Sem.run_bind, run_guard_ptr, Result.andThen_ok, run_neq_pn hu]; rfl, .bool _, h⟩
    · cases h
  · rename_i b _
    cases hx
    split at h
    · rename_i e hu
      cases hy <;> exact ⟨_, _, fun w => by simp only [Sem.run_bind, run_guard_ptr, Result.andThen_ok, run_eql_np hu]; rfl, .bool _, h⟩
    · rename_i e hu
      cases hy <;> exact ⟨_, _, fun w => by simp only [Sem.run_bind, run_guard_ptr, Result.andThen_ok, run_neq_np hu]; rfl, .bool _, h⟩
    · cases h
  · rename_i a n b
    cases hy
    split at h
    · rename_i e hu
      cases hx <;> exact ⟨_, _, fun w => by simp only [Sem.run_bind, run_guard_slice, Result.andThen_ok, run_eql_sn hu]; rfl, .bool _, h⟩
    · rename_i e hu
      cases hx <;> exact ⟨_, _, fun w => by simp only [Sem.run_bind, run_guard_slice, Result.andThen_ok, run_neq_sn hu]; rfl, .bool _, h⟩
    · cases h
  · rename_i xs ys
    split at h
    · rename_i hc
      simp only [Bool.and_eq_true, Bool.not_eq_true'] at hc
      obtain ⟨⟨ha, hp⟩, hg⟩ := hc
      cases hx with
      | agg _ X hsx hx =>
        cases hy with
        | agg _ Y hsy hy =>
          have he : ∀ (b : Bool), eqLeaves (leaves P 20 t) xs ys = some b → ∀ w, (Op.equal t (.agg X) (.agg Y)).run P w = .ok b w := fun b hb w =>
            run_equal_plain ha hp hb (.agg xs X hsx hx) (.agg ys Y hsy hy)
          split at h
          · rename_i b hb
            exact ⟨.bool b, .bool b, fun w => by simp only [Sem.run_bind, run_eqGuard_agg w _ _ _ _ _ _ hg, Result.andThen_ok, binOp, he b hb, Sem.run_pure], .bool _, h⟩
          · rename_i b hb
            exact ⟨.bool !b, .bool !b, fun w => by simp only [Sem.run_bind, run_eqGuard_agg w _ _ _ _ _ _ hg, Result.andThen_ok, binOp, he b hb, Sem.run_pure], .bool _, h⟩
          · cases h
    · cases h
  · cases h

theorem q_binOp (hsf : (soft lo && !sand) = false) {op : BinOp} {t yt : TypeId} {x y : Operand} (ho : o.op = .binOp op t x y yt) (h : opC P O lo sand o env F G k = some r) (hE : ERel m env a.tmps) : QuietOk P m o a w F G k r := by
  simp only [opC, ho] at h
  split at h
  · rename_i vx vy hx hy
    rw [hsf] at h
    simp only [Bool.false_eq_true, if_false] at h
    obtain ⟨v, v', h1, h2, h3⟩ := bin_rel x y h (ev_rel hE hx) (ev_rel hE hy)
    refine ⟨v, v', fun w' _ => ?_, h2, h3⟩
    have := h1 w'
    simp only [execOp, ho]
    exact run_v this
  · cases h

end
end Go.LI
