/- Functions without a Go body: what the model says of them. -/
import Derived.Test.YtckelpgijjbpaaaLiM
import Derived.KernelRfl
set_option linter.unusedVariables false
namespace Go.LI
open Go Go.RowKit

section
variable {R : Type} {P : Program} {B K : Nat → Prop} {w0 : World} {m : Map} {G : GH} {w : World} {r : R} {fn : Func}

theorem find_f64bits (h : fn.name = "math.Float64bits") (ho : fn.origin = "") : Extern.findNext fn = none ∧ Extern.find fn = some Extern.MathFloatBits.float64bits := by
  unfold Extern.findNext Extern.find
  rw [h, ho]
  exact ⟨by kernel_rfl, by kernel_rfl⟩
theorem find_f64from (h : fn.name = "math.Float64frombits") (ho : fn.origin = "") : Extern.findNext fn = none ∧ Extern.find fn = some Extern.MathFloatBits.float64frombits := by
  unfold Extern.findNext Extern.find
  rw [h, ho]
  exact ⟨by kernel_rfl, by kernel_rfl⟩
theorem find_f32bits (h : fn.name = "math.Float32bits") (ho : fn.origin = "") : Extern.findNext fn = none ∧ Extern.find fn = some Extern.MathFloatBits.float32bits := by
  unfold Extern.findNext Extern.find
  rw [h, ho]
  exact ⟨by kernel_rfl, by kernel_rfl⟩
theorem find_f32from (h : fn.name = "math.Float32frombits") (ho : fn.origin = "") : Extern.findNext fn = none ∧ Extern.find fn = some Extern.MathFloatBits.float32frombits := by
  unfold Extern.findNext Extern.find
  rw [h, ho]
  exact ⟨by kernel_rfl, by kernel_rfl⟩
theorem find_add64 (h : fn.name = "math/bits.Add64") (ho : fn.origin = "") : Extern.findNext fn = none ∧ Extern.find fn = some (fun args => do
    let (x, y, c) ← Extern.MathBitsCarry.three "Add64" args
    pure (Extern.MathBitsCarry.pair ((x + y + c) % Extern.MathBitsCarry.m64) ((x + y + c) / Extern.MathBitsCarry.m64))) := by
  unfold Extern.findNext Extern.find
  rw [h, ho]
  exact ⟨by kernel_rfl, by kernel_rfl⟩
theorem find_sub64 (h : fn.name = "math/bits.Sub64") (ho : fn.origin = "") : Extern.findNext fn = none ∧ Extern.find fn = some (fun args => do
    let (x, y, b) ← Extern.MathBitsCarry.three "Sub64" args
    pure (Extern.MathBitsCarry.pair ((x + Extern.MathBitsCarry.m64 - y - b) % Extern.MathBitsCarry.m64) (if x < y + b then 1 else 0))) := by
  unfold Extern.findNext Extern.find
  rw [h, ho]
  exact ⟨by kernel_rfl, by kernel_rfl⟩
theorem find_floor (h : fn.name = "math.archFloor") (ho : fn.origin = "") : Extern.findNext fn = none ∧ Extern.find fn = some (Extern.MathFloor.toIntegral "math.archFloor" .down) := by
  unfold Extern.findNext Extern.find
  rw [h, ho]
  exact ⟨by kernel_rfl, by kernel_rfl⟩
theorem find_index (h : fn.name = "internal/bytealg.IndexByteString") (ho : fn.origin = "") : Extern.findNext fn = none ∧ Extern.find fn = some Extern.BytealgIndexByte.indexByte := by
  unfold Extern.findNext Extern.find
  rw [h, ho]
  exact ⟨by kernel_rfl, by kernel_rfl⟩
theorem find_count (h : fn.name = "internal/bytealg.CountString") (ho : fn.origin = "") : Extern.findNext fn = none ∧ Extern.find fn = some Extern.BytealgCount.count := by
  unfold Extern.findNext Extern.find
  rw [h, ho]
  exact ⟨by kernel_rfl, by kernel_rfl⟩

/-- Such a call, in the model. -/
theorem run_extern {f : FuncId} {args' : Array Value} {e : Array Value → Sem Value} {v' : Value} (hf : P.funcs[f]? = some fn) (hn : (fn.name == "runtime.NumGoroutine") = false) (hb : fn.body = none)
    (hx : Extern.findNext fn = none ∧ Extern.find fn = some e) (hr : (e args').run P w = .ok v' w) : (callFunc f args').run P w = .ok (.value v') w := by
  have hn' : ¬ fn.name = "runtime.NumGoroutine" := by simpa using hn
  simp [callFunc, hf, hn', hb, hx.1, hx.2, hr]

theorem arel1 {a : IV} {args' : Array Value} (h : ARel m [a] args') : ∃ x, args' = #[x] ∧ VRel m a x := by
  obtain ⟨hs, hv⟩ := h
  obtain ⟨l⟩ := args'
  match l, hs with
  | [x], _ => exact ⟨x, rfl, hv 0 a x rfl rfl⟩
theorem arel2 {a b : IV} {args' : Array Value} (h : ARel m [a, b] args') : ∃ x y, args' = #[x, y] ∧ VRel m a x ∧ VRel m b y := by
  obtain ⟨hs, hv⟩ := h
  obtain ⟨l⟩ := args'
  match l, hs with
  | [x, y], _ => exact ⟨x, y, rfl, hv 0 a x rfl rfl, hv 1 b y rfl rfl⟩
theorem arel3 {a b c : IV} {args' : Array Value} (h : ARel m [a, b, c] args') : ∃ x y z, args' = #[x, y, z] ∧ VRel m a x ∧ VRel m b y ∧ VRel m c z := by
  obtain ⟨hs, hv⟩ := h
  obtain ⟨l⟩ := args'
  match l, hs with
  | [x, y, z], _ => exact ⟨x, y, z, rfl, hv 0 a x rfl rfl, hv 1 b y rfl rfl, hv 2 c z rfl rfl⟩

theorem vrel_pair (m : Map) (a b : Int) : VRel m (.tuple [.int .u64 a, .int .u64 b]) (.tuple #[.int .u64 a, .int .u64 b]) := .tuple _ _ rfl fun i iv v h1 h2 => by
  match i with
  | 0 => simp at h1 h2; subst h1; subst h2; exact .int _ _
  | 1 => simp at h1 h2; subst h1; subst h2; exact .int _ _
  | i + 2 => simp at h1

/-- What an extern gives the model's call gives. -/
def ExOut (P : Program) (fn : Func) (args : List IV) (G : GH) (k : IV → GH → Option R) (r : R) : Prop :=
  ∃ v, k v G = some r ∧ noLoc v = true ∧ ∃ e, (Extern.findNext fn = none ∧ Extern.find fn = some e) ∧ ∀ (m : Map) (w : World) (args' : Array Value), ARel m args args' → ∃ v', (e args').run P w = .ok v' w ∧ VRel m v v'

theorem run_three (name : String) (kx ky kc : IntKind) (x y c : Int) (hc : ¬ c.toNat > 1) (w : World) : (Extern.MathBitsCarry.three name #[.int kx x, .int ky y, .int kc c]).run P w = .ok (x.toNat, y.toNat, c.toNat) w := by
  have e : Extern.MathBitsCarry.three name #[.int kx x, .int ky y, .int kc c] = (if c.toNat > 1 then ((unsupported (.noEntry ("extern/math/bits." ++ name ++ ": a carry that is neither 0 nor 1")) : Sem PUnit) >>= fun _ => pure (x.toNat, y.toNat, c.toNat)) else pure (x.toNat, y.toNat, c.toNat)) := rfl
  rw [e, if_neg hc]
  rfl

/-- The floor of what is no NaN. -/
def floorF (x : Nat) (d : Ieee.Datum) : Sem Value :=
  match d with
  | .nan s t =>
    if FloatKind.f64.format.quiet t = t then pure (.float .f64 x) else
      choose (.extern "math.Floor,Ceil,Trunc,RoundToEven.signallingNaN kept" 2) >>= fun kept => pure (.float .f64 (if kept == 1 then x else FloatKind.f64.encode (.nan s (FloatKind.f64.format.quiet t))))
  | d => pure (.float .f64 (FloatKind.f64.encode (d.integral .down)))
theorem run_floor {x : Nat} (hd : ∀ s t, FloatKind.f64.decode x = .nan s t → False) (w : World) : (Extern.MathFloor.toIntegral "math.archFloor" .down #[.float .f64 x]).run P w = .ok (.float .f64 (FloatKind.f64.encode ((FloatKind.f64.decode x).integral .down))) w := by
  have e : Extern.MathFloor.toIntegral "math.archFloor" .down #[.float .f64 x] = floorF x (FloatKind.f64.decode x) := rfl
  rw [e]
  cases h : FloatKind.f64.decode x with
  | nan s t => exact (hd s t h).elim
  | number s m i => rfl
  | infinity s => rfl

theorem extern_out {args : List IV} {k : IV → GH → Option R} (h : externC fn args G k = some r) : ExOut P fn args G k r := by
  unfold externC at h
  split at h
  · rename_i ho
    split at h
    · rename_i hn
      split at h
      · exact ⟨_, h, rfl, _, find_f64bits hn ho, fun m w args' hA => by
          obtain ⟨x, rfl, hx⟩ := arel1 hA
          cases hx
          exact ⟨_, rfl, .int _ _⟩⟩
      · cases h
    split at h
    · rename_i hn
      split at h
      · exact ⟨_, h, rfl, _, find_f64from hn ho, fun m w args' hA => by
          obtain ⟨x, rfl, hx⟩ := arel1 hA
          cases hx
          exact ⟨_, rfl, .float _ _⟩⟩
      · cases h
    split at h
    · rename_i hn
      split at h
      · exact ⟨_, h, rfl, _, find_f32bits hn ho, fun m w args' hA => by
          obtain ⟨x, rfl, hx⟩ := arel1 hA
          cases hx
          exact ⟨_, rfl, .int _ _⟩⟩
      · cases h
    split at h
    · rename_i hn
      split at h
      · exact ⟨_, h, rfl, _, find_f32from hn ho, fun m w args' hA => by
          obtain ⟨x, rfl, hx⟩ := arel1 hA
          cases hx
          exact ⟨_, rfl, .float _ _⟩⟩
      · cases h
    split at h
    · rename_i hn
      split at h
      · split at h
        · cases h
        · rename_i hc
          exact ⟨_, h, rfl, _, find_add64 hn ho, fun m w args' hA => by
            obtain ⟨x, y, z, rfl, hx, hy, hz⟩ := arel3 hA
            cases hx; cases hy; cases hz
            refine ⟨_, ?_, vrel_pair m _ _⟩
            simp only [Sem.run_bind, run_three _ _ _ _ _ _ _ hc, Result.andThen_ok, Sem.run_pure]
            rfl⟩
      · cases h
    split at h
    · rename_i hn
      split at h
      · split at h
        · cases h
        · rename_i hc
          exact ⟨_, h, rfl, _, find_sub64 hn ho, fun m w args' hA => by
            obtain ⟨x, y, z, rfl, hx, hy, hz⟩ := arel3 hA
            cases hx; cases hy; cases hz
            refine ⟨_, ?_, vrel_pair m _ _⟩
            simp only [Sem.run_bind, run_three _ _ _ _ _ _ _ hc, Result.andThen_ok, Sem.run_pure]
            rfl⟩
      · cases h
    split at h
    · rename_i hn
      split at h
      · split at h
        · cases h
        · rename_i d hd
          exact ⟨_, h, rfl, _, find_floor hn ho, fun m w args' hA => by
            obtain ⟨x, rfl, hx⟩ := arel1 hA
            cases hx
            exact ⟨_, run_floor hd w, .float _ _⟩⟩
      · cases h
    split at h
    · rename_i hn
      split at h
      · exact ⟨_, h, rfl, _, find_index hn ho, fun m w args' hA => by
          obtain ⟨x, y, rfl, hx, hy⟩ := arel2 hA
          cases hx; cases hy
          exact ⟨_, Go.Lib.run_indexByteString _ _ w, .int _ _⟩⟩
      · cases h
    split at h
    · rename_i hn
      split at h
      · exact ⟨_, h, rfl, _, find_count hn ho, fun m w args' hA => by
          obtain ⟨x, y, rfl, hx, hy⟩ := arel2 hA
          cases hx; cases hy
          exact ⟨_, Go.Lib.run_countString _ _ w, .int _ _⟩⟩
      · cases h
    · cases h
  · cases h

theorem extern_sim {f : FuncId} (hf : P.funcs[f]? = some fn) (hn : (fn.name == "runtime.NumGoroutine") = false) (hb : fn.body = none) {args : List IV} {k : IV → GH → Option R} (h : externC fn args G k = some r) :
    ∃ v G', k v G' = some r ∧ noLoc v = true ∧ ∀ (B K : Nat → Prop) (w0 : World) (m : Map) (w : World) (args' : Array Value), (∀ i, m.f i = none) → ARel m args args' → HRel P B K w0 m [] G w →
      CallSim P f args' w fun v' w' => ∃ m', m.le m' ∧ (∀ i, m'.f i = none) ∧ HRel P B K w0 m' [] G' w' ∧ VRel m' v v' := by
  obtain ⟨v, h1, h2, e, h3, h4⟩ := extern_out (P := P) h
  refine ⟨v, G, h1, h2, fun B K w0 m w args' hmf hA hR => ?_⟩
  obtain ⟨v', q1, q2⟩ := h4 m w args' hA
  exact .inr ⟨v', run_extern hf hn hb h3 q1, m, m.le_refl, hmf, hR, q2⟩
end
end Go.LI
