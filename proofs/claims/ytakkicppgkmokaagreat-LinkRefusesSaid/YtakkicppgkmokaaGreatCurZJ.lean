/- Package curve: the examples that the statements' awake asks for, computed. -/
import Derived.Test.YtakkicppgkmokaaGreatJ33
import Derived.Test.YtakkicppgkmokaaGreatCurPJ
import Derived.Test.YtakkicppgkmokaaGreatFrame
set_option linter.unusedSimpArgs false
set_option linter.unusedVariables false
namespace Go.Proofs.YtakkicppgkmokaaGreat
open Go.RowKit
def z32 : List UInt8 := List.replicate 32 0
theorem u8s_z32 : u8s z32 = zeros 32 (.int .u8 0) := by simp [u8s, z32, zeros]
theorem Lad.eq_of {s t : Lad} (h1 : s.ax = t.ax) (h2 : s.az = t.az) (h3 : s.bx = t.bx) (h4 : s.bz = t.bz) : s = t := by
  cases s; cases t
  simp_all
theorem upTo_fix {α : Type} {f : Nat → α → α} {s x : α} {m : Nat} (h0 : upTo f m s = x) (n : Nat) (hf : ∀ k, m ≤ k → k < n → f k x = x) : ∀ k, m ≤ k → k ≤ n → upTo f k s = x := by
  intro k
  induction k with
  | zero => intro h1 _; rw [show m = 0 by omega] at h0; exact h0
  | succ k ih =>
    intro h1 h2
    by_cases hk : m = k + 1
    · rw [← hk]; exact h0
    · rw [upTo, ih (by omega) (by omega), hf k (by omega) (by omega)]
def pCL : List Int := [65498, 65535, 65535, 65535, 65535, 65535, 65535, 65535, 65535, 65535, 65535, 65535, 65535, 65535, 65535, 65535]
def lad2 : Lad := ⟨pCL, zeroL, pCL, zeroL⟩
theorem ofL_z : ofL z32 = zeroL := by decide +kernel
theorem lad2_eq : upTo (ladF (clampL z32) zeroL) 2 (lad0 zeroL) = lad2 := Lad.eq_of (by decide +kernel) (by decide +kernel) (by decide +kernel) (by decide +kernel)
theorem lad2_step : lad2.step zeroL = lad2 := Lad.eq_of (by decide +kernel) (by decide +kernel) (by decide +kernel) (by decide +kernel)
theorem bits_z : ∀ k : Fin 253, bitN (clampL z32) k.val = false := by decide +kernel
theorem lad_z : ladL (clampL z32) zeroL = lad2 := by
  unfold ladL
  refine upTo_fix lad2_eq 255 (fun k h1 h2 => ?_) 255 (by omega) (by omega)
  unfold ladF
  have := bits_z ⟨254 - k, by omega⟩
  simp only at this
  rw [this, if_neg (by decide)]
  exact lad2_step
theorem inv_z : invL zeroL = zeroL := by
  unfold invL
  refine upTo_fix (m := 0) (x := zeroL) rfl 254 (fun k h1 h2 => ?_) 254 (by omega) (by omega)
  have h : timesL zeroL zeroL = zeroL := by decide +kernel
  unfold invF
  rw [h, h]
  split <;> rfl
theorem shared_z : sharedK z32 z32 = z32 := by
  rw [sharedK, ofL_z, lad_z]
  show keyL (timesL pCL (invL zeroL)) = z32
  rw [inv_z]
  decide +kernel
theorem mul35 : mulK (3 :: List.replicate 31 0) (5 :: List.replicate 31 0) = 15 :: List.replicate 31 0 := by decide +kernel
@[go_sem] theorem u8lit1 : (Value.int .u8 1 :: (zeros 32 (Value.int .u8 0)).tail) = u8s k1 := rfl
@[simp] theorem ceq_z (a : List UInt8) (h : a.length = 32) : ceq (u8s a) (zeros 32 (.int .u8 0)) = (a == z32) := by rw [← u8s_z32]; exact ceq_u8s _ _ (by rw [h]; rfl)
@[go_sem] theorem u8lit3 : (Value.int .u8 3 :: (zeros 32 (Value.int .u8 0)).tail) = u8s (3 :: List.replicate 31 0) := rfl
@[go_sem] theorem u8lit5 : (Value.int .u8 5 :: (zeros 32 (Value.int .u8 0)).tail) = u8s (5 :: List.replicate 31 0) := rfl
@[go_sem] theorem u8lit9 : (Value.int .u8 9 :: (zeros 32 (Value.int .u8 0)).tail) = u8s (9 :: List.replicate 31 0) := rfl
@[go_sem] theorem u8lit15 : (Value.int .u8 15 :: (zeros 32 (Value.int .u8 0)).tail) = u8s (15 :: List.replicate 31 0) := rfl
end Go.Proofs.YtakkicppgkmokaaGreat
