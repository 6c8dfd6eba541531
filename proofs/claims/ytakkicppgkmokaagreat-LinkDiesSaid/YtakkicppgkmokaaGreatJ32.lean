/- Texts of this proof, merged: CurZ, CurC. -/
import Derived.Test.YtakkicppgkmokaaGreatJ28
import Derived.Test.YtakkicppgkmokaaGreatCurPJ
import Derived.Test.YtakkicppgkmokaaGreatJ31
set_option linter.unusedSimpArgs false
set_option linter.unusedVariables false
set_option maxRecDepth 4000
namespace Go.Proofs.YtakkicppgkmokaaGreat
section
open Go.RowKit
def z32 : List UInt8 := List.replicate 32 0
theorem u8s_z32 : u8s z32 = zeros 32 (.int .u8 0) := by simp [u8s, z32, zeros]
@[go_sem] theorem u8lit1 : (Value.int .u8 1 :: (zeros 32 (Value.int .u8 0)).tail) = u8s k1 := rfl
@[simp] theorem ceq_z (a : List UInt8) (h : a.length = 32) : ceq (u8s a) (zeros 32 (.int .u8 0)) = (a == z32) := by rw [← u8s_z32]; exact ceq_u8s _ _ (by rw [h]; rfl)
@[go_sem] theorem u8lit3 : (Value.int .u8 3 :: (zeros 32 (Value.int .u8 0)).tail) = u8s (3 :: List.replicate 31 0) := rfl
@[go_sem] theorem u8lit5 : (Value.int .u8 5 :: (zeros 32 (Value.int .u8 0)).tail) = u8s (5 :: List.replicate 31 0) := rfl
@[go_sem] theorem u8lit9 : (Value.int .u8 9 :: (zeros 32 (Value.int .u8 0)).tail) = u8s (9 :: List.replicate 31 0) := rfl
@[go_sem] theorem u8lit15 : (Value.int .u8 15 :: (zeros 32 (Value.int .u8 0)).tail) = u8s (15 :: List.replicate 31 0) := rfl
end
section
open Go.ChangeShapes Go.WideShapes Go.ChangeAt Go.RowKit
/-! ### plain: a secret's scalar -/
theorem open_key {W : World} {base : Nat} {v : Value} (h : Value.okWide Tryz.prog W .any base 23 v) : ∃ l : List UInt8, v = .agg (u8s l).toArray ∧ l.length = 32 := by
 obtain ⟨vs, hv, hg⟩ := open_plain (ls := leaves 32 (.int .u8) ++ []) Tryz.underlying23 (by kernel_rfl) (by kernel_rfl) (by kernel_rfl) h
 obtain ⟨m, r, e, hr⟩ := goods_u8 hg
 have := goods_nil hr
 subst this
 exact ⟨m.toList, by rw [hv, e, List.append_nil]; rfl, by simp⟩
end
end Go.Proofs.YtakkicppgkmokaaGreat
