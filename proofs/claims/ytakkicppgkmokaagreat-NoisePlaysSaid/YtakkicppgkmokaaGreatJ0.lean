/- Texts of this proof, merged: Plain, Fer. -/
import Derived.WalkKit
import Derived.Lib.Hide
set_option linter.unusedSimpArgs false
set_option linter.unusedVariables false
namespace Go.Proofs.YtakkicppgkmokaaGreat
section
open Go.RowKit
def bytesN (n size : Nat) : List UInt8 := (List.range size).map fun k => UInt8.ofNat (n / 256 ^ (size - 1 - k))
@[simp] theorem bytesN_length (n size : Nat) : (bytesN n size).length = size := by simp [bytesN]
theorem wraps_i64 (n : Int) (h₀ : 0 ≤ n) (h₁ : n < 2 ^ 63) : IntKind.i64.wrap n = n := by rw [IntKind.wrap_i64]; omega
end
section
set_option linter.unusedVariables false
end
end Go.Proofs.YtakkicppgkmokaaGreat
