/- Slices of bytes and of numbers of this program. By program. -/
import Derived.Test.YtjeclimoknilcaaOwn
import Derived.Test.YtjeclimoknilcaaAgg
namespace Go.Proofs.Ytjeclimoknilcaa
instance Try.cellsBytes : CellsOf Try.prog 34 5 (.int .u8 0) := ⟨Try.underlying34, by kernel_rfl, rfl⟩
instance Try.cellsInts : CellsOf Try.prog 71 3 (.int .i64 0) := ⟨Try.underlying71, by kernel_rfl, rfl⟩
end Go.Proofs.Ytjeclimoknilcaa
