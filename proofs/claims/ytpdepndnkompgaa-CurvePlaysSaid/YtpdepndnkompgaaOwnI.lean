/- Slices of whole numbers of this program. By program. -/
import Derived.Test.YtpdepndnkompgaaOwn
import Derived.Test.YtpdepndnkompgaaAgg
namespace Go.Proofs.Ytpdepndnkompgaa
instance Try.cellsInts : CellsOf Try.prog 47 3 (.int .i64 0) := ⟨Try.underlying47, by kernel_rfl, rfl⟩
end Go.Proofs.Ytpdepndnkompgaa
