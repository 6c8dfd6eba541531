/- Slices of whole numbers of this program. By program. -/
import Derived.Test.YtohhiibgjcbpiaaOwn
import Derived.Test.YtohhiibgjcbpiaaAgg
namespace Go.Proofs.Ytohhiibgjcbpiaa
instance Try.cellsInts : CellsOf Try.prog 47 3 (.int .i64 0) := ⟨Try.underlying47, by kernel_rfl, rfl⟩
end Go.Proofs.Ytohhiibgjcbpiaa
