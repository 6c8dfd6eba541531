/- Frames parsed and printed, right or wrong. -/
import Derived.Test.YtckckabedgpbiaaEthPJ
import Derived.Test.YtckckabedgpbiaaFrameJ
import Derived.Deep.OwnRows
set_option linter.unusedSimpArgs false
set_option linter.unusedVariables false
set_option maxRecDepth 4000
namespace Go.Proofs.Ytckckabedgpbiaa
open Go.ChangeShapes Go.WideShapes Go.ChangeAt Go.RowKit
@[simp, go_sem] theorem zeroEth_cells : zeros 12 (Value.int .u8 0) ++ Value.int .i64 0 :: Value.string ⟨#[]⟩ :: zeros 2 (Value.int .i64 0) = u8v mac0 ++ (u8v mac0 ++ [Value.int .i64 0, .string ⟨#[]⟩, .int .i64 0, .int .i64 0]) := rfl
end Go.Proofs.Ytckckabedgpbiaa
