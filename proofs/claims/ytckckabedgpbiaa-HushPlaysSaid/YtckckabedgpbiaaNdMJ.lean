/- Messages as arguments; what is not printed. -/
import Derived.Test.YtckckabedgpbiaaJ29
import Derived.Test.YtckckabedgpbiaaFrameJ
set_option linter.unusedSimpArgs false
set_option linter.unusedVariables false
set_option maxRecDepth 4000
namespace Go.Proofs.Ytckckabedgpbiaa
open Go.ChangeShapes Go.WideShapes Go.ChangeAt Go.RowKit
section
variable (op : Int) (fr to ab : Vector UInt8 16) (mac : Vector UInt8 6) (has : Bool) (fl : Vector UInt8 4) (w : World)
end
end Go.Proofs.Ytckckabedgpbiaa
