/- Plain facts: a message with one byte changed; its sum is another. No walk here. -/
import Derived.Test.YtckckabedgpbiaaNdX3J
import Derived.Test.YtckckabedgpbiaaJ33
set_option linter.unusedSimpArgs false
set_option linter.unusedVariables false
set_option maxRecDepth 4000
namespace Go.Proofs.Ytckckabedgpbiaa
open Go.RowKit
end Go.Proofs.Ytckckabedgpbiaa
