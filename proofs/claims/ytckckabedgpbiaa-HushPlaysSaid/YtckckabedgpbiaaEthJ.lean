/- Contracts of package ether: printing. -/
import Derived.Test.YtckckabedgpbiaaEth0J
import Derived.Deep.RegionHeld3
set_option linter.unusedSimpArgs false
set_option linter.unusedVariables false
set_option maxRecDepth 4000
namespace Go.Proofs.Ytckckabedgpbiaa
open Go.RowKit
end Go.Proofs.Ytckckabedgpbiaa
