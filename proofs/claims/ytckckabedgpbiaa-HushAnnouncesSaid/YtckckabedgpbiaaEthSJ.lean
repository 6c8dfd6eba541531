/- Contracts of package ether: a tag, and a body, taken. -/
import Derived.Test.YtckckabedgpbiaaEthRJ
set_option linter.unusedSimpArgs false
set_option linter.unusedVariables false
set_option maxRecDepth 4000
namespace Go.Proofs.Ytckckabedgpbiaa
open Go.RowKit
section
variable (X R : Nat) (dst src : Vector UInt8 6) (l : List UInt8) (n : Nat) (v p : Int) (w : World)
end
end Go.Proofs.Ytckckabedgpbiaa
