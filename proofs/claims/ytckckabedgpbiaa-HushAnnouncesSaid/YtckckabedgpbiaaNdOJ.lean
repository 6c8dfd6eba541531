/- Contracts of package nd: printing. -/
import Derived.Test.YtckckabedgpbiaaNdVJ
import Derived.Test.YtckckabedgpbiaaRegJ
set_option linter.unusedSimpArgs false
set_option linter.unusedVariables false
set_option maxRecDepth 4000
namespace Go.Proofs.Ytckckabedgpbiaa
open Go.RowKit
def printS (fr to : Vector UInt8 16) (m : List UInt8) (sm : Nat) : List UInt8 := [96, 0, 0, 0] ++ (bytesN m.length 2 ++ ([58, 255] ++ (fr.toList ++ (to.toList ++ (m.take 2 ++ (bytesN sm 2 ++ m.drop 4))))))
def ndS (op : Nat) (fr to ab : Vector UInt8 16) (mac : Vector UInt8 6) (has : Bool) (fl : Vector UInt8 4) : List UInt8 :=
 printS fr to (msgS op [0, 0] ab mac has fl) (sumN op fr to ab mac has fl)
@[simp, go_sem] theorem zeros6 : zeros 6 (Value.int .u8 0) = u8v mac0 := rfl
end Go.Proofs.Ytckckabedgpbiaa
