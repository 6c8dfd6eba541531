/- Contracts of the reference of chapter 6: the rest of a number of bytes. -/
import Derived.Test.YtakkicppgkmokaaGrVJ
import Derived.Test.YtakkicppgkmokaaJ9
import Derived.Test.YtakkicppgkmokaaCmpJ
import Derived.Lib.Hide
set_option linter.unusedSimpArgs false
set_option linter.unusedVariables false
namespace Go.Proofs.Ytakkicppgkmokaa
open Go.RowKit
theorem gDs_succ (t : List Nat) (n : Nat) : (List.range (n + 1)).map (gD t) = (List.range n).map (gD t) ++ [gD t n] := by simp [List.range_succ]
end Go.Proofs.Ytakkicppgkmokaa
