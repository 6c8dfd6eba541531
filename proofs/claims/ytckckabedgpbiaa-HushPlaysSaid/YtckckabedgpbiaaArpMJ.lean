/- Questions and answers printed and parsed; addresses as arguments. -/
import Derived.Test.YtckckabedgpbiaaArpFJ
import Derived.Test.YtckckabedgpbiaaFrameJ
set_option linter.unusedSimpArgs false
set_option linter.unusedVariables false
set_option maxRecDepth 4000
namespace Go.Proofs.Ytckckabedgpbiaa
open Go.ChangeShapes Go.WideShapes Go.ChangeAt Go.RowKit
theorem parse_printed (op : Nat) (mac tgt : Vector UInt8 6) (ip want : Vector UInt8 4) (w : World) (hop : op = 1 ∨ op = 2) :
  Calls Try.prog 43 #[.string ⟨(arpS op mac tgt ip want).toArray⟩] w fun e w' => e = .returned (.tuple #[.agg (arpV op mac tgt ip want).toArray, .int .i64 0]) ∧ Below w.heap.size w w' := by
 have := parse_print op mac tgt ip want [] w hop (by simp)
 rwa [List.append_nil] at this
end Go.Proofs.Ytckckabedgpbiaa
