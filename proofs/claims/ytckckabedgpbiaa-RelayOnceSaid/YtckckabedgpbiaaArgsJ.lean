/- Numbers and bools as arguments. No program in sight. -/
import Derived.Test.YtckckabedgpbiaaFrameJ
set_option linter.unusedSimpArgs false
set_option linter.unusedVariables false
namespace Go.Proofs.Ytckckabedgpbiaa
theorem open_intW {P : Program} {t : TypeId} {k : IntKind} (hu : P.underlying t = some (.int k)) {w : World} {r : Reach} {base : Nat} {v : Value} (h : Value.okWide P w r base t v) : ∃ n, v = .int k n ∧ k.has n := by
 unfold Value.okWide at h
 rw [hu] at h
 simp only [Cell.okWide, hu, Cell.ok] at h
 cases v <;> simp_all
end Go.Proofs.Ytckckabedgpbiaa
