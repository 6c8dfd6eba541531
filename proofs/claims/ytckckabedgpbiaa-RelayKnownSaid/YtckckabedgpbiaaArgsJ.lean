/- Numbers and bools as arguments. No program in sight. -/
import Derived.Test.YtckckabedgpbiaaJ7
set_option linter.unusedSimpArgs false
set_option linter.unusedVariables false
namespace Go.Proofs.Ytckckabedgpbiaa
theorem open_intW {P : Program} {t : TypeId} {k : IntKind} (hu : P.underlying t = some (.int k)) {w : World} {r : Reach} {base : Nat} {v : Value} (h : Value.okWide P w r base t v) : ∃ n, v = .int k n ∧ k.has n := by
 unfold Value.okWide at h
 rw [hu] at h
 simp only [Cell.okWide, hu, Cell.ok] at h
 cases v <;> simp_all
theorem open_u8W {P : Program} {t : TypeId} (hu : P.underlying t = some (.int .u8)) {w : World} {r : Reach} {base : Nat} {v : Value} (h : Value.okWide P w r base t v) : ∃ n : Nat, v = .int .u8 (n : Int) ∧ n < 256 := by
 obtain ⟨n, rfl, h1, h2⟩ := open_intW hu h
 have h1' : 0 ≤ n := h1
 have h2' : n ≤ 255 := h2
 exact ⟨n.toNat, by rw [Int.toNat_of_nonneg h1'], by omega⟩
end Go.Proofs.Ytckckabedgpbiaa
