/- Orders that come to one end: what follows a region is shown once, for whatever two blocks it made. -/
import Derived.Test.YthnjkpecnaglhaaMem
import Derived.Deep.RegionHeld3
set_option linter.unusedSimpArgs false
set_option linter.unusedVariables false
namespace Go.Proofs.Ythnjkpecnaglhaa
open Go.RowKit
theorem wp_join2 {P : Program} {c : Code} {Q : Exit → Act → World → Prop} {a : Act} {w : World} {f : Nat → Nat → Act} (F : Nat → Nat → World → Prop)
    (h1 : c.wp P (fun e a' w' => e = .normal ∧ ∃ A1 A2, a' = f A1 A2 ∧ F A1 A2 w') a w) (h2 : ∀ A1 A2 w', F A1 A2 w' → Q .normal (f A1 A2) w') : c.wp P Q a w := by
  refine Go.wp_mono h1 ?_
  rintro e a' w' ⟨rfl, A1, A2, rfl, h⟩
  exact h2 A1 A2 w' h
end Go.Proofs.Ythnjkpecnaglhaa
