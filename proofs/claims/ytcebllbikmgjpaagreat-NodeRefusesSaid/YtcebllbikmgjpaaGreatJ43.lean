/- Texts of this proof, merged: GrE, GrM, EdwK. -/
import Derived.Test.YtcebllbikmgjpaaGreatJ24
import Derived.Test.YtcebllbikmgjpaaGreatJ39
import Derived.Test.YtcebllbikmgjpaaGreatJ40
import Derived.Test.YtcebllbikmgjpaaGreatJ42
set_option linter.unusedSimpArgs false
set_option linter.unusedVariables false
set_option maxHeartbeats 8000000
set_option maxRecDepth 20000
namespace Go.Proofs.YtcebllbikmgjpaaGreat
section
open Go.RowKit
end
section
open Go.RowKit
structure LadB where
 x : Nat
 z : Nat
 w : Nat
 t : Nat
attribute [local irreducible] pB pN
end
section
instance pB_ne : NeZero pB := ⟨by decide⟩
def eF (a : Nat) : Fin pB := Fin.ofNat pB a
def cE : Fin pB := eF 121665
attribute [local irreducible] pB
end
end Go.Proofs.YtcebllbikmgjpaaGreat
