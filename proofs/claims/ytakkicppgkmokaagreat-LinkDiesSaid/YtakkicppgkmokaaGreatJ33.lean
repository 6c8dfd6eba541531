/- Texts of this proof, merged: Edw, EdwG, EdwL. -/
import Derived.Test.YtakkicppgkmokaaGreatPlainJ
set_option linter.unusedSimpArgs false
set_option linter.unusedVariables false
namespace Go.Proofs.YtakkicppgkmokaaGreat
section
section
variable {n : Nat} [NeZero n]
theorem lin2 (L R q1 q2 e1 e2 : Fin n) (h : L - R = q1 * e1 + q2 * e2) (h1 : e1 = 0) (h2 : e2 = 0) : L = R := by
 subst h1 h2
 grind
theorem lin3 (L R q1 q2 q3 e1 e2 e3 : Fin n) (h : L - R = q1 * e1 + q2 * e2 + q3 * e3) (h1 : e1 = 0) (h2 : e2 = 0) (h3 : e3 = 0) : L = R := by
 subst h1 h2 h3
 grind
theorem rx (d x1 y1 x2 y2 x3 y3 : Fin n) (h1 : x1*x1 + y1*y1 - 1 - d*x1*x1*y1*y1 = 0) (h2 : x2*x2 + y2*y2 - 1 - d*x2*x2*y2*y2 = 0) (h3 : x3*x3 + y3*y3 - 1 - d*x3*x3*y3*y3 = 0) :
  ((x1*y2+y1*x2)*(1-d*x1*x2*y1*y2)*y3+(y1*y2-x1*x2)*(1+d*x1*x2*y1*y2)*x3)*((1+d*x2*x3*y2*y3)*(1-d*x2*x3*y2*y3)+d*x1*y1*(x2*y3+y2*x3)*(y2*y3-x2*x3)) =
  (x1*(y2*y3-x2*x3)*(1+d*x2*x3*y2*y3)+y1*(x2*y3+y2*x3)*(1-d*x2*x3*y2*y3))*((1+d*x1*x2*y1*y2)*(1-d*x1*x2*y1*y2)+d*(x1*y2+y1*x2)*(y1*y2-x1*x2)*x3*y3) := by
 refine lin3 _ _ (0 + d*d*x1*x2*x2*x2*x2*y2*y2*y2*x3*x3*y3 - d*d*x1*x2*x2*x2*y2*y2*y2*y2*x3*y3*y3 + d*d*y1*x2*x2*x2*x2*y2*y2*y2*x3*y3*y3 + d*d*y1*x2*x2*x2*y2*y2*y2*y2*x3*x3*y3 - d*x1*x2*x2*x2*x2*y2*x3*x3*y3 - d*x1*x2*x2*x2*y2*y2*x3*x3*x3 + d*x1*x2*x2*x2*y2*y2*x3 + d*x1*x2*x2*y2*y2*y2*y3*y3*y3 - d*x1*x2*x2*y2*y2*y2*y3 + d*x1*x2*y2*y2*y2*y2*x3*y3*y3 - d*y1*x2*x2*x2*x2*y2*x3*y3*y3 + d*y1*x2*x2*x2*y2*y2*y3*y3*y3 - d*y1*x2*x2*x2*y2*y2*y3 + d*y1*x2*x2*y2*y2*y2*x3*x3*x3 - d*y1*x2*x2*y2*y2*y2*x3 - d*y1*x2*y2*y2*y2*y2*x3*x3*y3) (0 - d*d*x1*x1*y1*x2*x2*y2*x3*x3*x3*y3*y3 - d*d*x1*x1*y1*x2*y2*y2*x3*x3*y3*y3*y3 - d*d*x1*y1*y1*x2*x2*y2*x3*x3*y3*y3*y3 + d*d*x1*y1*y1*x2*y2*y2*x3*x3*x3*y3*y3 + d*x1*x1*x1*x2*x2*y2*x3*x3*y3 - d*x1*x1*x1*x2*y2*y2*x3*y3*y3 + d*x1*x1*x1*x2*x3*x3*x3*y3*y3 - d*x1*x1*x1*y2*x3*x3*y3*y3*y3 + d*x1*x1*y1*x2*x2*y2*x3*y3*y3 + d*x1*x1*y1*x2*y2*y2*x3*x3*y3 - d*x1*x1*y1*x2*x3*x3*y3*y3*y3 - d*x1*x1*y1*y2*x3*x3*x3*y3*y3 + d*x1*y1*y1*x2*x2*y2*x3*x3*y3 - d*x1*y1*y1*x2*y2*y2*x3*y3*y3 + d*x1*y1*y1*x2*x3*x3*x3*y3*y3 - d*x1*y1*y1*y2*x3*x3*y3*y3*y3 - d*x1*x2*x2*y2*x3*x3*y3 + d*x1*x2*y2*y2*x3*y3*y3 - d*x1*x2*x3*x3*x3*y3*y3 + d*x1*y2*x3*x3*y3*y3*y3 + d*y1*y1*y1*x2*x2*y2*x3*y3*y3 + d*y1*y1*y1*x2*y2*y2*x3*x3*y3 - d*y1*y1*y1*x2*x3*x3*y3*y3*y3 - d*y1*y1*y1*y2*x3*x3*x3*y3*y3 - d*y1*x2*x2*y2*x3*y3*y3 - d*y1*x2*y2*y2*x3*x3*y3 + d*y1*x2*x3*x3*y3*y3*y3 + d*y1*y2*x3*x3*x3*y3*y3 - x1*x1*x1*x2*x3*x3*x3 - x1*x1*x1*x2*x3*y3*y3 + x1*x1*x1*x2*x3 + x1*x1*x1*y2*x3*x3*y3 + x1*x1*x1*y2*y3*y3*y3 - x1*x1*x1*y2*y3 + x1*x1*y1*x2*x3*x3*y3 + x1*x1*y1*x2*y3*y3*y3 - x1*x1*y1*x2*y3 + x1*x1*y1*y2*x3*x3*x3 + x1*x1*y1*y2*x3*y3*y3 - x1*x1*y1*y2*x3 - x1*y1*y1*x2*x3*x3*x3 - x1*y1*y1*x2*x3*y3*y3 + x1*y1*y1*x2*x3 + x1*y1*y1*y2*x3*x3*y3 + x1*y1*y1*y2*y3*y3*y3 - x1*y1*y1*y2*y3 + x1*x2*x3*x3*x3 + x1*x2*x3*y3*y3 - x1*x2*x3 - x1*y2*x3*x3*y3 - x1*y2*y3*y3*y3 + x1*y2*y3 + y1*y1*y1*x2*x3*x3*y3 + y1*y1*y1*x2*y3*y3*y3 - y1*y1*y1*x2*y3 + y1*y1*y1*y2*x3*x3*x3 + y1*y1*y1*y2*x3*y3*y3 - y1*y1*y1*y2*x3 - y1*x2*x3*x3*y3 - y1*x2*y3*y3*y3 + y1*x2*y3 - y1*y2*x3*x3*x3 - y1*y2*x3*y3*y3 + y1*y2*x3) (0 + d*x1*x1*y1*x2*x2*y2*x3 + d*x1*x1*y1*x2*y2*y2*y3 + d*x1*y1*y1*x2*x2*y2*y3 - d*x1*y1*y1*x2*y2*y2*x3 + x1*x1*x1*x2*x2*x2*x3 - x1*x1*x1*x2*x2*y2*y3 + x1*x1*x1*x2*y2*y2*x3 - x1*x1*x1*x2*x3 - x1*x1*x1*y2*y2*y2*y3 + x1*x1*x1*y2*y3 - x1*x1*y1*x2*x2*x2*y3 - x1*x1*y1*x2*x2*y2*x3 - x1*x1*y1*x2*y2*y2*y3 + x1*x1*y1*x2*y3 - x1*x1*y1*y2*y2*y2*x3 + x1*x1*y1*y2*x3 + x1*y1*y1*x2*x2*x2*x3 - x1*y1*y1*x2*x2*y2*y3 + x1*y1*y1*x2*y2*y2*x3 - x1*y1*y1*x2*x3 - x1*y1*y1*y2*y2*y2*y3 + x1*y1*y1*y2*y3 - x1*x2*x2*x2*x3 + x1*x2*x2*y2*y3 - x1*x2*y2*y2*x3 + x1*x2*x3 + x1*y2*y2*y2*y3 - x1*y2*y3 - y1*y1*y1*x2*x2*x2*y3 - y1*y1*y1*x2*x2*y2*x3 - y1*y1*y1*x2*y2*y2*y3 + y1*y1*y1*x2*y3 - y1*y1*y1*y2*y2*y2*x3 + y1*y1*y1*y2*x3 + y1*x2*x2*x2*y3 + y1*x2*x2*y2*x3 + y1*x2*y2*y2*y3 - y1*x2*y3 + y1*y2*y2*y2*x3 - y1*y2*x3) _ _ _ ?_ h1 h2 h3
 clear h1 h2 h3
 grind
theorem ry (d x1 y1 x2 y2 x3 y3 : Fin n) (h1 : x1*x1 + y1*y1 - 1 - d*x1*x1*y1*y1 = 0) (h2 : x2*x2 + y2*y2 - 1 - d*x2*x2*y2*y2 = 0) (h3 : x3*x3 + y3*y3 - 1 - d*x3*x3*y3*y3 = 0) :
  ((y1*y2-x1*x2)*(1+d*x1*x2*y1*y2)*y3-(x1*y2+y1*x2)*(1-d*x1*x2*y1*y2)*x3)*((1+d*x2*x3*y2*y3)*(1-d*x2*x3*y2*y3)-d*x1*y1*(x2*y3+y2*x3)*(y2*y3-x2*x3)) =
  (y1*(y2*y3-x2*x3)*(1+d*x2*x3*y2*y3)-x1*(x2*y3+y2*x3)*(1-d*x2*x3*y2*y3))*((1+d*x1*x2*y1*y2)*(1-d*x1*x2*y1*y2)-d*(x1*y2+y1*x2)*(y1*y2-x1*x2)*x3*y3) := by
 refine lin3 _ _ (0 - d*d*x1*x2*x2*x2*x2*y2*y2*y2*x3*y3*y3 - d*d*x1*x2*x2*x2*y2*y2*y2*y2*x3*x3*y3 + d*d*y1*x2*x2*x2*x2*y2*y2*y2*x3*x3*y3 - d*d*y1*x2*x2*x2*y2*y2*y2*y2*x3*y3*y3 + d*x1*x2*x2*x2*x2*y2*x3*y3*y3 - d*x1*x2*x2*x2*y2*y2*y3*y3*y3 + d*x1*x2*x2*x2*y2*y2*y3 - d*x1*x2*x2*y2*y2*y2*x3*x3*x3 + d*x1*x2*x2*y2*y2*y2*x3 + d*x1*x2*y2*y2*y2*y2*x3*x3*y3 - d*y1*x2*x2*x2*x2*y2*x3*x3*y3 - d*y1*x2*x2*x2*y2*y2*x3*x3*x3 + d*y1*x2*x2*x2*y2*y2*x3 + d*y1*x2*x2*y2*y2*y2*y3*y3*y3 - d*y1*x2*x2*y2*y2*y2*y3 + d*y1*x2*y2*y2*y2*y2*x3*y3*y3) (0 - d*d*x1*x1*y1*x2*x2*y2*x3*x3*y3*y3*y3 + d*d*x1*x1*y1*x2*y2*y2*x3*x3*x3*y3*y3 + d*d*x1*y1*y1*x2*x2*y2*x3*x3*x3*y3*y3 + d*d*x1*y1*y1*x2*y2*y2*x3*x3*y3*y3*y3 - d*x1*x1*x1*x2*x2*y2*x3*y3*y3 - d*x1*x1*x1*x2*y2*y2*x3*x3*y3 + d*x1*x1*x1*x2*x3*x3*y3*y3*y3 + d*x1*x1*x1*y2*x3*x3*x3*y3*y3 + d*x1*x1*y1*x2*x2*y2*x3*x3*y3 - d*x1*x1*y1*x2*y2*y2*x3*y3*y3 + d*x1*x1*y1*x2*x3*x3*x3*y3*y3 - d*x1*x1*y1*y2*x3*x3*y3*y3*y3 - d*x1*y1*y1*x2*x2*y2*x3*y3*y3 - d*x1*y1*y1*x2*y2*y2*x3*x3*y3 + d*x1*y1*y1*x2*x3*x3*y3*y3*y3 + d*x1*y1*y1*y2*x3*x3*x3*y3*y3 + d*x1*x2*x2*y2*x3*y3*y3 + d*x1*x2*y2*y2*x3*x3*y3 - d*x1*x2*x3*x3*y3*y3*y3 - d*x1*y2*x3*x3*x3*y3*y3 + d*y1*y1*y1*x2*x2*y2*x3*x3*y3 - d*y1*y1*y1*x2*y2*y2*x3*y3*y3 + d*y1*y1*y1*x2*x3*x3*x3*y3*y3 - d*y1*y1*y1*y2*x3*x3*y3*y3*y3 - d*y1*x2*x2*y2*x3*x3*y3 + d*y1*x2*y2*y2*x3*y3*y3 - d*y1*x2*x3*x3*x3*y3*y3 + d*y1*y2*x3*x3*y3*y3*y3 - x1*x1*x1*x2*x3*x3*y3 - x1*x1*x1*x2*y3*y3*y3 + x1*x1*x1*x2*y3 - x1*x1*x1*y2*x3*x3*x3 - x1*x1*x1*y2*x3*y3*y3 + x1*x1*x1*y2*x3 - x1*x1*y1*x2*x3*x3*x3 - x1*x1*y1*x2*x3*y3*y3 + x1*x1*y1*x2*x3 + x1*x1*y1*y2*x3*x3*y3 + x1*x1*y1*y2*y3*y3*y3 - x1*x1*y1*y2*y3 - x1*y1*y1*x2*x3*x3*y3 - x1*y1*y1*x2*y3*y3*y3 + x1*y1*y1*x2*y3 - x1*y1*y1*y2*x3*x3*x3 - x1*y1*y1*y2*x3*y3*y3 + x1*y1*y1*y2*x3 + x1*x2*x3*x3*y3 + x1*x2*y3*y3*y3 - x1*x2*y3 + x1*y2*x3*x3*x3 + x1*y2*x3*y3*y3 - x1*y2*x3 - y1*y1*y1*x2*x3*x3*x3 - y1*y1*y1*x2*x3*y3*y3 + y1*y1*y1*x2*x3 + y1*y1*y1*y2*x3*x3*y3 + y1*y1*y1*y2*y3*y3*y3 - y1*y1*y1*y2*y3 + y1*x2*x3*x3*x3 + y1*x2*x3*y3*y3 - y1*x2*x3 - y1*y2*x3*x3*y3 - y1*y2*y3*y3*y3 + y1*y2*y3) (0 + d*x1*x1*y1*x2*x2*y2*y3 - d*x1*x1*y1*x2*y2*y2*x3 - d*x1*y1*y1*x2*x2*y2*x3 - d*x1*y1*y1*x2*y2*y2*y3 + x1*x1*x1*x2*x2*x2*y3 + x1*x1*x1*x2*x2*y2*x3 + x1*x1*x1*x2*y2*y2*y3 - x1*x1*x1*x2*y3 + x1*x1*x1*y2*y2*y2*x3 - x1*x1*x1*y2*x3 + x1*x1*y1*x2*x2*x2*x3 - x1*x1*y1*x2*x2*y2*y3 + x1*x1*y1*x2*y2*y2*x3 - x1*x1*y1*x2*x3 - x1*x1*y1*y2*y2*y2*y3 + x1*x1*y1*y2*y3 + x1*y1*y1*x2*x2*x2*y3 + x1*y1*y1*x2*x2*y2*x3 + x1*y1*y1*x2*y2*y2*y3 - x1*y1*y1*x2*y3 + x1*y1*y1*y2*y2*y2*x3 - x1*y1*y1*y2*x3 - x1*x2*x2*x2*y3 - x1*x2*x2*y2*x3 - x1*x2*y2*y2*y3 + x1*x2*y3 - x1*y2*y2*y2*x3 + x1*y2*x3 + y1*y1*y1*x2*x2*x2*x3 - y1*y1*y1*x2*x2*y2*y3 + y1*y1*y1*x2*y2*y2*x3 - y1*y1*y1*x2*x3 - y1*y1*y1*y2*y2*y2*y3 + y1*y1*y1*y2*y3 - y1*x2*x2*x2*x3 + y1*x2*x2*y2*y3 - y1*x2*y2*y2*x3 + y1*x2*x3 + y1*y2*y2*y2*y3 - y1*y2*y3) _ _ _ ?_ h1 h2 h3
 clear h1 h2 h3
 grind
theorem rclo (d x1 y1 x2 y2 : Fin n) (h1 : x1*x1 + y1*y1 - 1 - d*x1*x1*y1*y1 = 0) (h2 : x2*x2 + y2*y2 - 1 - d*x2*x2*y2*y2 = 0) :
  (x1*y2+y1*x2)*(x1*y2+y1*x2)*((1-d*x1*x2*y1*y2)*(1-d*x1*x2*y1*y2)) + (y1*y2-x1*x2)*(y1*y2-x1*x2)*((1+d*x1*x2*y1*y2)*(1+d*x1*x2*y1*y2)) =
  (1+d*x1*x2*y1*y2)*(1+d*x1*x2*y1*y2)*((1-d*x1*x2*y1*y2)*(1-d*x1*x2*y1*y2)) + d*((x1*y2+y1*x2)*(x1*y2+y1*x2))*((y1*y2-x1*x2)*(y1*y2-x1*x2)) := by
 refine lin2 _ _ (0 + d*d*d*x1*x1*y1*y1*x2*x2*x2*x2*y2*y2*y2*y2 + d*d*x1*x1*x2*x2*x2*x2*y2*y2*y2*y2 + d*d*y1*y1*x2*x2*x2*x2*y2*y2*y2*y2 - d*d*x2*x2*x2*x2*y2*y2*y2*y2 - d*x1*x1*x2*x2*x2*x2*y2*y2 - d*x1*x1*x2*x2*y2*y2*y2*y2 - d*y1*y1*x2*x2*x2*x2*y2*y2 - d*y1*y1*x2*x2*y2*y2*y2*y2 + 2*d*x2*x2*x2*x2*y2*y2*y2*y2 - 2*d*x2*x2*y2*y2 - 2*x2*x2*x2*x2*y2*y2 + x2*x2*x2*x2 - 2*x2*x2*y2*y2*y2*y2 + 4*x2*x2*y2*y2 + y2*y2*y2*y2) (0 + d*x1*x1*x1*x1*x2*x2*y2*y2 - 2*d*x1*x1*x2*x2*y2*y2 + d*y1*y1*y1*y1*x2*x2*y2*y2 - 2*d*y1*y1*x2*x2*y2*y2 + d*x2*x2*y2*y2 + 2*x1*x1*x2*x2*y2*y2 - x1*x1*x2*x2 - x1*x1*y2*y2 + 2*y1*y1*x2*x2*y2*y2 - y1*y1*x2*x2 - y1*y1*y2*y2 - 2*x2*x2*y2*y2 + x2*x2 + y2*y2 + 1) _ _ ?_ h1 h2
 clear h1 h2
 grind
theorem rdad (d x1 y1 x2 y2 : Fin n) (h1 : x1*x1 + y1*y1 - 1 - d*x1*x1*y1*y1 = 0) (h2 : x2*x2 + y2*y2 - 1 - d*x2*x2*y2*y2 = 0) :
  (y1+y2)*(y1+y2)*((1-d*x1*x2*y1*y2)-(y1*y2-x1*x2))*((1+d*x1*x2*y1*y2)-(y1*y2+x1*x2)) = ((1-d*x1*x2*y1*y2)+(y1*y2-x1*x2))*((1+d*x1*x2*y1*y2)+(y1*y2+x1*x2))*((y1-y2)*(y1-y2)) := by
 refine lin2 _ _ (0 + 4*d*y1*x2*x2*y2*y2*y2 - 4*y1*x2*x2*y2) (0 + 4*y1*y1*y1*y2 - 4*y1*y2) _ _ ?_ h1 h2
 clear h1 h2
 grind
end
end
section
structure Fld (n : Nat) [NeZero n] (d : Fin n) (inv : Fin n → Fin n) : Prop where
 dom : ∀ a b : Fin n, a * b = 0 → a = 0 ∨ b = 0
 mi : ∀ a : Fin n, a ≠ 0 → a * inv a = 1
 inv0 : inv 0 = 0
 one : (1 : Fin n) ≠ 0
 two : (1 : Fin n) + 1 ≠ 0
 nsq : ∀ s : Fin n, s * s ≠ d
structure Pt (n : Nat) where
 x : Fin n
 y : Fin n
section
variable {n : Nat} [NeZero n] {d : Fin n} {inv : Fin n → Fin n}
def On (d : Fin n) (p : Pt n) : Prop := p.x * p.x + p.y * p.y - 1 - d * p.x * p.x * p.y * p.y = 0
def padd (d : Fin n) (inv : Fin n → Fin n) (p q : Pt n) : Pt n :=
 ⟨(p.x * q.y + p.y * q.x) * inv (1 + d * p.x * q.x * p.y * q.y), (p.y * q.y - p.x * q.x) * inv (1 - d * p.x * q.x * p.y * q.y)⟩
def pO : Pt n := ⟨0, 1⟩
def pneg (p : Pt n) : Pt n := ⟨0 - p.x, p.y⟩
theorem Fld.cancel (F : Fld n d inv) {a b c : Fin n} (ha : a ≠ 0) (h : a * b = a * c) : b = c := by
 have h1 : a * (b - c) = 0 := by grind
 rcases F.dom _ _ h1 with h2 | h2
 ·
  exact absurd h2 ha
 ·
  grind
theorem Fld.ne (F : Fld n d inv) {a b : Fin n} (ha : a ≠ 0) (hb : b ≠ 0) : a * b ≠ 0 := fun h => by
 rcases F.dom _ _ h with h2 | h2
 ·
  exact ha h2
 ·
  exact hb h2
theorem Fld.frac (F : Fld n d inv) {a b : Fin n} (ha : a ≠ 0) : b * inv a * a = b := by
 have h1 := F.mi a ha
 have h2 : b * inv a * a = b * (a * inv a) := by grind
 rw [h2, h1]
 grind
theorem Fld.eq_frac (F : Fld n d inv) {a b c : Fin n} (ha : a ≠ 0) (h : c * a = b) : b * inv a = c := by
 refine F.cancel ha ?_
 have := F.frac (b := b) ha
 grind
theorem Fld.whole (F : Fld n d inv) {p q : Pt n} (hp : On d p) (hq : On d q) :
  1 + d * p.x * q.x * p.y * q.y ≠ 0 ∧ 1 - d * p.x * q.x * p.y * q.y ≠ 0 := by
 obtain ⟨x1, y1⟩ := p
 obtain ⟨x2, y2⟩ := q
 simp only [On] at hp hq
 dsimp only
 have key : ∀ e : Fin n, e = d * x1 * x2 * y1 * y2 → e * e = 1 → False := by
  intro e he h1
  have hs : ∀ g : Fin n, g = y2 ∨ g = 0 - y2 → x1 * y1 * (x2 + g) = 0 := by
   intro g hg
   apply Classical.byContradiction
   intro hne
   have h2 : ∃ s : Fin n, s * s = d * ((x1 * y1 * (x2 + g)) * (x1 * y1 * (x2 + g))) := by
    rcases hg with hg | hg
    ·
     rw [hg]
     refine ⟨x1 + e * y1, ?_⟩
     have k1 : (x1 + e * y1) * (x1 + e * y1) - d * ((x1 * y1 * (x2 + y2)) * (x1 * y1 * (x2 + y2))) = 1 * (x1*x1 + y1*y1 - 1 - d*x1*x1*y1*y1) + (0 - d * x1 * x1 * y1 * y1) * (x2*x2 + y2*y2 - 1 - d*x2*x2*y2*y2) + (y1 * y1) * (e * e - 1) + (e * e - (d*x1*x2*y1*y2) * (d*x1*x2*y1*y2)) * 0 + 2 * x1 * y1 * (e - d*x1*x2*y1*y2) + 1 - d*x1*x2*y1*y2*(d*x1*x2*y1*y2) := by grind
     have k2 : (x1 + e * y1) * (x1 + e * y1) - d * ((x1 * y1 * (x2 + y2)) * (x1 * y1 * (x2 + y2))) = 0 := by
      rw [k1, hp, hq, ← he, h1]
      grind
     grind
    ·
     rw [hg]
     refine ⟨x1 - e * y1, ?_⟩
     have k1 : (x1 - e * y1) * (x1 - e * y1) - d * ((x1 * y1 * (x2 + (0 - y2))) * (x1 * y1 * (x2 + (0 - y2)))) = 1 * (x1*x1 + y1*y1 - 1 - d*x1*x1*y1*y1) + (0 - d * x1 * x1 * y1 * y1) * (x2*x2 + y2*y2 - 1 - d*x2*x2*y2*y2) + (y1 * y1) * (e * e - 1) - 2 * x1 * y1 * (e - d*x1*x2*y1*y2) + 1 - d*x1*x2*y1*y2*(d*x1*x2*y1*y2) := by grind
     have k2 : (x1 - e * y1) * (x1 - e * y1) - d * ((x1 * y1 * (x2 + (0 - y2))) * (x1 * y1 * (x2 + (0 - y2)))) = 0 := by
      rw [k1, hp, hq, ← he, h1]
      grind
     grind
   obtain ⟨s, hs⟩ := h2
   generalize x1 * y1 * (x2 + g) = t at hne hs
   refine F.nsq (s * inv t) ?_
   have h3 := F.mi t hne
   have h4 : s * inv t * (s * inv t) = (s * s) * (inv t * inv t) := by grind
   rw [h4, hs]
   have h5 : d * (t * t) * (inv t * inv t) = d * ((t * inv t) * (t * inv t)) := by grind
   rw [h5, h3]
   grind
  have a1 := hs y2 (.inl rfl)
  have a2 := hs (0 - y2) (.inr rfl)
  have a3 : (1 + 1) * (x1 * y1 * x2) = 0 := by grind
  have a4 : x1 * y1 * x2 = 0 := by
   rcases F.dom _ _ a3 with h | h
   ·
    exact absurd h F.two
   ·
    exact h
  have a5 : e = 0 := by
   have : e = d * (x1 * y1 * x2) * y2 := by grind
   rw [this, a4]
   grind
  rw [a5] at h1
  exact F.one (by grind)
 constructor
 ·
  intro h
  exact key _ rfl (by grind)
 ·
  intro h
  exact key _ rfl (by grind)
theorem on_O : On d (pO : Pt n) := by
 simp only [On, pO]
 grind
theorem on_neg {p : Pt n} (hp : On d p) : On d (pneg p) := by
 simp only [On, pneg] at *
 grind
theorem Fld.on_add (F : Fld n d inv) {p q : Pt n} (hp : On d p) (hq : On d q) : On d (padd d inv p q) := by
 obtain ⟨h1, h2⟩ := F.whole hp hq
 obtain ⟨x1, y1⟩ := p
 obtain ⟨x2, y2⟩ := q
 simp only [On, padd] at *
 have hr := rclo d x1 y1 x2 y2 hp hq
 generalize hN1 : x1 * y2 + y1 * x2 = N1 at *
 generalize hN2 : y1 * y2 - x1 * x2 = N2 at *
 generalize hD1 : 1 + d * x1 * x2 * y1 * y2 = D1 at *
 generalize hD2 : 1 - d * x1 * x2 * y1 * y2 = D2 at *
 have f1 := F.frac (b := N1) h1
 have f2 := F.frac (b := N2) h2
 generalize N1 * inv D1 = X at *
 generalize N2 * inv D2 = Y at *
 have hne := F.ne (F.ne h1 h1) (F.ne h2 h2)
 refine (F.dom _ _ ?_).resolve_left hne
 have e1 : N1 * N1 = X * X * (D1 * D1) := by rw [← f1]; grind
 have e2 : N2 * N2 = Y * Y * (D2 * D2) := by rw [← f2]; grind
 rw [e1, e2] at hr
 clear e1 e2 f1 f2 hN1 hN2 hD1 hD2 hp hq h1 h2 hne
 grind
theorem padd_comm (p q : Pt n) : padd d inv p q = padd d inv q p := by
 obtain ⟨x1, y1⟩ := p
 obtain ⟨x2, y2⟩ := q
 simp only [padd]
 have e1 : x1 * y2 + y1 * x2 = x2 * y1 + y2 * x1 := by grind
 have e2 : y1 * y2 - x1 * x2 = y2 * y1 - x2 * x1 := by grind
 have e3 : d * x1 * x2 * y1 * y2 = d * x2 * x1 * y2 * y1 := by grind
 rw [e1, e2, e3]
theorem Fld.inv1 (F : Fld n d inv) : inv 1 = 1 := by
 have := F.mi 1 F.one
 grind
theorem Fld.add_O (F : Fld n d inv) (p : Pt n) : padd d inv p pO = p := by
 obtain ⟨x1, y1⟩ := p
 simp only [padd, pO]
 have e1 : (1 : Fin n) + d * x1 * 0 * y1 * 1 = 1 := by grind
 have e2 : (1 : Fin n) - d * x1 * 0 * y1 * 1 = 1 := by grind
 rw [e1, e2, F.inv1]
 congr 1
 ·
  grind
 ·
  grind
theorem Fld.add_neg (F : Fld n d inv) {p : Pt n} (hp : On d p) : padd d inv p (pneg p) = pO := by
 obtain ⟨h1, h2⟩ := F.whole hp (on_neg hp)
 obtain ⟨x1, y1⟩ := p
 simp only [padd, pO, pneg, On] at *
 congr 1
 ·
  have : x1 * y1 + y1 * (0 - x1) = 0 := by grind
  rw [this]
  grind
 ·
  refine F.eq_frac h2 ?_
  grind
theorem Fld.assoc (F : Fld n d inv) {p q r : Pt n} (hp : On d p) (hq : On d q) (hr : On d r) : padd d inv (padd d inv p q) r = padd d inv p (padd d inv q r) := by
 obtain ⟨g1, g2⟩ := F.whole (F.on_add hp hq) hr
 obtain ⟨g3, g4⟩ := F.whole hp (F.on_add hq hr)
 obtain ⟨h1, h2⟩ := F.whole hp hq
 obtain ⟨h3, h4⟩ := F.whole hq hr
 obtain ⟨x1, y1⟩ := p
 obtain ⟨x2, y2⟩ := q
 obtain ⟨x3, y3⟩ := r
 simp only [padd, On] at *
 have hx := rx d x1 y1 x2 y2 x3 y3 hp hq hr
 have hy := ry d x1 y1 x2 y2 x3 y3 hp hq hr
 clear hp hq hr
 have c1 : d * x2 * x3 * y2 * y3 = d * x2 * x3 * y2 * y3 := rfl
 generalize hN1 : x1 * y2 + y1 * x2 = N1 at *
 generalize hN2 : y1 * y2 - x1 * x2 = N2 at *
 generalize hD1 : 1 + d * x1 * x2 * y1 * y2 = D1 at *
 generalize hD2 : 1 - d * x1 * x2 * y1 * y2 = D2 at *
 generalize hM1 : x2 * y3 + y2 * x3 = M1 at *
 generalize hM2 : y2 * y3 - x2 * x3 = M2 at *
 generalize hE1 : 1 + d * x2 * x3 * y2 * y3 = E1 at *
 generalize hE2 : 1 - d * x2 * x3 * y2 * y3 = E2 at *
 clear hN1 hN2 hD1 hD2 hM1 hM2 hE1 hE2
 have f1 := F.frac (b := N1) h1
 have f2 := F.frac (b := N2) h2
 have f3 := F.frac (b := M1) h3
 have f4 := F.frac (b := M2) h4
 generalize N1 * inv D1 = X at *
 generalize N2 * inv D2 = Y at *
 generalize M1 * inv E1 = S at *
 generalize M2 * inv E2 = T at *
 rw [← f1, ← f2, ← f3, ← f4] at hx hy
 have nD : D1 * D2 * (E1 * E2) ≠ 0 := F.ne (F.ne h1 h2) (F.ne h3 h4)
 have kx : (X * y3 + Y * x3) * (1 + d * x1 * S * y1 * T) = (x1 * T + y1 * S) * (1 + d * X * x3 * Y * y3) := by
  refine F.cancel nD ?_
  clear hy h1 h2 h3 h4 g1 g2 g3 g4 f1 f2 f3 f4 nD
  grind
 have ky : (Y * y3 - X * x3) * (1 - d * x1 * S * y1 * T) = (y1 * T - x1 * S) * (1 - d * X * x3 * Y * y3) := by
  refine F.cancel nD ?_
  clear hx h1 h2 h3 h4 g1 g2 g3 g4 f1 f2 f3 f4 nD kx
  grind
 have side : ∀ a b u v : Fin n, u ≠ 0 → v ≠ 0 → a * v = b * u → a * inv u = b * inv v := by
  intro a b u v hu hv h
  refine F.eq_frac hu ?_
  refine F.cancel hv ?_
  have := F.frac (b := b) hv
  grind
 congr 1
 ·
  exact side _ _ _ _ g1 g3 kx
 ·
  exact side _ _ _ _ g2 g4 ky
end
end
section
section
variable {n : Nat} [NeZero n] {d : Fin n} {inv : Fin n → Fin n}
def pmul (d : Fin n) (inv : Fin n → Fin n) (p : Pt n) : Nat → Pt n
  | 0 => pO
  | k + 1 => padd d inv (pmul d inv p k) p
theorem Fld.on_pmul (F : Fld n d inv) {p : Pt n} (hp : On d p) : ∀ k, On d (pmul d inv p k)
  | 0 => on_O
  | k + 1 => F.on_add (F.on_pmul hp k) hp
theorem Fld.O_add (F : Fld n d inv) (p : Pt n) : padd d inv pO p = p := by rw [padd_comm, F.add_O]
theorem Fld.pmul_add (F : Fld n d inv) {p : Pt n} (hp : On d p) (i : Nat) : ∀ j, pmul d inv p (i + j) = padd d inv (pmul d inv p i) (pmul d inv p j)
  | 0 => by rw [Nat.add_zero, pmul, F.add_O]
  | j + 1 => by
    rw [← Nat.add_assoc, pmul, F.pmul_add hp i j, pmul, F.assoc (F.on_pmul hp i) (F.on_pmul hp j) hp]
theorem Fld.pmul_mul (F : Fld n d inv) {p : Pt n} (hp : On d p) (i : Nat) : ∀ j, pmul d inv p (i * j) = pmul d inv (pmul d inv p i) j
  | 0 => by rw [Nat.mul_zero, pmul, pmul]
  | j + 1 => by rw [Nat.mul_succ, F.pmul_add hp, F.pmul_mul hp i j, pmul]
theorem Fld.pmul_O (F : Fld n d inv) : ∀ k, pmul d inv (pO : Pt n) k = pO
  | 0 => rfl
  | k + 1 => by rw [pmul, F.add_O, F.pmul_O k]
def Rep (x z : Fin n) (p : Pt n) : Prop := x * (1 - p.y) = z * (1 + p.y) ∧ ¬ (x = 0 ∧ z = 0)
def Uof (inv : Fin n → Fin n) (p : Pt n) : Fin n := (1 + p.y) * inv (1 - p.y)
theorem Fld.half (F : Fld n d inv) {a : Fin n} (h : a + a = 0) : a = 0 := by
  have h1 : (1 + 1) * a = 0 := by grind
  exact (F.dom _ _ h1).resolve_left F.two
theorem Fld.rep_u (F : Fld n d inv) {x z : Fin n} {p : Pt n} (h : Rep x z p) : x * inv z = Uof inv p := by
  obtain ⟨h1, h2⟩ := h
  obtain ⟨px, y⟩ := p
  simp only [Uof] at *
  by_cases h3 : 1 - y = 0
  · have h4 : (1 + 1) * z = 0 := by grind
    have h5 := (F.dom _ _ h4).resolve_left F.two
    rw [h3, h5, F.inv0]
    grind
  · have h4 : z ≠ 0 := fun h4 => h2 ⟨(F.dom _ _ (show x * (1 - y) = 0 by rw [h1, h4]; grind)).resolve_right h3, h4⟩
    refine F.eq_frac h4 ?_
    refine F.cancel h3 ?_
    have := F.frac (b := 1 + y) h3
    grind
theorem Fld.u_rep (F : Fld n d inv) {p : Pt n} (h : Uof inv p ≠ 0) : Rep (Uof inv p) 1 p := by
  obtain ⟨px, y⟩ := p
  simp only [Uof, Rep] at *
  by_cases h3 : 1 - y = 0
  · exact absurd (by rw [h3, F.inv0]; grind) h
  · refine ⟨?_, fun h4 => F.one h4.2⟩
    have := F.frac (b := 1 + y) h3
    grind
structure LadE (n : Nat) where
  x : Fin n
  z : Fin n
  w : Fin n
  t : Fin n
def LadE.step (c : Fin n) (s : LadE n) (u : Fin n) : LadE n :=
  ⟨((s.x + s.z) * (s.x + s.z)) * ((s.x - s.z) * (s.x - s.z)), ((s.x + s.z) * (s.x + s.z) - (s.x - s.z) * (s.x - s.z)) * ((s.x + s.z) * (s.x + s.z) + c * ((s.x + s.z) * (s.x + s.z) - (s.x - s.z) * (s.x - s.z))),
   ((s.w - s.t) * (s.x + s.z) + (s.w + s.t) * (s.x - s.z)) * ((s.w - s.t) * (s.x + s.z) + (s.w + s.t) * (s.x - s.z)),
   u * (((s.w - s.t) * (s.x + s.z) - (s.w + s.t) * (s.x - s.z)) * ((s.w - s.t) * (s.x + s.z) - (s.w + s.t) * (s.x - s.z)))⟩
def LadE.swap (s : LadE n) : LadE n := ⟨s.w, s.t, s.x, s.z⟩
theorem Fld.rep_sum (F : Fld n d inv) {x z : Fin n} {p : Pt n} (h : Rep x z p) : x + z ≠ 0 ∧ x - z = (x + z) * p.y := by
  obtain ⟨h1, h2⟩ := h
  obtain ⟨px, y⟩ := p
  dsimp only at *
  have h3 : x - z = (x + z) * y := by grind
  refine ⟨fun h => ?_, h3⟩
  rw [h] at h3
  have h4 : x = 0 := F.half (by grind)
  exact h2 ⟨h4, by grind⟩
theorem Fld.dbl (F : Fld n d inv) {c : Fin n} (hc : d * (1 + c) = c) (hc2 : 1 + c ≠ 0) {x z : Fin n} {p : Pt n} (hp : On d p) (h : Rep x z p) :
    Rep (((x + z) * (x + z)) * ((x - z) * (x - z))) (((x + z) * (x + z) - (x - z) * (x - z)) * ((x + z) * (x + z) + c * ((x + z) * (x + z) - (x - z) * (x - z)))) (padd d inv p p) := by
  obtain ⟨s0, h1⟩ := F.rep_sum h
  obtain ⟨g1, g2⟩ := F.whole hp hp
  obtain ⟨px, y⟩ := p
  simp only [Rep, padd, On] at *
  rw [h1]
  generalize x + z = s at *
  have f1 := F.frac (b := y * y - px * px) g2
  generalize (y * y - px * px) * inv (1 - d * px * px * y * y) = Y at *
  clear h1 h
  constructor
  · refine F.cancel g2 ?_
    have k : (1 - d * px * px * y * y) * (s * s * (s * y * (s * y)) * (1 - Y)) - (1 - d * px * px * y * y) * ((s * s - s * y * (s * y)) * (s * s + c * (s * s - s * y * (s * y))) * (1 + Y)) =
        s * s * (s * s) * (y * y * ((1 - d * px * px * y * y) - (Y * (1 - d * px * px * y * y))) - (1 - y * y) * (1 + c * (1 - y * y)) * ((1 - d * px * px * y * y) + Y * (1 - d * px * px * y * y))) := by grind
    rw [f1] at k
    have e1 : (1 - d * px * px * y * y) = 2 - px * px - y * y := by grind
    have e2 : (1 + c) * (px * px + y * y - 1) - c * px * px * y * y = 0 := by
      have : (1 + c) * (px * px + y * y - 1 - d * px * px * y * y) = 0 := by rw [hp]; grind
      have e3 : (1 + c) * (px * px + y * y - 1 - d * px * px * y * y) = (1 + c) * (px * px + y * y - 1) - (d * (1 + c)) * px * px * y * y := by grind
      rw [e3, hc] at this
      exact this
    have e4 : y * y * ((1 - d * px * px * y * y) - (y * y - px * px)) - (1 - y * y) * (1 + c * (1 - y * y)) * ((1 - d * px * px * y * y) + (y * y - px * px)) = 2 * (1 - y * y) * ((1 + c) * (px * px + y * y - 1) - c * px * px * y * y) := by
      rw [e1]
      clear k e1 e2 f1 hp hc g1 g2
      grind
    rw [e4, e2] at k
    clear e1 e2 e4 f1 hp hc g1 g2
    grind
  · rintro ⟨k1, k2⟩
    have hy : y = 0 := by
      have k3 : s * s * (s * s) * (y * y) = 0 := by rw [← k1]; grind
      have k4 := (F.dom _ _ k3).resolve_left (F.ne (F.ne s0 s0) (F.ne s0 s0))
      rcases F.dom _ _ k4 with h | h <;> exact h
    rw [hy] at k2
    have k3 : s * s * (s * s) * (1 + c) = 0 := by rw [← k2]; grind
    exact F.ne (F.ne (F.ne s0 s0) (F.ne s0 s0)) hc2 k3
theorem dadd_a (u y : Fin n) (h : u * (1 - y) = 1 * (1 + y)) (h2 : 1 - y = 0) : (1 + 1 : Fin n) = 0 := by
  rw [h2] at h
  grind
theorem dadd_b (r s y1 y2 : Fin n) : (r * s) * (r * s) * ((y1 + y2) * (y1 + y2)) = (r * y2 * s + r * (s * y1)) * (r * y2 * s + r * (s * y1)) := by grind
theorem dadd_c (u r s y1 y2 : Fin n) : u * ((r * s) * (r * s)) * ((y2 - y1) * (y2 - y1)) = u * ((r * y2 * s - r * (s * y1)) * (r * y2 * s - r * (s * y1))) := by grind
theorem Fld.dadd (F : Fld n d inv) {x z w t u : Fin n} {a b p : Pt n} (ha : On d a) (hb : On d b) (hp : On d p) (hy : p.y = (a.y * b.y + a.x * b.x) * inv (1 + d * a.x * b.x * a.y * b.y))
    (hr : Rep x z a) (hs : Rep w t b) (hu : Rep u 1 p) (u0 : u ≠ 0) :
    Rep (((w - t) * (x + z) + (w + t) * (x - z)) * ((w - t) * (x + z) + (w + t) * (x - z))) (u * (((w - t) * (x + z) - (w + t) * (x - z)) * ((w - t) * (x + z) - (w + t) * (x - z)))) (padd d inv a b) := by
  obtain ⟨s0, h1⟩ := F.rep_sum hr
  obtain ⟨r0, h2⟩ := F.rep_sum hs
  obtain ⟨g1, g2⟩ := F.whole ha hb
  obtain ⟨hu1, _⟩ := hu
  obtain ⟨x1, y1⟩ := a
  obtain ⟨x2, y2⟩ := b
  obtain ⟨x3, y3⟩ := p
  simp only [Rep, padd, On] at *
  rw [h1, h2]
  clear hr hs h1 h2
  generalize x + z = s at *
  generalize w + t = r at *
  have hd := rdad d x1 y1 x2 y2 ha hb
  have f1 := F.frac (b := y1 * y2 - x1 * x2) g2
  have f2 := F.frac (b := y1 * y2 + x1 * x2) g1
  rw [← hy] at f2
  generalize (y1 * y2 - x1 * x2) * inv (1 - d * x1 * x2 * y1 * y2) = Y at *
  have n3 : 1 - y3 ≠ 0 := fun h => F.two (dadd_a u y3 hu1 h)
  have m : (y1 + y2) * (y1 + y2) * (1 - Y) * (1 - y3) = (1 + Y) * (1 + y3) * ((y1 - y2) * (y1 - y2)) := by
    refine F.cancel (F.ne g1 g2) ?_
    rw [← f1, ← f2] at hd
    clear f1 f2 ha hb hp hy hu1 g1 g2 n3
    grind
  constructor
  · refine F.cancel n3 ?_
    have k1 : (1 - y3) * ((r * y2 * s + r * (s * y1)) * (r * y2 * s + r * (s * y1)) * (1 - Y)) = (r * r) * (s * s) * ((y1 + y2) * (y1 + y2) * (1 - Y) * (1 - y3)) := by grind
    have k2 : (1 - y3) * (u * ((r * y2 * s - r * (s * y1)) * (r * y2 * s - r * (s * y1))) * (1 + Y)) = (r * r) * (s * s) * ((1 + Y) * (u * (1 - y3)) * ((y1 - y2) * (y1 - y2))) := by grind
    rw [k1, k2, m, hu1]
    grind
  · rintro ⟨k1, k2⟩
    have rs := F.ne r0 s0
    have l1 : y1 + y2 = 0 := by
      have : (r * s) * (r * s) * ((y1 + y2) * (y1 + y2)) = 0 := (dadd_b r s y1 y2).trans k1
      have := (F.dom _ _ this).resolve_left (F.ne rs rs)
      rcases F.dom _ _ this with h | h <;> exact h
    have l2 : y2 - y1 = 0 := by
      have : u * ((r * s) * (r * s)) * ((y2 - y1) * (y2 - y1)) = 0 := (dadd_c u r s y1 y2).trans k2
      have := (F.dom _ _ this).resolve_left (F.ne u0 (F.ne rs rs))
      rcases F.dom _ _ this with h | h <;> exact h
    have l3 : y1 = 0 := F.half (by grind)
    have l4 : y2 = 0 := by grind
    subst l3 l4
    have m1 : x1 * x1 = 1 := by grind
    have m2 : x2 * x2 = 1 := by grind
    have m3 : y3 = x1 * x2 := by grind
    have m4 : (1 - y3) * (1 + y3) = 0 := by
      have : (1 - y3) * (1 + y3) = 1 - y3 * y3 := by grind
      have : y3 * y3 = (x1 * x1) * (x2 * x2) := by rw [m3]; grind
      grind
    have m5 := (F.dom _ _ m4).resolve_left n3
    rw [m5] at hu1
    have : u * (1 - y3) = 0 := by rw [hu1]; grind
    exact F.ne u0 n3 this
theorem Fld.diff (F : Fld n d inv) {p : Pt n} (hp : On d p) (m : Nat) :
    p.y = ((pmul d inv p m).y * (pmul d inv p (m + 1)).y + (pmul d inv p m).x * (pmul d inv p (m + 1)).x) * inv (1 + d * (pmul d inv p m).x * (pmul d inv p (m + 1)).x * (pmul d inv p m).y * (pmul d inv p (m + 1)).y) := by
  have hA := F.on_pmul hp m
  have h : padd d inv (pmul d inv p (m + 1)) (pneg (pmul d inv p m)) = p := by
    rw [pmul, padd_comm (pmul d inv p m) p, F.assoc hp hA (on_neg hA), F.add_neg hA, F.add_O]
  have h2 := congrArg Pt.y h
  generalize pmul d inv p m = A at *
  generalize pmul d inv p (m + 1) = B at *
  obtain ⟨x1, y1⟩ := A
  obtain ⟨x2, y2⟩ := B
  simp only [padd, pneg] at *
  rw [← h2]
  congr 1
  · grind
  · congr 1
    grind
def LadE.Is (d : Fin n) (inv : Fin n → Fin n) (p : Pt n) (s : LadE n) (m : Nat) : Prop := Rep s.x s.z (pmul d inv p m) ∧ Rep s.w s.t (pmul d inv p (m + 1))
theorem Fld.lad0 (F : Fld n d inv) {p : Pt n} {u : Fin n} (hu : Rep u 1 p) : (⟨1, 0, u, 1⟩ : LadE n).Is d inv p 0 := by
  refine ⟨?_, ?_⟩
  · simp only [pmul, Rep, pO]
    refine ⟨by grind, fun h => F.one h.1⟩
  · simp only [pmul]
    rw [F.O_add]
    exact hu
theorem Fld.lad1 (F : Fld n d inv) {c : Fin n} (hc : d * (1 + c) = c) (hc2 : 1 + c ≠ 0) {p : Pt n} {u : Fin n} (hp : On d p) (hu : Rep u 1 p) (u0 : u ≠ 0) {s : LadE n} {m : Nat} (h : s.Is d inv p m) :
    (s.step c u).Is d inv p (2 * m) ∧ ((s.swap.step c u).swap).Is d inv p (2 * m + 1) := by
  obtain ⟨h1, h2⟩ := h
  have hA := F.on_pmul hp m
  have hB := F.on_pmul hp (m + 1)
  have d1 := F.diff hp m
  have d2 : p.y = ((pmul d inv p (m + 1)).y * (pmul d inv p m).y + (pmul d inv p (m + 1)).x * (pmul d inv p m).x) * inv (1 + d * (pmul d inv p (m + 1)).x * (pmul d inv p m).x * (pmul d inv p (m + 1)).y * (pmul d inv p m).y) := by
    generalize pmul d inv p m = A at *
    generalize pmul d inv p (m + 1) = B at *
    rw [d1]
    have e1 : A.y * B.y + A.x * B.x = B.y * A.y + B.x * A.x := by grind
    have e2 : d * A.x * B.x * A.y * B.y = d * B.x * A.x * B.y * A.y := by grind
    rw [e1, e2]
  have e1 : pmul d inv p (2 * m) = padd d inv (pmul d inv p m) (pmul d inv p m) := by rw [← F.pmul_add hp]; congr 1; omega
  have e2 : pmul d inv p (2 * m + 1) = padd d inv (pmul d inv p m) (pmul d inv p (m + 1)) := by rw [← F.pmul_add hp]; congr 1; omega
  have e3 : pmul d inv p (2 * m + 1 + 1) = padd d inv (pmul d inv p (m + 1)) (pmul d inv p (m + 1)) := by rw [← F.pmul_add hp]; congr 1; omega
  refine ⟨⟨?_, ?_⟩, ?_, ?_⟩
  · rw [e1]
    exact F.dbl hc hc2 hA h1
  · rw [e2]
    exact F.dadd hA hB hp d1 h1 h2 hu u0
  · rw [e2, padd_comm]
    exact F.dadd hB hA hp d2 h2 h1 hu u0
  · rw [e3]
    exact F.dbl hc hc2 hB h2
theorem Fld.even0 (F : Fld n d inv) (d1 : 1 - d ≠ 0) {p : Pt n} (hp : On d p) (h : Uof inv p = 0) (m : Nat) : Uof inv (pmul d inv p (2 * m)) = 0 := by
  have hy : p.y * p.y = 1 := by
    by_cases h3 : 1 - p.y = 0
    · grind
    · have h4 := F.frac (b := 1 + p.y) h3
      have h5 : (1 + p.y) * inv (1 - p.y) = 0 := h
      rw [h5] at h4
      grind
  have hx : p.x = 0 := by
    have h1 : (1 - d) * (p.x * p.x) = 0 := by
      simp only [On] at hp
      grind
    have h2 := (F.dom _ _ h1).resolve_left d1
    rcases F.dom _ _ h2 with h | h <;> exact h
  have h2 : pmul d inv p 2 = pO := by
    rw [pmul, pmul, pmul, F.O_add]
    obtain ⟨x, y⟩ := p
    dsimp only at *
    subst hx
    simp only [padd, pO]
    have e1 : (1 : Fin n) - d * 0 * 0 * y * y = 1 := by grind
    have e2 : y * y - 0 * 0 = 1 := by grind
    have e3 : 0 * y + y * 0 = (0 : Fin n) := by grind
    rw [e1, e2, e3, F.inv1]
    congr 1
    · grind
    · grind
  rw [F.pmul_mul hp, h2, F.pmul_O]
  simp only [Uof, pO]
  have e1 : (1 : Fin n) - 1 = 0 := by grind
  rw [e1, F.inv0]
  grind
end
end
end Go.Proofs.YtakkicppgkmokaaGreat
