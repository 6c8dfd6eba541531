/- Texts of this proof, merged: Edw, EdwG, EdwL, Nrf. -/
import Derived.Test.YtcebllbikmgjpaaGreatJ0
import Derived.Test.YtcebllbikmgjpaaGreatRows
import Derived.JoinedOf
set_option linter.unusedSimpArgs false
set_option linter.unusedVariables false
set_option maxHeartbeats 8000000
set_option maxRecDepth 20000
set_option maxRecDepth 100000
namespace Go.Proofs.YtcebllbikmgjpaaGreat
section
section
variable {n : Nat} [NeZero n]
theorem lin3 (L R q1 q2 q3 e1 e2 e3 : Fin n) (h : L - R = q1 * e1 + q2 * e2 + q3 * e3) (h1 : e1 = 0) (h2 : e2 = 0) (h3 : e3 = 0) : L = R := by
 subst h1 h2 h3
 grind
theorem rx (d x1 y1 x2 y2 x3 y3 : Fin n) (h1 : x1*x1 + y1*y1 - 1 - d*x1*x1*y1*y1 = 0) (h2 : x2*x2 + y2*y2 - 1 - d*x2*x2*y2*y2 = 0) (h3 : x3*x3 + y3*y3 - 1 - d*x3*x3*y3*y3 = 0) :
  ((x1*y2+y1*x2)*(1-d*x1*x2*y1*y2)*y3+(y1*y2-x1*x2)*(1+d*x1*x2*y1*y2)*x3)*((1+d*x2*x3*y2*y3)*(1-d*x2*x3*y2*y3)+d*x1*y1*(x2*y3+y2*x3)*(y2*y3-x2*x3)) =
  (x1*(y2*y3-x2*x3)*(1+d*x2*x3*y2*y3)+y1*(x2*y3+y2*x3)*(1-d*x2*x3*y2*y3))*((1+d*x1*x2*y1*y2)*(1-d*x1*x2*y1*y2)+d*(x1*y2+y1*x2)*(y1*y2-x1*x2)*x3*y3) := by
 refine lin3 _ _ (0 + d*d*x1*x2*x2*x2*x2*y2*y2*y2*x3*x3*y3 - d*d*x1*x2*x2*x2*y2*y2*y2*y2*x3*y3*y3 + d*d*y1*x2*x2*x2*x2*y2*y2*y2*x3*y3*y3 + d*d*y1*x2*x2*x2*y2*y2*y2*y2*x3*x3*y3 - d*x1*x2*x2*x2*x2*y2*x3*x3*y3 - d*x1*x2*x2*x2*y2*y2*x3*x3*x3 + d*x1*x2*x2*x2*y2*y2*x3 + d*x1*x2*x2*y2*y2*y2*y3*y3*y3 - d*x1*x2*x2*y2*y2*y2*y3 + d*x1*x2*y2*y2*y2*y2*x3*y3*y3 - d*y1*x2*x2*x2*x2*y2*x3*y3*y3 + d*y1*x2*x2*x2*y2*y2*y3*y3*y3 - d*y1*x2*x2*x2*y2*y2*y3 + d*y1*x2*x2*y2*y2*y2*x3*x3*x3 - d*y1*x2*x2*y2*y2*y2*x3 - d*y1*x2*y2*y2*y2*y2*x3*x3*y3) (0 - d*d*x1*x1*y1*x2*x2*y2*x3*x3*x3*y3*y3 - d*d*x1*x1*y1*x2*y2*y2*x3*x3*y3*y3*y3 - d*d*x1*y1*y1*x2*x2*y2*x3*x3*y3*y3*y3 + d*d*x1*y1*y1*x2*y2*y2*x3*x3*x3*y3*y3 + d*x1*x1*x1*x2*x2*y2*x3*x3*y3 - d*x1*x1*x1*x2*y2*y2*x3*y3*y3 + d*x1*x1*x1*x2*x3*x3*x3*y3*y3 - d*x1*x1*x1*y2*x3*x3*y3*y3*y3 + d*x1*x1*y1*x2*x2*y2*x3*y3*y3 + d*x1*x1*y1*x2*y2*y2*x3*x3*y3 - d*x1*x1*y1*x2*x3*x3*y3*y3*y3 - d*x1*x1*y1*y2*x3*x3*x3*y3*y3 + d*x1*y1*y1*x2*x2*y2*x3*x3*y3 - d*x1*y1*y1*x2*y2*y2*x3*y3*y3 + d*x1*y1*y1*x2*x3*x3*x3*y3*y3 - d*x1*y1*y1*y2*x3*x3*y3*y3*y3 - d*x1*x2*x2*y2*x3*x3*y3 + d*x1*x2*y2*y2*x3*y3*y3 - d*x1*x2*x3*x3*x3*y3*y3 + d*x1*y2*x3*x3*y3*y3*y3 + d*y1*y1*y1*x2*x2*y2*x3*y3*y3 + d*y1*y1*y1*x2*y2*y2*x3*x3*y3 - d*y1*y1*y1*x2*x3*x3*y3*y3*y3 - d*y1*y1*y1*y2*x3*x3*x3*y3*y3 - d*y1*x2*x2*y2*x3*y3*y3 - d*y1*x2*y2*y2*x3*x3*y3 + d*y1*x2*x3*x3*y3*y3*y3 + d*y1*y2*x3*x3*x3*y3*y3 - x1*x1*x1*x2*x3*x3*x3 - x1*x1*x1*x2*x3*y3*y3 + x1*x1*x1*x2*x3 + x1*x1*x1*y2*x3*x3*y3 + x1*x1*x1*y2*y3*y3*y3 - x1*x1*x1*y2*y3 + x1*x1*y1*x2*x3*x3*y3 + x1*x1*y1*x2*y3*y3*y3 - x1*x1*y1*x2*y3 + x1*x1*y1*y2*x3*x3*x3 + x1*x1*y1*y2*x3*y3*y3 - x1*x1*y1*y2*x3 - x1*y1*y1*x2*x3*x3*x3 - x1*y1*y1*x2*x3*y3*y3 + x1*y1*y1*x2*x3 + x1*y1*y1*y2*x3*x3*y3 + x1*y1*y1*y2*y3*y3*y3 - x1*y1*y1*y2*y3 + x1*x2*x3*x3*x3 + x1*x2*x3*y3*y3 - x1*x2*x3 - x1*y2*x3*x3*y3 - x1*y2*y3*y3*y3 + x1*y2*y3 + y1*y1*y1*x2*x3*x3*y3 + y1*y1*y1*x2*y3*y3*y3 - y1*y1*y1*x2*y3 + y1*y1*y1*y2*x3*x3*x3 + y1*y1*y1*y2*x3*y3*y3 - y1*y1*y1*y2*x3 - y1*x2*x3*x3*y3 - y1*x2*y3*y3*y3 + y1*x2*y3 - y1*y2*x3*x3*x3 - y1*y2*x3*y3*y3 + y1*y2*x3) (0 + d*x1*x1*y1*x2*x2*y2*x3 + d*x1*x1*y1*x2*y2*y2*y3 + d*x1*y1*y1*x2*x2*y2*y3 - d*x1*y1*y1*x2*y2*y2*x3 + x1*x1*x1*x2*x2*x2*x3 - x1*x1*x1*x2*x2*y2*y3 + x1*x1*x1*x2*y2*y2*x3 - x1*x1*x1*x2*x3 - x1*x1*x1*y2*y2*y2*y3 + x1*x1*x1*y2*y3 - x1*x1*y1*x2*x2*x2*y3 - x1*x1*y1*x2*x2*y2*x3 - x1*x1*y1*x2*y2*y2*y3 + x1*x1*y1*x2*y3 - x1*x1*y1*y2*y2*y2*x3 + x1*x1*y1*y2*x3 + x1*y1*y1*x2*x2*x2*x3 - x1*y1*y1*x2*x2*y2*y3 + x1*y1*y1*x2*y2*y2*x3 - x1*y1*y1*x2*x3 - x1*y1*y1*y2*y2*y2*y3 + x1*y1*y1*y2*y3 - x1*x2*x2*x2*x3 + x1*x2*x2*y2*y3 - x1*x2*y2*y2*x3 + x1*x2*x3 + x1*y2*y2*y2*y3 - x1*y2*y3 - y1*y1*y1*x2*x2*x2*y3 - y1*y1*y1*x2*x2*y2*x3 - y1*y1*y1*x2*y2*y2*y3 + y1*y1*y1*x2*y3 - y1*y1*y1*y2*y2*y2*x3 + y1*y1*y1*y2*x3 + y1*x2*x2*x2*y3 + y1*x2*x2*y2*x3 + y1*x2*y2*y2*y3 - y1*x2*y3 + y1*y2*y2*y2*x3 - y1*y2*x3) _ _ _ ?_ h1 h2 h3
 clear h1 h2 h3
 grind
theorem ry (d x1 y1 x2 y2 x3 y3 : Fin n) (h1 : x1*x1 + y1*y1 - 1 - d*x1*x1*y1*y1 = 0) (h2 : x2*x2 + y2*y2 - 1 - d*x2*x2*y2*y2 = 0) (h3 : x3*x3 + y3*y3 - 1 - d*x3*x3*y3*y3 = 0) :
  ((y1*y2-x1*x2)*(1+d*x1*x2*y1*y2)*y3-(x1*y2+y1*x2)*(1-d*x1*x2*y1*y2)*x3)*((1+d*x2*x3*y2*y3)*(1-d*x2*x3*y2*y3)-d*x1*y1*(x2*y3+y2*x3)*(y2*y3-x2*x3)) =
  (y1*(y2*y3-x2*x3)*(1+d*x2*x3*y2*y3)-x1*(x2*y3+y2*x3)*(1-d*x2*x3*y2*y3))*((1+d*x1*x2*y1*y2)*(1-d*x1*x2*y1*y2)-d*(x1*y2+y1*x2)*(y1*y2-x1*x2)*x3*y3) := by
 refine lin3 _ _ (0 - d*d*x1*x2*x2*x2*x2*y2*y2*y2*x3*y3*y3 - d*d*x1*x2*x2*x2*y2*y2*y2*y2*x3*x3*y3 + d*d*y1*x2*x2*x2*x2*y2*y2*y2*x3*x3*y3 - d*d*y1*x2*x2*x2*y2*y2*y2*y2*x3*y3*y3 + d*x1*x2*x2*x2*x2*y2*x3*y3*y3 - d*x1*x2*x2*x2*y2*y2*y3*y3*y3 + d*x1*x2*x2*x2*y2*y2*y3 - d*x1*x2*x2*y2*y2*y2*x3*x3*x3 + d*x1*x2*x2*y2*y2*y2*x3 + d*x1*x2*y2*y2*y2*y2*x3*x3*y3 - d*y1*x2*x2*x2*x2*y2*x3*x3*y3 - d*y1*x2*x2*x2*y2*y2*x3*x3*x3 + d*y1*x2*x2*x2*y2*y2*x3 + d*y1*x2*x2*y2*y2*y2*y3*y3*y3 - d*y1*x2*x2*y2*y2*y2*y3 + d*y1*x2*y2*y2*y2*y2*x3*y3*y3) (0 - d*d*x1*x1*y1*x2*x2*y2*x3*x3*y3*y3*y3 + d*d*x1*x1*y1*x2*y2*y2*x3*x3*x3*y3*y3 + d*d*x1*y1*y1*x2*x2*y2*x3*x3*x3*y3*y3 + d*d*x1*y1*y1*x2*y2*y2*x3*x3*y3*y3*y3 - d*x1*x1*x1*x2*x2*y2*x3*y3*y3 - d*x1*x1*x1*x2*y2*y2*x3*x3*y3 + d*x1*x1*x1*x2*x3*x3*y3*y3*y3 + d*x1*x1*x1*y2*x3*x3*x3*y3*y3 + d*x1*x1*y1*x2*x2*y2*x3*x3*y3 - d*x1*x1*y1*x2*y2*y2*x3*y3*y3 + d*x1*x1*y1*x2*x3*x3*x3*y3*y3 - d*x1*x1*y1*y2*x3*x3*y3*y3*y3 - d*x1*y1*y1*x2*x2*y2*x3*y3*y3 - d*x1*y1*y1*x2*y2*y2*x3*x3*y3 + d*x1*y1*y1*x2*x3*x3*y3*y3*y3 + d*x1*y1*y1*y2*x3*x3*x3*y3*y3 + d*x1*x2*x2*y2*x3*y3*y3 + d*x1*x2*y2*y2*x3*x3*y3 - d*x1*x2*x3*x3*y3*y3*y3 - d*x1*y2*x3*x3*x3*y3*y3 + d*y1*y1*y1*x2*x2*y2*x3*x3*y3 - d*y1*y1*y1*x2*y2*y2*x3*y3*y3 + d*y1*y1*y1*x2*x3*x3*x3*y3*y3 - d*y1*y1*y1*y2*x3*x3*y3*y3*y3 - d*y1*x2*x2*y2*x3*x3*y3 + d*y1*x2*y2*y2*x3*y3*y3 - d*y1*x2*x3*x3*x3*y3*y3 + d*y1*y2*x3*x3*y3*y3*y3 - x1*x1*x1*x2*x3*x3*y3 - x1*x1*x1*x2*y3*y3*y3 + x1*x1*x1*x2*y3 - x1*x1*x1*y2*x3*x3*x3 - x1*x1*x1*y2*x3*y3*y3 + x1*x1*x1*y2*x3 - x1*x1*y1*x2*x3*x3*x3 - x1*x1*y1*x2*x3*y3*y3 + x1*x1*y1*x2*x3 + x1*x1*y1*y2*x3*x3*y3 + x1*x1*y1*y2*y3*y3*y3 - x1*x1*y1*y2*y3 - x1*y1*y1*x2*x3*x3*y3 - x1*y1*y1*x2*y3*y3*y3 + x1*y1*y1*x2*y3 - x1*y1*y1*y2*x3*x3*x3 - x1*y1*y1*y2*x3*y3*y3 + x1*y1*y1*y2*x3 + x1*x2*x3*x3*y3 + x1*x2*y3*y3*y3 - x1*x2*y3 + x1*y2*x3*x3*x3 + x1*y2*x3*y3*y3 - x1*y2*x3 - y1*y1*y1*x2*x3*x3*x3 - y1*y1*y1*x2*x3*y3*y3 + y1*y1*y1*x2*x3 + y1*y1*y1*y2*x3*x3*y3 + y1*y1*y1*y2*y3*y3*y3 - y1*y1*y1*y2*y3 + y1*x2*x3*x3*x3 + y1*x2*x3*y3*y3 - y1*x2*x3 - y1*y2*x3*x3*y3 - y1*y2*y3*y3*y3 + y1*y2*y3) (0 + d*x1*x1*y1*x2*x2*y2*y3 - d*x1*x1*y1*x2*y2*y2*x3 - d*x1*y1*y1*x2*x2*y2*x3 - d*x1*y1*y1*x2*y2*y2*y3 + x1*x1*x1*x2*x2*x2*y3 + x1*x1*x1*x2*x2*y2*x3 + x1*x1*x1*x2*y2*y2*y3 - x1*x1*x1*x2*y3 + x1*x1*x1*y2*y2*y2*x3 - x1*x1*x1*y2*x3 + x1*x1*y1*x2*x2*x2*x3 - x1*x1*y1*x2*x2*y2*y3 + x1*x1*y1*x2*y2*y2*x3 - x1*x1*y1*x2*x3 - x1*x1*y1*y2*y2*y2*y3 + x1*x1*y1*y2*y3 + x1*y1*y1*x2*x2*x2*y3 + x1*y1*y1*x2*x2*y2*x3 + x1*y1*y1*x2*y2*y2*y3 - x1*y1*y1*x2*y3 + x1*y1*y1*y2*y2*y2*x3 - x1*y1*y1*y2*x3 - x1*x2*x2*x2*y3 - x1*x2*x2*y2*x3 - x1*x2*y2*y2*y3 + x1*x2*y3 - x1*y2*y2*y2*x3 + x1*y2*x3 + y1*y1*y1*x2*x2*x2*x3 - y1*y1*y1*x2*x2*y2*y3 + y1*y1*y1*x2*y2*y2*x3 - y1*y1*y1*x2*x3 - y1*y1*y1*y2*y2*y2*y3 + y1*y1*y1*y2*y3 - y1*x2*x2*x2*x3 + y1*x2*x2*y2*y3 - y1*x2*y2*y2*x3 + y1*x2*x3 + y1*y2*y2*y2*y3 - y1*y2*y3) _ _ _ ?_ h1 h2 h3
 clear h1 h2 h3
 grind
end
end
section
structure Fld (n : Nat) [NeZero n] (d : Fin n) (inv : Fin n → Fin n) : Prop where
 dom : ∀ a b : Fin n, a * b = 0 → a = 0 ∨ b = 0
 mi : ∀ a : Fin n, a ≠ 0 → a * inv a = 1
 inv0 : inv 0 = 0
 one : (1 : Fin n) ≠ 0
 two : (1 : Fin n) + 1 ≠ 0
 nsq : ∀ s : Fin n, s * s ≠ d
structure Pt (n : Nat) where
 x : Fin n
 y : Fin n
section
variable {n : Nat} [NeZero n] {d : Fin n} {inv : Fin n → Fin n}
end
end
section
section
variable {n : Nat} [NeZero n] {d : Fin n} {inv : Fin n → Fin n}
structure LadE (n : Nat) where
 x : Fin n
 z : Fin n
 w : Fin n
 t : Fin n
end
end
section
theorem nodeRefuses_closed : joinedFacts Tryz.pinned.checked.prog 5 Tryz.f5 Rows.nodeRefusesSpec Rows.nodeRefusesRow = true := by kernel_rfl
theorem nodeRefuses_named : Tryz.pinned.checked.prog.funcNamed Rows.nodeRefusesRow.func = some 5 := by kernel_rfl
theorem nodeRefuses_inst : Tryz.f5.isInstance Tryz.pinned.checked.prog Rows.nodeRefusesRow.origin Rows.nodeRefusesRow.targs := of_decide_eq_true (by kernel_rfl)
theorem nodeRefuses_wrap : Tryz.f5.isWrapper Tryz.pinned.checked.prog Rows.nodeRefusesRow.wrapper Rows.nodeRefusesRow.mainSum := by
 unfold Func.isWrapper
 first | (rw [if_pos (by decide +kernel)]; kernel_rfl) | (rw [if_neg (by decide +kernel)]; exact ⟨rfl, rfl⟩)
end
end Go.Proofs.YtcebllbikmgjpaaGreat
