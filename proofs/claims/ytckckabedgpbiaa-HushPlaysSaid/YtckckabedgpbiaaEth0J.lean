/- Contracts of package ether: what can be printed. -/
import Derived.Test.YtckckabedgpbiaaOctJ
import Derived.Test.YtckckabedgpbiaaCmpJ
set_option linter.unusedSimpArgs false
set_option linter.unusedVariables false
set_option maxRecDepth 4000
namespace Go.Proofs.Ytckckabedgpbiaa
open Go.RowKit
theorem four_cells (l t : List Value) (h : l.length = 4) : l[0] :: l[1] :: l[2] :: l[3] :: t = l ++ t := by
 match l, h with
 | [a, b, c, d], _ => rfl
theorem six_cells (l t : List Value) (h : l.length = 6) : l[0] :: l[1] :: l[2] :: l[3] :: l[4] :: l[5] :: t = l ++ t := by
 match l, h with
 | [a, b, c, d, e, f], _ => rfl
@[simp] theorem u8v_six (v : Vector UInt8 6) (t : List Value) : (u8v v)[0]'(by simp) :: (u8v v)[1]'(by simp) :: (u8v v)[2]'(by simp) :: (u8v v)[3]'(by simp) :: (u8v v)[4]'(by simp) :: (u8v v)[5]'(by simp) :: t = u8v v ++ t := six_cells _ _ (by simp)
@[simp] theorem u8v_four (v : Vector UInt8 4) (t : List Value) : (u8v v)[0]'(by simp) :: (u8v v)[1]'(by simp) :: (u8v v)[2]'(by simp) :: (u8v v)[3]'(by simp) :: t = u8v v ++ t := four_cells _ _ (by simp)
end Go.Proofs.Ytckckabedgpbiaa
