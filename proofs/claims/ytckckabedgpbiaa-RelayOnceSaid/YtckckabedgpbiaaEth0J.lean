/- Contracts of package ether: what can be printed. -/
import Derived.Test.YtckckabedgpbiaaOctJ
import Derived.Test.YtckckabedgpbiaaCmpJ
set_option linter.unusedSimpArgs false
set_option linter.unusedVariables false
set_option maxRecDepth 4000
namespace Go.Proofs.Ytckckabedgpbiaa
open Go.RowKit
def ethV (dst src : Vector UInt8 6) (ty : Int) (body : List UInt8) (vlan prio : Int) : List Value := u8v dst ++ (u8v src ++ [.int .i64 ty, .string ⟨body.toArray⟩, .int .i64 vlan, .int .i64 prio])
def rightB (ty vlan prio size : Int) : Bool := (ty == 0 || (decide (1536 ≤ ty) && decide (ty ≤ 65535) && ty != 33024)) && ((vlan == -1 && prio == 0) || (decide (0 ≤ vlan) && decide (vlan ≤ 4094) && decide (0 ≤ prio) && decide (prio ≤ 7))) && decide (size ≤ 1500)
theorem four_cells (l t : List Value) (h : l.length = 4) : l[0] :: l[1] :: l[2] :: l[3] :: t = l ++ t := by
 match l, h with
 | [a, b, c, d], _ => rfl
theorem six_cells (l t : List Value) (h : l.length = 6) : l[0] :: l[1] :: l[2] :: l[3] :: l[4] :: l[5] :: t = l ++ t := by
 match l, h with
 | [a, b, c, d, e, f], _ => rfl
@[simp] theorem u8v_six (v : Vector UInt8 6) (t : List Value) : (u8v v)[0]'(by simp) :: (u8v v)[1]'(by simp) :: (u8v v)[2]'(by simp) :: (u8v v)[3]'(by simp) :: (u8v v)[4]'(by simp) :: (u8v v)[5]'(by simp) :: t = u8v v ++ t := six_cells _ _ (by simp)
@[simp] theorem u8v_four (v : Vector UInt8 4) (t : List Value) : (u8v v)[0]'(by simp) :: (u8v v)[1]'(by simp) :: (u8v v)[2]'(by simp) :: (u8v v)[3]'(by simp) :: t = u8v v ++ t := four_cells _ _ (by simp)
set_option maxRecDepth 20000 in
set_option maxHeartbeats 4000000 in
theorem right_any (dst src : Vector UInt8 6) (ty : Int) (body : List UInt8) (vlan prio : Int) (w : World) :
  Calls Try.prog 61 #[.agg (ethV dst src ty body vlan prio).toArray] w fun e w' => e = .returned (.bool (rightB ty vlan prio body.length)) ∧ Below w.heap.size w w' := by
 unfold ethV
 go_enter Try.func61, Try.ntmps61
 go_wp2_with fail
 all_goals
  go_ret
  refine ⟨?_, by (repeat (first | exact Below.refl _ _ | refine Below.al ?_ _ | refine Below.drew ?_ | refine Below.sr ?_ _ | refine Below.sc ?_ _))⟩
  simp only [rightB]
  first
   | (simp [*]; done)
   | (simp [*]; omega)
   | (by_cases h33 : ty = 33024 <;> by_cases h00 : ty = 0 <;> (first | (simp [*]; done) | (simp [*]; omega) | omega))
end Go.Proofs.Ytckckabedgpbiaa
