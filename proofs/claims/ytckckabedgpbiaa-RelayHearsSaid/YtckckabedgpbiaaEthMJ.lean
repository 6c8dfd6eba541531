/- Frames parsed and printed, right or wrong. -/
import Derived.Test.YtckckabedgpbiaaJ25
import Derived.Test.YtckckabedgpbiaaFrameJ
import Derived.Deep.OwnRows
set_option linter.unusedSimpArgs false
set_option linter.unusedVariables false
set_option maxRecDepth 4000
namespace Go.Proofs.Ytckckabedgpbiaa
open Go.ChangeShapes Go.WideShapes Go.ChangeAt Go.RowKit
theorem ethParse_ok (l : List UInt8) (d : EthD) (w : World) (hl : l.length ≤ 1000000) (h : ethParse l = .ok d) :
  Calls Try.prog 41 #[.string ⟨l.toArray⟩] w fun e w' => e = .returned (.tuple #[.agg (ethV d.dst d.src d.ty d.body d.vlan d.prio).toArray, .int .i64 0]) ∧ Below w.heap.size w w' := by
 have := ethParse_any l w hl
 rwa [h] at this
@[simp, go_sem] theorem zeroEth_cells : zeros 12 (Value.int .u8 0) ++ Value.int .i64 0 :: Value.string ⟨#[]⟩ :: zeros 2 (Value.int .i64 0) = u8v mac0 ++ (u8v mac0 ++ [Value.int .i64 0, .string ⟨#[]⟩, .int .i64 0, .int .i64 0]) := rfl
theorem zeroEth_eq : zeroEth = ethV mac0 mac0 0 [] 0 0 := rfl
theorem ethParse_err (l : List UInt8) (n : Int) (w : World) (hl : l.length ≤ 1000000) (h : ethParse l = .error n) :
  Calls Try.prog 41 #[.string ⟨l.toArray⟩] w fun e w' => e = .returned (.tuple #[.agg (ethV mac0 mac0 0 [] 0 0).toArray, .int .i64 n]) ∧ Below w.heap.size w w' := by
 have := ethParse_any l w hl
 rw [h] at this
 rwa [← zeroEth_eq]
theorem ethS_small (dst src : Vector UInt8 6) (ty : Int) (body : List UInt8) (vlan prio : Int) (hr : rightB ty vlan prio body.length = true) :
  (ethS dst src ty body vlan prio).length ≤ 1518 ∧ 14 ≤ (ethS dst src ty body vlan prio).length := by
 have h := ethS_len dst src ty body vlan prio hr
 simp [rightB] at hr
 by_cases hv : 0 ≤ vlan
 ·
  rw [if_pos hv] at h
  omega
 ·
  rw [if_neg hv] at h
  omega
end Go.Proofs.Ytckckabedgpbiaa
