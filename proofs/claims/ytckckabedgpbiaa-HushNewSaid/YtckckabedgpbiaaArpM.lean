/- Questions and answers printed and parsed; addresses as arguments. -/
import Derived.Test.YtckckabedgpbiaaArpF
import Derived.Test.YtckckabedgpbiaaFrame
set_option linter.unusedSimpArgs false
set_option linter.unusedVariables false
set_option maxRecDepth 4000
namespace Go.Proofs.Ytckckabedgpbiaa
open Go.ChangeShapes Go.WideShapes Go.ChangeAt Go.RowKit
theorem parse_printed (op : Nat) (mac tgt : Vector UInt8 6) (ip want : Vector UInt8 4) (w : World) (hop : op = 1 ∨ op = 2) :
    Calls Try.prog 43 #[.string ⟨(arpS op mac tgt ip want).toArray⟩] w fun e w' => e = .returned (.tuple #[.agg (arpV op mac tgt ip want).toArray, .int .i64 0]) ∧ Below w.heap.size w w' := by
  have := parse_print op mac tgt ip want [] w hop (by simp)
  rwa [List.append_nil] at this
theorem ethPrint_arp (dst src : Vector UInt8 6) (op : Nat) (mac tgt : Vector UInt8 6) (ip want : Vector UInt8 4) (vlan : Int) (w : World) (hv : vlan = -1 ∨ vlan = 7) :
    Calls Try.prog 32 #[.agg (u8v dst ++ (u8v src ++ [Value.int .i64 2054, .string ⟨(arpS op mac tgt ip want).toArray⟩, .int .i64 vlan, .int .i64 0])).toArray] w fun e w' => e = .returned (.tuple #[.string ⟨(ethS dst src 2054 (arpS op mac tgt ip want) vlan 0).toArray⟩, .int .i64 0]) ∧ Below w.heap.size w w' := by
  refine ethPrint_any dst src 2054 _ vlan 0 w ?_
  rw [arpS_length]
  rcases hv with rfl | rfl <;> rfl
theorem open_mac {W : World} {base : Nat} {v : Value} (h : Value.okWide Try.prog W .any base 30 v) : ∃ x : Vector UInt8 6, v = .agg (u8v x).toArray := by
  obtain ⟨vs, hv, hg⟩ := open_plain (ls := leaves 6 (.int .u8) ++ []) Try.underlying30 rfl (by kernel_rfl) (by kernel_rfl) h
  obtain ⟨x, r, e, h2⟩ := goods_u8 hg
  have e2 := goods_nil h2
  exact ⟨x, by rw [hv, e, e2, List.append_nil]⟩
theorem open_four {W : World} {base : Nat} {v : Value} (h : Value.okWide Try.prog W .any base 46 v) : ∃ x : Vector UInt8 4, v = .agg (u8v x).toArray := by
  obtain ⟨vs, hv, hg⟩ := open_plain (ls := leaves 4 (.int .u8) ++ []) Try.underlying46 rfl (by kernel_rfl) (by kernel_rfl) h
  obtain ⟨x, r, e, h2⟩ := goods_u8 hg
  have e2 := goods_nil h2
  exact ⟨x, by rw [hv, e, e2, List.append_nil]⟩
end Go.Proofs.Ytckckabedgpbiaa
