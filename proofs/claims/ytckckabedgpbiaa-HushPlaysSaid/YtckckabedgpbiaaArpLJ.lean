/- What the laws of package arp share: opening the argument; the printed bytes read again. -/
import Derived.Test.YtckckabedgpbiaaJ14
import Derived.Test.YtckckabedgpbiaaFrameJ
set_option linter.unusedSimpArgs false
set_option linter.unusedVariables false
set_option maxRecDepth 4000
namespace Go.Proofs.Ytckckabedgpbiaa
open Go.ChangeShapes Go.WideShapes Go.ChangeAt Go.RowKit
theorem vecAt_app {n : Nat} (a c : List UInt8) (v : Vector UInt8 n) (k : Nat) (h : a.length = k) : vecAt (a ++ (v.toList ++ c)) k n = v := by
 apply Vector.toList_inj.1
 rw [vecAt_toList _ _ _ (by simp; omega)]
 subst h
 rw [List.drop_left, List.take_left' (by simp)]
theorem arpS_length (op : Nat) (mac tgt : Vector UInt8 6) (ip want : Vector UInt8 4) : (arpS op mac tgt ip want).length = 28 := by simp [arpS]
section
variable (op : Nat) (mac tgt : Vector UInt8 6) (ip want : Vector UInt8 4) (more : List UInt8)
theorem arpS_head : (vecAt (arpS op mac tgt ip want ++ more) 0 6).toList = [0, 1, 8, 0, 6, 4] := by
 rw [vecAt_toList _ _ _ (by simp [arpS])]
 simp [arpS]
theorem arpS_op : (vecAt (arpS op mac tgt ip want ++ more) 6 2).toList = bytesN op 2 := by
 rw [vecAt_toList _ _ _ (by simp [arpS])]
 simp [arpS, List.drop_append, List.take_append, List.drop_of_length_le, List.take_of_length_le]
theorem arpS_mac : vecAt (arpS op mac tgt ip want ++ more) 8 6 = mac := by
 have : arpS op mac tgt ip want ++ more = ([0, 1, 8, 0, 6, 4] ++ bytesN op 2) ++ (mac.toList ++ (ip.toList ++ (tgt.toList ++ (want.toList ++ more)))) := by simp [arpS]
 rw [this, vecAt_app _ _ _ _ (by simp)]
theorem arpS_ip : vecAt (arpS op mac tgt ip want ++ more) 14 4 = ip := by
 have : arpS op mac tgt ip want ++ more = ([0, 1, 8, 0, 6, 4] ++ (bytesN op 2 ++ mac.toList)) ++ (ip.toList ++ (tgt.toList ++ (want.toList ++ more))) := by simp [arpS]
 rw [this, vecAt_app _ _ _ _ (by simp)]
theorem arpS_tgt : vecAt (arpS op mac tgt ip want ++ more) 18 6 = tgt := by
 have : arpS op mac tgt ip want ++ more = ([0, 1, 8, 0, 6, 4] ++ (bytesN op 2 ++ (mac.toList ++ ip.toList))) ++ (tgt.toList ++ (want.toList ++ more)) := by simp [arpS]
 rw [this, vecAt_app _ _ _ _ (by simp)]
theorem arpS_want : vecAt (arpS op mac tgt ip want ++ more) 24 4 = want := by
 have : arpS op mac tgt ip want ++ more = ([0, 1, 8, 0, 6, 4] ++ (bytesN op 2 ++ (mac.toList ++ (ip.toList ++ tgt.toList)))) ++ (want.toList ++ more) := by simp [arpS]
 rw [this, vecAt_app _ _ _ _ (by simp)]
end
theorem parse_print (op : Nat) (mac tgt : Vector UInt8 6) (ip want : Vector UInt8 4) (more : List UInt8) (w : World) (hop : op = 1 ∨ op = 2) (hm : more.length ≤ 1000) :
  Calls Try.prog 43 #[.string ⟨(arpS op mac tgt ip want ++ more).toArray⟩] w fun e w' => e = .returned (.tuple #[.agg (arpV op mac tgt ip want).toArray, .int .i64 0]) ∧ Below w.heap.size w w' := by
 have hl : (arpS op mac tgt ip want ++ more).length = 28 + more.length := by rw [List.length_append, arpS_length]
 have hh := arpS_head op mac tgt ip want more
 have ho : numN (vecAt (arpS op mac tgt ip want ++ more) 6 2).toList = op := by
  rw [arpS_op, numN_bytesN]
  rcases hop with rfl | rfl <;> rfl
 rcases hop with rfl | rfl
 ·
  have := parse_op1 _ w (by omega) (by omega) hh ho
  rwa [arpS_mac, arpS_ip, arpS_tgt, arpS_want] at this
 ·
  have := parse_op2 _ w (by omega) (by omega) hh ho
  rwa [arpS_mac, arpS_ip, arpS_tgt, arpS_want] at this
end Go.Proofs.Ytckckabedgpbiaa
