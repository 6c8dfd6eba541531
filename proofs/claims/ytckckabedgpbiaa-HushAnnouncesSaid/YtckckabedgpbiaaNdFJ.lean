/- Plain facts on printed questions and answers: where their parts lie. No walk here. -/
import Derived.Test.YtckckabedgpbiaaNdOJ
set_option linter.unusedSimpArgs false
set_option linter.unusedVariables false
set_option maxRecDepth 4000
namespace Go.Proofs.Ytckckabedgpbiaa
open Go.RowKit
section
variable (op : Nat) (fr to ab : Vector UInt8 16) (mac : Vector UInt8 6) (has : Bool) (fl : Vector UInt8 4) (s : List UInt8) (hs : s.length = 2)
def szN (has : Bool) : Nat := if has then 32 else 24
theorem msgS_len2 (hs : s.length = 2) : (msgS op s ab mac has fl).length = szN has := by
 rw [msgS_length, hs, szN]
 cases has <;> rfl
theorem ndS_eq : ndS op fr to ab mac has fl = [96, 0, 0, 0] ++ (bytesN (szN has) 2 ++ ([58, 255] ++ (fr.toList ++ (to.toList ++ msgS op (bytesN (sumN op fr to ab mac has fl) 2) ab mac has fl)))) := by
 rw [ndS, printS, msgS_len2 op ab mac has fl [0, 0] rfl]
 simp [msgS]
theorem ndS_length : (ndS op fr to ab mac has fl).length = 40 + szN has := by
 rw [ndS_eq]
 simp [msgS_len2]
 omega
theorem sumN_le : sumN op fr to ab mac has fl ≤ 65535 := by unfold sumN sum16; omega
variable (more : List UInt8)
theorem nd_msg : ((ndS op fr to ab mac has fl ++ more).drop 40).take (szN has) = msgS op (bytesN (sumN op fr to ab mac has fl) 2) ab mac has fl := by
 have h : ndS op fr to ab mac has fl ++ more = ([96, 0, 0, 0] ++ (bytesN (szN has) 2 ++ ([58, 255] ++ (fr.toList ++ to.toList)))) ++ (msgS op (bytesN (sumN op fr to ab mac has fl) 2) ab mac has fl ++ more) := by
  rw [ndS_eq]
  simp
 rw [h, List.drop_left' (by simp), List.take_left' (msgS_len2 op ab mac has fl _ (by simp))]
end
end Go.Proofs.Ytckckabedgpbiaa
