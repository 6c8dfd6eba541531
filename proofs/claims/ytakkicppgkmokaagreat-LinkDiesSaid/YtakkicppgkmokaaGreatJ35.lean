/- Texts of this proof, merged: GrR, GrT, GrP, GrI. -/
import Derived.Test.YtakkicppgkmokaaGreatJ34
import Derived.Test.YtakkicppgkmokaaGreatJ12
import Derived.Test.YtakkicppgkmokaaGreatCmpJ
import Derived.Lib.Hide
set_option linter.unusedSimpArgs false
set_option linter.unusedVariables false
namespace Go.Proofs.YtakkicppgkmokaaGreat
section
open Go.RowKit
end
section
open Go.RowKit
end
section
open Go.RowKit
def ints8G (l : List UInt8) : List Nat := l.map UInt8.toNat
theorem ints8G_length (l : List UInt8) : (ints8G l).length = l.length := by simp [ints8G]
def nK (k : List UInt8) : Nat := valB ((ints8G k).set 31 ((ints8G k).getD 31 0 % 128))
def kB (v : Nat) : List UInt8 := (digB v).map UInt8.ofNat
theorem kB_length (v : Nat) : (kB v).length = 32 := by simp [kB, digB_length]
end
section
open Go.RowKit
def eB : Nat → Nat
 | 0 => 0
 | k + 1 => if k = 252 ∨ k = 250 then 2 * eB k else 2 * eB k + 1
end
end Go.Proofs.YtakkicppgkmokaaGreat
