/- Texts of this proof, merged: GrR, GrT, GrP, GrI. -/
import Derived.Test.YtakkicppgkmokaaJ33
import Derived.Test.YtakkicppgkmokaaJ9
import Derived.Test.YtakkicppgkmokaaCmpJ
import Derived.Lib.Hide
/- Contracts of the reference of chapter 6: the rest of a number of bytes. -/
section
set_option linter.unusedSimpArgs false
set_option linter.unusedVariables false
namespace Go.Proofs.Ytakkicppgkmokaa
open Go.RowKit
theorem gDs_succ (t : List Nat) (n : Nat) : (List.range (n + 1)).map (gD t) = (List.range n).map (gD t) ++ [gD t n] := by simp [List.range_succ]
end Go.Proofs.Ytakkicppgkmokaa
end

/- Contracts of the reference of chapter 6: a product of elements. -/
section
set_option linter.unusedSimpArgs false
set_option linter.unusedVariables false
namespace Go.Proofs.Ytakkicppgkmokaa
open Go.RowKit
theorem getD_zerosG (n i : Nat) : (List.replicate n 0).getD i 0 = 0 := by
  rw [List.getD_eq_getElem?_getD, List.getElem?_replicate]
  split <;> rfl
end Go.Proofs.Ytakkicppgkmokaa
end

/- Contracts of the reference of chapter 6: an element of a key, a key of an element, an inverse. -/
section
set_option linter.unusedSimpArgs false
set_option linter.unusedVariables false
namespace Go.Proofs.Ytakkicppgkmokaa
open Go.RowKit
def ints8G (l : List UInt8) : List Nat := l.map UInt8.toNat
theorem ints8G_length (l : List UInt8) : (ints8G l).length = l.length := by simp [ints8G]
theorem ints8G_dig (l : List UInt8) : Dig (ints8G l) := by
  intro x hx
  obtain ⟨b, _, rfl⟩ := List.mem_map.1 hx
  exact b.toNat_lt
/-- a key as a number -/
def nK (k : List UInt8) : Nat := valB ((ints8G k).set 31 ((ints8G k).getD 31 0 % 128))
/-- an element's key -/
def kB (v : Nat) : List UInt8 := (digB v).map UInt8.ofNat
theorem kB_length (v : Nat) : (kB v).length = 32 := by simp [kB, digB_length]
end Go.Proofs.Ytakkicppgkmokaa
end

/- Contracts of the reference of chapter 6: an inverse. -/
section
set_option linter.unusedSimpArgs false
set_option linter.unusedVariables false
namespace Go.Proofs.Ytakkicppgkmokaa
open Go.RowKit
def eB : Nat → Nat
  | 0 => 0
  | k + 1 => if k = 252 ∨ k = 250 then 2 * eB k else 2 * eB k + 1
theorem pow_two_mod (a e : Nat) : (a ^ e % pB) * (a ^ e % pB) % pB = a ^ (2 * e) % pB := by
  rw [← Nat.mul_mod, ← Nat.pow_add, Nat.two_mul]
theorem pow_one_mod (a e : Nat) : a ^ e % pB * a % pB = a ^ (e + 1) % pB := by
  rw [Nat.pow_succ, Nat.mul_mod, Nat.mod_mod, ← Nat.mul_mod]
theorem digB_one : digB 1 = 1 :: List.replicate 31 0 := by decide +kernel
theorem one_cellsG : (Value.int .i64 1 :: (zeros 32 (Value.int .i64 0)).tail) = n64s (digB 1) := by
  rw [digB_one]
  rfl
end Go.Proofs.Ytakkicppgkmokaa
end
