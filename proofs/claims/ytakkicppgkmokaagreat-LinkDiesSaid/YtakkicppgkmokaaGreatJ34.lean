/- Texts of this proof, merged: GrV, GrD. -/
import Derived.Test.YtakkicppgkmokaaGreatJ12
set_option linter.unusedSimpArgs false
set_option linter.unusedVariables false
namespace Go.Proofs.YtakkicppgkmokaaGreat
section
open Go.RowKit
def gD (t : List Nat) (j : Nat) : Nat := t.getD j 0 / 128 + t.getD (j + 1) 0 % 128 * 2
end
section
open Go.RowKit
def pB : Nat := 57896044618658097711785492504343953926634992332820282019728792003956564819949
def digB (v : Nat) : List Nat := (List.range 32).map fun i => v / 256 ^ i % 256
theorem digB_length (v : Nat) : (digB v).length = 32 := by simp [digB]
theorem digB_dig (v : Nat) : Dig (digB v) := by
 intro x hx
 obtain ⟨i, _, rfl⟩ := List.mem_map.1 hx
 exact Nat.mod_lt _ (by decide)
theorem valB_range (v n : Nat) : valB ((List.range n).map fun i => v / 256 ^ i % 256) = v % 256 ^ n := by
 induction n with
 | zero => simp [valB, Nat.mod_one]
 | succ n ih =>
  rw [List.range_succ, List.map_append, List.map_singleton, valB_snoc, ih, List.length_map, List.length_range, Nat.pow_succ, Nat.mod_mul]
theorem valB_digB (v : Nat) (h : v < 256 ^ 32) : valB (digB v) = v := by
 rw [digB, valB_range, Nat.mod_eq_of_lt h]
end
end Go.Proofs.YtakkicppgkmokaaGreat
