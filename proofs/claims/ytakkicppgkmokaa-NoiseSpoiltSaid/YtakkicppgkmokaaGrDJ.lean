/- Elements of ref06 as numbers: their digits; a product's digits. No program in sight. -/
import Derived.Test.YtakkicppgkmokaaGrVJ
set_option linter.unusedSimpArgs false
set_option linter.unusedVariables false
namespace Go.Proofs.Ytakkicppgkmokaa
open Go.RowKit
def pB : Nat := 57896044618658097711785492504343953926634992332820282019728792003956564819949
theorem valB_digitG (l : List Nat) (h : Dig l) (i : Nat) : l.getD i 0 = valB l / 256 ^ i % 256 := by
  induction l generalizing i with
  | nil => simp [valB]
  | cons a l ih =>
    have ha := h a (List.mem_cons_self ..)
    have hl : Dig l := fun x hx => h x (List.mem_cons_of_mem _ hx)
    cases i with
    | zero =>
      rw [valB]
      simp
      omega
    | succ i =>
      have e : (a + 256 * valB l) / 256 = valB l := by omega
      rw [valB, Nat.pow_succ, Nat.mul_comm (256 ^ i) 256, ← Nat.div_div_eq_div_mul, e, ← ih hl i]
      simp
/-- the 32 digits of a number -/
def digB (v : Nat) : List Nat := (List.range 32).map fun i => v / 256 ^ i % 256
theorem digB_length (v : Nat) : (digB v).length = 32 := by simp [digB]
theorem digB_dig (v : Nat) : Dig (digB v) := by
  intro x hx
  obtain ⟨i, _, rfl⟩ := List.mem_map.1 hx
  exact Nat.mod_lt _ (by decide)
theorem eq_digB (l : List Nat) (hl : l.length = 32) (hd : Dig l) : l = digB (valB l) := by
  refine List.ext_getElem (by rw [hl, digB_length]) fun i h1 h2 => ?_
  rw [← getD_at _ _ h1, valB_digitG l hd i]
  simp [digB]
theorem valB_range (v n : Nat) : valB ((List.range n).map fun i => v / 256 ^ i % 256) = v % 256 ^ n := by
  induction n with
  | zero => simp [valB, Nat.mod_one]
  | succ n ih =>
    rw [List.range_succ, List.map_append, List.map_singleton, valB_snoc, ih, List.length_map, List.length_range, Nat.pow_succ, Nat.mod_mul]
theorem valB_digB (v : Nat) (h : v < 256 ^ 32) : valB (digB v) = v := by
  rw [digB, valB_range, Nat.mod_eq_of_lt h]
theorem pB_lt (v : Nat) : v % pB < 256 ^ 32 := by
  have : v % pB < pB := Nat.mod_lt _ (by decide)
  unfold pB at *
  omega
theorem valB_add (l : List Nat) (p z : Nat) (h : p < l.length) : valB (l.set p (l[p] + z)) = valB l + 256 ^ p * z := by
  have := valB_set l p (l[p] + z) h
  rw [Nat.mul_add] at this
  omega
theorem carryG (l : List Nat) (n O O1 d q s : Nat) (h : n + 1 < l.length) (h0 : l[n] = O) (h1 : l[n + 1] = O1) (hd : O % 256 = d) (hq : O / 256 = q) (hs : O1 + q = s) :
    valB ((l.set (n + 1) s).set n d) = valB l := by
  have e1 := valB_set l (n + 1) s h
  have e2 := valB_set (l.set (n + 1) s) n d (by simp; omega)
  rw [List.getElem_set_ne (by omega), h0] at e2
  rw [h1] at e1
  have e3 : 256 ^ (n + 1) * s = 256 ^ (n + 1) * O1 + 256 ^ n * (256 * q) := by rw [← hs, Nat.mul_add, Nat.pow_succ, Nat.mul_assoc, Nat.mul_assoc]
  have e4 : 256 ^ n * O = 256 ^ n * d + 256 ^ n * (256 * q) := by rw [← hd, ← hq, ← Nat.mul_add, Nat.mod_add_div]
  omega
theorem dig_getD (l : List Nat) (h : ∀ i, i < l.length → l.getD i 0 < 256) : Dig l := by
  intro x hx
  obtain ⟨i, hi, rfl⟩ := List.getElem_of_mem hx
  rw [← getD_at _ _ hi]
  exact h i hi
theorem times_fit (l : List Nat) (hl : l.length = 65) (V : Nat) (hV : V < 256 ^ 64) (hv : valB l = V) (hd : ∀ i, i < 64 → l.getD i 0 < 256) : Dig l := by
  refine dig_getD l fun i hi => ?_
  rcases Nat.lt_or_ge i 64 with h | h
  · exact hd i h
  · obtain rfl : i = 64 := by omega
    have h1 := valB_parts l 64 (by omega)
    have h2 : l.drop 64 = [l.getD 64 0] := by
      rw [List.drop_eq_getElem_cons (by omega), List.drop_eq_nil_of_le (by omega), getD_at _ _ (by omega)]
    rw [h2] at h1
    have h3 : valB [l.getD 64 0] = l.getD 64 0 := by simp [valB]
    rw [h3] at h1
    rcases Nat.eq_zero_or_pos (l.getD 64 0) with h0 | h0
    · omega
    · have := Nat.le_mul_of_pos_right (256 ^ 64) h0
      omega
theorem mul_lt64 (u v : Nat) (hu : u < 256 ^ 32) (hv : v < 256 ^ 32) : u * v < 256 ^ 64 := by
  have := Nat.mul_lt_mul'' hu hv
  rwa [← Nat.pow_add] at this
end Go.Proofs.Ytakkicppgkmokaa
