/- Texts of this proof, merged: GrV, GrD. -/
import Derived.Test.YtakkicppgkmokaaJ9
/- Rests by 2 to the 255, less 19, of numbers of bytes. No program in sight. -/
section
set_option linter.unusedSimpArgs false
set_option linter.unusedVariables false
namespace Go.Proofs.Ytakkicppgkmokaa
open Go.RowKit
theorem digit_stepG (l : List Nat) (j c e q : Nat) (h : j < l.length) (hq : c + l[j] + e = q) :
    valB (l.set j (q % 256)) + 256 ^ (j + 1) * (q / 256) = valB l + 256 ^ j * c + 256 ^ j * e := by
  have hs := valB_set l j (q % 256) h
  have e2 : 256 ^ j * (q % 256) + 256 ^ (j + 1) * (q / 256) = 256 ^ j * q := by
    rw [Nat.pow_succ, Nat.mul_assoc, ← Nat.mul_add, Nat.mod_add_div]
  have e4 : 256 ^ j * q = 256 ^ j * c + 256 ^ j * l[j] + 256 ^ j * e := by
    rw [← hq, Nat.mul_add, Nat.mul_add]
  omega
def fold255 (x : Nat) : Nat := x % 57896044618658097711785492504343953926634992332820282019728792003956564819968 + 19 * (x / 57896044618658097711785492504343953926634992332820282019728792003956564819968)
/-- a digit of what lies at 2 to the 255 and above -/
def gD (t : List Nat) (j : Nat) : Nat := t.getD j 0 / 128 + t.getD (j + 1) 0 % 128 * 2
def gV (t : List Nat) : Nat → Nat
  | 0 => 0
  | n + 1 => gV t n + 256 ^ n * gD t n
theorem gV_val (t : List Nat) (n : Nat) : valB (t.take n) + 256 ^ n * (t.getD n 0 % 128) = 128 * gV t n + t.getD 0 0 % 128 := by
  induction n with
  | zero => simp [valB, gV]
  | succ n ih =>
    rw [valB_take_succ, gV, gD, Nat.pow_succ]
    generalize 256 ^ n = p at *
    generalize t.getD n 0 = a at *
    generalize t.getD (n + 1) 0 = b at *
    have h1 : p * a = p * (128 * (a / 128)) + p * (a % 128) := by rw [← Nat.mul_add, Nat.div_add_mod]
    have h2 : p * 256 * (b % 128) = 128 * (p * (b % 128 * 2)) := by
      rw [Nat.mul_assoc, Nat.mul_left_comm 128 p]
      congr 1
      omega
    have h3 : p * (128 * (a / 128)) = 128 * (p * (a / 128)) := Nat.mul_left_comm ..
    rw [Nat.mul_add p, Nat.mul_add 128, Nat.mul_add 128]
    omega
theorem gV_all (t : List Nat) : valB t = 128 * gV t t.length + t.getD 0 0 % 128 := by
  have := gV_val t t.length
  rw [List.take_of_length_le (Nat.le_refl _), getD_past _ _ (Nat.le_refl _)] at this
  simpa using this
theorem gD_lt (t : List Nat) (h : Dig t) (j : Nat) : gD t j < 256 := by
  have h1 := h.getD j
  unfold gD
  omega
/-- what a round leaves -/
theorem foldG_round (x : List Nat) (hx : Dig x) (hl : 32 ≤ x.length) :
    valB ((x.take 32).set 31 ((x.drop 31).getD 0 0 % 128)) + 19 * gV (x.drop 31) (x.drop 31).length = fold255 (valB x) := by
  have h1 := valB_parts x 31 (by omega)
  have h2 := gV_all (x.drop 31)
  have h3 := valB_lt (x.take 31) (hx.take 31)
  have h4 : (x.take 32).set 31 ((x.drop 31).getD 0 0 % 128) = x.take 31 ++ [(x.drop 31).getD 0 0 % 128] := by
    rw [List.take_succ_eq_append_getElem (by omega), List.set_append_right _ _ (by rw [List.length_take]; omega)]
    congr 1
    rw [show 31 - (List.take 31 x).length = 0 by rw [List.length_take]; omega]
    rfl
  rw [h4, valB_snoc, List.length_take, Nat.min_eq_left (by omega)] at *
  generalize gV (x.drop 31) (x.drop 31).length = H at *
  generalize valB (x.take 31) = A at *
  generalize valB (x.drop 31) = T at *
  generalize (x.drop 31).getD 0 0 = t at *
  rw [h1, h2, fold255]
  clear h1 h2 h4
  omega
theorem gV_stop (t : List Nat) (n : Nat) (h : t.length ≤ n) : gV t n = gV t t.length := by
  induction n with
  | zero => rw [Nat.le_zero.1 h]
  | succ n ih =>
    rcases Nat.lt_or_ge n t.length with h1 | h1
    · rw [show n + 1 = t.length by omega]
    · rw [gV, ih h1, gD, getD_past _ _ h1, getD_past _ _ (by omega)]
      simp
theorem foldG_three (x : Nat) (h : x < 256 ^ 65) :
    fold255 (fold255 (fold255 x)) < 57896044618658097711785492504343953926634992332820282019728792003956564819968 ∧ fold255 (fold255 (fold255 x)) % 57896044618658097711785492504343953926634992332820282019728792003956564819949 = x % 57896044618658097711785492504343953926634992332820282019728792003956564819949 := by
  unfold fold255
  constructor <;> omega
/-- the top digit of a number of 32 bytes -/
theorem valG_top (y : List Nat) (hy : Dig y) (hl : 32 ≤ y.length) (hv : valB y < 256 ^ 32) : valB (y.take 32) = valB y ∧ y.getD 31 0 = valB y / 256 ^ 31 ∧ valB (y.take 31) = valB y % 256 ^ 31 := by
  have h1 := valB_parts y 32 hl
  have h2 := valB_lt (y.take 31) (hy.take 31)
  have h3 := valB_take_succ y 31
  rw [List.length_take, Nat.min_eq_left (by omega)] at h2
  have h4 := hy.getD 31
  generalize valB (y.drop 32) = T at *
  generalize valB (y.take 31) = A at *
  have hT : T = 0 := by
    rcases Nat.eq_zero_or_pos T with h | h
    · exact h
    · have := Nat.le_mul_of_pos_right (256 ^ 32) h
      omega
  subst hT
  rw [Nat.mul_zero, Nat.add_zero] at h1
  rw [← h1] at h3
  refine ⟨h1.symm, ?_, ?_⟩ <;> omega
theorem restG_hi (X O O4 R V : Nat) (h : X < 57896044618658097711785492504343953926634992332820282019728792003956564819968) (hO : O = (X + 19) / 256 ^ 31) (hr : X % 57896044618658097711785492504343953926634992332820282019728792003956564819949 = R) (h4 : 128 ≤ O) (h5 : O - 128 = O4) (hv : V + 256 ^ 31 * O = X + 19 + 256 ^ 31 * O4) :
    V = R ∧ V < 256 ^ 32 := by
  have h6 : O = O4 + 128 := by omega
  have h7 : 256 ^ 31 * O = 256 ^ 31 * O4 + 57896044618658097711785492504343953926634992332820282019728792003956564819968 := by rw [h6, Nat.mul_add]
  have h8 : V + 57896044618658097711785492504343953926634992332820282019728792003956564819968 = X + 19 := by omega
  clear hv h6 h7 h5 hO h4
  constructor <;> omega
theorem restG_lo (X O R : Nat) (h : X < 57896044618658097711785492504343953926634992332820282019728792003956564819968) (hO : O = (X + 19) / 256 ^ 31) (hr : X % 57896044618658097711785492504343953926634992332820282019728792003956564819949 = R) (h4 : ¬ 128 ≤ O) : X = R := by
  have h6 : (X + 19) / 256 ^ 31 < 128 := by omega
  have h7 := Nat.lt_mul_of_div_lt h6 (by decide)
  clear hO h4 h6
  omega
end Go.Proofs.Ytakkicppgkmokaa
end

/- Elements of ref06 as numbers: their digits; a product's digits. No program in sight. -/
section
set_option linter.unusedSimpArgs false
set_option linter.unusedVariables false
namespace Go.Proofs.Ytakkicppgkmokaa
open Go.RowKit
def pB : Nat := 57896044618658097711785492504343953926634992332820282019728792003956564819949
theorem valB_digitG (l : List Nat) (h : Dig l) (i : Nat) : l.getD i 0 = valB l / 256 ^ i % 256 := by
  induction l generalizing i with
  | nil => simp [valB]
  | cons a l ih =>
    have ha := h a (List.mem_cons_self ..)
    have hl : Dig l := fun x hx => h x (List.mem_cons_of_mem _ hx)
    cases i with
    | zero =>
      rw [valB]
      simp
      omega
    | succ i =>
      have e : (a + 256 * valB l) / 256 = valB l := by omega
      rw [valB, Nat.pow_succ, Nat.mul_comm (256 ^ i) 256, ← Nat.div_div_eq_div_mul, e, ← ih hl i]
      simp
/-- the 32 digits of a number -/
def digB (v : Nat) : List Nat := (List.range 32).map fun i => v / 256 ^ i % 256
theorem digB_length (v : Nat) : (digB v).length = 32 := by simp [digB]
theorem digB_dig (v : Nat) : Dig (digB v) := by
  intro x hx
  obtain ⟨i, _, rfl⟩ := List.mem_map.1 hx
  exact Nat.mod_lt _ (by decide)
theorem eq_digB (l : List Nat) (hl : l.length = 32) (hd : Dig l) : l = digB (valB l) := by
  refine List.ext_getElem (by rw [hl, digB_length]) fun i h1 h2 => ?_
  rw [← getD_at _ _ h1, valB_digitG l hd i]
  simp [digB]
theorem valB_range (v n : Nat) : valB ((List.range n).map fun i => v / 256 ^ i % 256) = v % 256 ^ n := by
  induction n with
  | zero => simp [valB, Nat.mod_one]
  | succ n ih =>
    rw [List.range_succ, List.map_append, List.map_singleton, valB_snoc, ih, List.length_map, List.length_range, Nat.pow_succ, Nat.mod_mul]
theorem valB_digB (v : Nat) (h : v < 256 ^ 32) : valB (digB v) = v := by
  rw [digB, valB_range, Nat.mod_eq_of_lt h]
theorem pB_lt (v : Nat) : v % pB < 256 ^ 32 := by
  have : v % pB < pB := Nat.mod_lt _ (by decide)
  unfold pB at *
  omega
theorem valB_add (l : List Nat) (p z : Nat) (h : p < l.length) : valB (l.set p (l[p] + z)) = valB l + 256 ^ p * z := by
  have := valB_set l p (l[p] + z) h
  rw [Nat.mul_add] at this
  omega
theorem carryG (l : List Nat) (n O O1 d q s : Nat) (h : n + 1 < l.length) (h0 : l[n] = O) (h1 : l[n + 1] = O1) (hd : O % 256 = d) (hq : O / 256 = q) (hs : O1 + q = s) :
    valB ((l.set (n + 1) s).set n d) = valB l := by
  have e1 := valB_set l (n + 1) s h
  have e2 := valB_set (l.set (n + 1) s) n d (by simp; omega)
  rw [List.getElem_set_ne (by omega), h0] at e2
  rw [h1] at e1
  have e3 : 256 ^ (n + 1) * s = 256 ^ (n + 1) * O1 + 256 ^ n * (256 * q) := by rw [← hs, Nat.mul_add, Nat.pow_succ, Nat.mul_assoc, Nat.mul_assoc]
  have e4 : 256 ^ n * O = 256 ^ n * d + 256 ^ n * (256 * q) := by rw [← hd, ← hq, ← Nat.mul_add, Nat.mod_add_div]
  omega
theorem dig_getD (l : List Nat) (h : ∀ i, i < l.length → l.getD i 0 < 256) : Dig l := by
  intro x hx
  obtain ⟨i, hi, rfl⟩ := List.getElem_of_mem hx
  rw [← getD_at _ _ hi]
  exact h i hi
theorem times_fit (l : List Nat) (hl : l.length = 65) (V : Nat) (hV : V < 256 ^ 64) (hv : valB l = V) (hd : ∀ i, i < 64 → l.getD i 0 < 256) : Dig l := by
  refine dig_getD l fun i hi => ?_
  rcases Nat.lt_or_ge i 64 with h | h
  · exact hd i h
  · obtain rfl : i = 64 := by omega
    have h1 := valB_parts l 64 (by omega)
    have h2 : l.drop 64 = [l.getD 64 0] := by
      rw [List.drop_eq_getElem_cons (by omega), List.drop_eq_nil_of_le (by omega), getD_at _ _ (by omega)]
    rw [h2] at h1
    have h3 : valB [l.getD 64 0] = l.getD 64 0 := by simp [valB]
    rw [h3] at h1
    rcases Nat.eq_zero_or_pos (l.getD 64 0) with h0 | h0
    · omega
    · have := Nat.le_mul_of_pos_right (256 ^ 64) h0
      omega
theorem mul_lt64 (u v : Nat) (hu : u < 256 ^ 32) (hv : v < 256 ^ 32) : u * v < 256 ^ 64 := by
  have := Nat.mul_lt_mul'' hu hv
  rwa [← Nat.pow_add] at this
end Go.Proofs.Ytakkicppgkmokaa
end
