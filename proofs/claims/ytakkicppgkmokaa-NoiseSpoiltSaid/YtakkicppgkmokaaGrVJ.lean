/- Rests by 2 to the 255, less 19, of numbers of bytes. No program in sight. -/
import Derived.Test.YtakkicppgkmokaaValJ
set_option linter.unusedSimpArgs false
set_option linter.unusedVariables false
namespace Go.Proofs.Ytakkicppgkmokaa
open Go.RowKit
theorem digit_stepG (l : List Nat) (j c e q : Nat) (h : j < l.length) (hq : c + l[j] + e = q) :
    valB (l.set j (q % 256)) + 256 ^ (j + 1) * (q / 256) = valB l + 256 ^ j * c + 256 ^ j * e := by
  have hs := valB_set l j (q % 256) h
  have e2 : 256 ^ j * (q % 256) + 256 ^ (j + 1) * (q / 256) = 256 ^ j * q := by
    rw [Nat.pow_succ, Nat.mul_assoc, ← Nat.mul_add, Nat.mod_add_div]
  have e4 : 256 ^ j * q = 256 ^ j * c + 256 ^ j * l[j] + 256 ^ j * e := by
    rw [← hq, Nat.mul_add, Nat.mul_add]
  omega
def fold255 (x : Nat) : Nat := x % 57896044618658097711785492504343953926634992332820282019728792003956564819968 + 19 * (x / 57896044618658097711785492504343953926634992332820282019728792003956564819968)
/-- a digit of what lies at 2 to the 255 and above -/
def gD (t : List Nat) (j : Nat) : Nat := t.getD j 0 / 128 + t.getD (j + 1) 0 % 128 * 2
def gV (t : List Nat) : Nat → Nat
  | 0 => 0
  | n + 1 => gV t n + 256 ^ n * gD t n
theorem gV_val (t : List Nat) (n : Nat) : valB (t.take n) + 256 ^ n * (t.getD n 0 % 128) = 128 * gV t n + t.getD 0 0 % 128 := by
  induction n with
  | zero => simp [valB, gV]
  | succ n ih =>
    rw [valB_take_succ, gV, gD, Nat.pow_succ]
    generalize 256 ^ n = p at *
    generalize t.getD n 0 = a at *
    generalize t.getD (n + 1) 0 = b at *
    have h1 : p * a = p * (128 * (a / 128)) + p * (a % 128) := by rw [← Nat.mul_add, Nat.div_add_mod]
    have h2 : p * 256 * (b % 128) = 128 * (p * (b % 128 * 2)) := by
      rw [Nat.mul_assoc, Nat.mul_left_comm 128 p]
      congr 1
      omega
    have h3 : p * (128 * (a / 128)) = 128 * (p * (a / 128)) := Nat.mul_left_comm ..
    rw [Nat.mul_add p, Nat.mul_add 128, Nat.mul_add 128]
    omega
theorem gV_all (t : List Nat) : valB t = 128 * gV t t.length + t.getD 0 0 % 128 := by
  have := gV_val t t.length
  rw [List.take_of_length_le (Nat.le_refl _), getD_past _ _ (Nat.le_refl _)] at this
  simpa using this
theorem gD_lt (t : List Nat) (h : Dig t) (j : Nat) : gD t j < 256 := by
  have h1 := h.getD j
  unfold gD
  omega
/-- what a round leaves -/
theorem foldG_round (x : List Nat) (hx : Dig x) (hl : 32 ≤ x.length) :
    valB ((x.take 32).set 31 ((x.drop 31).getD 0 0 % 128)) + 19 * gV (x.drop 31) (x.drop 31).length = fold255 (valB x) := by
  have h1 := valB_parts x 31 (by omega)
  have h2 := gV_all (x.drop 31)
  have h3 := valB_lt (x.take 31) (hx.take 31)
  have h4 : (x.take 32).set 31 ((x.drop 31).getD 0 0 % 128) = x.take 31 ++ [(x.drop 31).getD 0 0 % 128] := by
    rw [List.take_succ_eq_append_getElem (by omega), List.set_append_right _ _ (by rw [List.length_take]; omega)]
    congr 1
    rw [show 31 - (List.take 31 x).length = 0 by rw [List.length_take]; omega]
    rfl
  rw [h4, valB_snoc, List.length_take, Nat.min_eq_left (by omega)] at *
  generalize gV (x.drop 31) (x.drop 31).length = H at *
  generalize valB (x.take 31) = A at *
  generalize valB (x.drop 31) = T at *
  generalize (x.drop 31).getD 0 0 = t at *
  rw [h1, h2, fold255]
  clear h1 h2 h4
  omega
theorem gV_stop (t : List Nat) (n : Nat) (h : t.length ≤ n) : gV t n = gV t t.length := by
  induction n with
  | zero => rw [Nat.le_zero.1 h]
  | succ n ih =>
    rcases Nat.lt_or_ge n t.length with h1 | h1
    · rw [show n + 1 = t.length by omega]
    · rw [gV, ih h1, gD, getD_past _ _ h1, getD_past _ _ (by omega)]
      simp
theorem foldG_three (x : Nat) (h : x < 256 ^ 65) :
    fold255 (fold255 (fold255 x)) < 57896044618658097711785492504343953926634992332820282019728792003956564819968 ∧ fold255 (fold255 (fold255 x)) % 57896044618658097711785492504343953926634992332820282019728792003956564819949 = x % 57896044618658097711785492504343953926634992332820282019728792003956564819949 := by
  unfold fold255
  constructor <;> omega
/-- the top digit of a number of 32 bytes -/
theorem valG_top (y : List Nat) (hy : Dig y) (hl : 32 ≤ y.length) (hv : valB y < 256 ^ 32) : valB (y.take 32) = valB y ∧ y.getD 31 0 = valB y / 256 ^ 31 ∧ valB (y.take 31) = valB y % 256 ^ 31 := by
  have h1 := valB_parts y 32 hl
  have h2 := valB_lt (y.take 31) (hy.take 31)
  have h3 := valB_take_succ y 31
  rw [List.length_take, Nat.min_eq_left (by omega)] at h2
  have h4 := hy.getD 31
  generalize valB (y.drop 32) = T at *
  generalize valB (y.take 31) = A at *
  have hT : T = 0 := by
    rcases Nat.eq_zero_or_pos T with h | h
    · exact h
    · have := Nat.le_mul_of_pos_right (256 ^ 32) h
      omega
  subst hT
  rw [Nat.mul_zero, Nat.add_zero] at h1
  rw [← h1] at h3
  refine ⟨h1.symm, ?_, ?_⟩ <;> omega
theorem restG_hi (X O O4 R V : Nat) (h : X < 57896044618658097711785492504343953926634992332820282019728792003956564819968) (hO : O = (X + 19) / 256 ^ 31) (hr : X % 57896044618658097711785492504343953926634992332820282019728792003956564819949 = R) (h4 : 128 ≤ O) (h5 : O - 128 = O4) (hv : V + 256 ^ 31 * O = X + 19 + 256 ^ 31 * O4) :
    V = R ∧ V < 256 ^ 32 := by
  have h6 : O = O4 + 128 := by omega
  have h7 : 256 ^ 31 * O = 256 ^ 31 * O4 + 57896044618658097711785492504343953926634992332820282019728792003956564819968 := by rw [h6, Nat.mul_add]
  have h8 : V + 57896044618658097711785492504343953926634992332820282019728792003956564819968 = X + 19 := by omega
  clear hv h6 h7 h5 hO h4
  constructor <;> omega
theorem restG_lo (X O R : Nat) (h : X < 57896044618658097711785492504343953926634992332820282019728792003956564819968) (hO : O = (X + 19) / 256 ^ 31) (hr : X % 57896044618658097711785492504343953926634992332820282019728792003956564819949 = R) (h4 : ¬ 128 ≤ O) : X = R := by
  have h6 : (X + 19) / 256 ^ 31 < 128 := by omega
  have h7 := Nat.lt_mul_of_div_lt h6 (by decide)
  clear hO h4 h6
  omega
end Go.Proofs.Ytakkicppgkmokaa
