/- Rests by 2 to the 130, less 5, of numbers of bytes. No program in sight. -/
import Derived.Test.YtjeclimoknilcaaVal
set_option linter.unusedSimpArgs false
set_option linter.unusedVariables false
namespace Go.Proofs.Ytjeclimoknilcaa
open Go.RowKit
theorem digit_step (l : List Nat) (j c e q : Nat) (h : j < l.length) (hq : c + l[j] + e = q) :
    valN (l.set j (q % 256)) + 256 ^ (j + 1) * (q / 256) = valN l + 256 ^ j * c + 256 ^ j * e := by
  have hs := valN_set l j (q % 256) h
  have e2 : 256 ^ j * (q % 256) + 256 ^ (j + 1) * (q / 256) = 256 ^ j * q := by
    rw [Nat.pow_succ, Nat.mul_assoc, ← Nat.mul_add, Nat.mod_add_div]
  have e4 : 256 ^ j * q = 256 ^ j * c + 256 ^ j * l[j] + 256 ^ j * e := by
    rw [← hq, Nat.mul_add, Nat.mul_add]
  omega
def fold130 (x : Nat) : Nat := x % 1361129467683753853853498429727072845824 + 5 * (x / 1361129467683753853853498429727072845824)
/-- a digit of what lies at 2 to the 130 and above -/
def hD (t : List Nat) (j : Nat) : Nat := t.getD j 0 / 4 + t.getD (j + 1) 0 % 4 * 64
def hV (t : List Nat) : Nat → Nat
  | 0 => 0
  | n + 1 => hV t n + 256 ^ n * hD t n
theorem hV_val (t : List Nat) (n : Nat) : valN (t.take n) + 256 ^ n * (t.getD n 0 % 4) = 4 * hV t n + t.getD 0 0 % 4 := by
  induction n with
  | zero => simp [valN, hV]
  | succ n ih =>
    rw [valN_take_succ, hV, hD, Nat.pow_succ]
    generalize 256 ^ n = p at *
    generalize t.getD n 0 = a at *
    generalize t.getD (n + 1) 0 = b at *
    have h1 : p * a = p * (4 * (a / 4)) + p * (a % 4) := by rw [← Nat.mul_add, Nat.div_add_mod]
    have h2 : p * 256 * (b % 4) = 4 * (p * (b % 4 * 64)) := by
      rw [Nat.mul_assoc, Nat.mul_left_comm 4 p]
      congr 1
      omega
    have h3 : p * (4 * (a / 4)) = 4 * (p * (a / 4)) := Nat.mul_left_comm ..
    rw [Nat.mul_add p, Nat.mul_add 4, Nat.mul_add 4]
    omega
theorem hV_all (t : List Nat) : valN t = 4 * hV t t.length + t.getD 0 0 % 4 := by
  have := hV_val t t.length
  rw [List.take_of_length_le (Nat.le_refl _), getD_past _ _ (Nat.le_refl _)] at this
  simpa using this
theorem hD_lt (t : List Nat) (h : Dig t) (j : Nat) : hD t j < 256 := by
  have h1 := h.getD j
  unfold hD
  omega
/-- what a round leaves -/
theorem fold_round (x : List Nat) (hx : Dig x) (hl : 16 ≤ x.length) :
    valN (x.take 16 ++ [(x.drop 16).getD 0 0 % 4]) + 5 * hV (x.drop 16) (x.drop 16).length = fold130 (valN x) := by
  have h1 := valN_parts x 16 hl
  have h2 := hV_all (x.drop 16)
  have h3 := valN_lt (x.take 16) (hx.take 16)
  rw [valN_snoc, List.length_take, Nat.min_eq_left hl] at *
  generalize hV (x.drop 16) (x.drop 16).length = H at *
  generalize valN (x.take 16) = A at *
  generalize valN (x.drop 16) = T at *
  generalize (x.drop 16).getD 0 0 = t at *
  rw [h1, h2, fold130]
  omega
theorem hV_stop (t : List Nat) (n : Nat) (h : t.length ≤ n) : hV t n = hV t t.length := by
  induction n with
  | zero => rw [Nat.le_zero.1 h]
  | succ n ih =>
    rcases Nat.lt_or_ge n t.length with h1 | h1
    · rw [show n + 1 = t.length by omega]
    · rw [hV, ih h1, hD, getD_past _ _ h1, getD_past _ _ (by omega)]
      simp
theorem fold_three (x : Nat) (h : x < 256 ^ 40) :
    fold130 (fold130 (fold130 x)) < 1361129467683753853853498429727072845824 ∧ fold130 (fold130 (fold130 x)) % 1361129467683753853853498429727072845819 = x % 1361129467683753853853498429727072845819 := by
  unfold fold130
  constructor <;> omega
theorem val_top (y : List Nat) (hy : Dig y) (hl : 17 ≤ y.length) (hv : valN y < 256 ^ 17) : valN (y.take 17) = valN y ∧ y.getD 16 0 = valN y / 256 ^ 16 ∧ valN (y.take 16) = valN y % 256 ^ 16 := by
  have h1 := valN_parts y 17 hl
  have h2 := valN_lt (y.take 16) (hy.take 16)
  have h3 := valN_take_succ y 16
  rw [List.length_take, Nat.min_eq_left (by omega)] at h2
  have h4 := hy.getD 16
  generalize valN (y.drop 17) = T at *
  generalize valN (y.take 16) = A at *
  have hT : T = 0 := by
    rcases Nat.eq_zero_or_pos T with h | h
    · exact h
    · have := Nat.le_mul_of_pos_right (256 ^ 17) h
      omega
  subst hT
  rw [Nat.mul_zero, Nat.add_zero] at h1
  rw [← h1] at h3
  refine ⟨h1.symm, ?_, ?_⟩ <;> omega
theorem rest_hi (X O O4 R V : Nat) (h : X < 1361129467683753853853498429727072845824) (hO : O = (X + 5) / 256 ^ 16) (hr : X % 1361129467683753853853498429727072845819 = R) (h4 : 4 ≤ O) (h5 : O - 4 = O4) (hv : V + 256 ^ 16 * O = X + 5 + 256 ^ 16 * O4) :
    V = R ∧ V < 256 ^ 17 := by
  have h6 : O = O4 + 4 := by omega
  have h7 : 256 ^ 16 * O = 256 ^ 16 * O4 + 1361129467683753853853498429727072845824 := by rw [h6, Nat.mul_add]
  have h8 : V + 1361129467683753853853498429727072845824 = X + 5 := by omega
  clear hv h6 h7 h5 hO h4
  constructor <;> omega
theorem rest_lo (X O R : Nat) (h : X < 1361129467683753853853498429727072845824) (hO : O = (X + 5) / 256 ^ 16) (hr : X % 1361129467683753853853498429727072845819 = R) (h4 : ¬ 4 ≤ O) : X = R := by
  have h6 : (X + 5) / 256 ^ 16 < 4 := by omega
  have h7 := Nat.lt_mul_of_div_lt h6 (by decide)
  clear hO h4 h6
  omega
end Go.Proofs.Ytjeclimoknilcaa
