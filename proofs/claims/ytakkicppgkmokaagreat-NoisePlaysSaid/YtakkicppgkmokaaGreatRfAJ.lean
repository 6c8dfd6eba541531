/- Contracts of the reference of chapter 3: a word turned left. -/
import Derived.Test.YtakkicppgkmokaaGreatJ3
set_option linter.unusedSimpArgs false
set_option linter.unusedVariables false
namespace Go.Proofs.YtakkicppgkmokaaGreat
open Go.RowKit
def leftF (_ : Nat) (x : Int) : Int := (2 * x + x / 2147483648) % 4294967296
theorem leftF_lt (k : Nat) (x : Int) (h0 : 0 ≤ x) (h : x < 4294967296) : 0 ≤ upTo leftF k x ∧ upTo leftF k x < 4294967296 := by
 cases k with
 | zero => exact ⟨h0, h⟩
 | succ k => rw [upTo, leftF]; omega
set_option maxRecDepth 20000 in
theorem left_any (x : Int) (n : Nat) (w : World) (h0 : 0 ≤ x) (h : x < 4294967296) (hn : n ≤ 32) :
  Calls Tryz.prog 155 #[.int .u32 x, .int .i64 n] w fun e w' => e = .returned (.int .u32 (upTo leftF n x)) ∧ w = w' := by
 have hn2 : (n : Int) ≤ 32 := by omega
 go_enter Tryz.func155, Tryz.ntmps155
 go_wp2_with fail
 go_loopw [0, 5] (fun v i wr => ∃ k : Nat, k ≤ n ∧ i = .int .i64 k ∧ v = .int .u32 (upTo leftF k x) ∧ w = wr) (fun _ i _ => n - (intOf i).toNat)
 case atStart => exact ⟨0, by omega, rfl, rfl, rfl⟩
 case round =>
  obtain ⟨k, hk, rfl, rfl, rfl⟩ := hrel
  have hb := leftF_lt k x h0 h
  obtain ⟨y, hy⟩ : ∃ y, upTo leftF k x = y := ⟨_, rfl⟩
  rw [hy] at hb ⊢
  by_cases hlt : k < n
  ·
   have g1 : (k : Int) < n := by omega
   obtain ⟨b0, b1⟩ := hb
   have hs : upTo leftF (k + 1) x = (2 * y + y / 2147483648) % 4294967296 := by rw [upTo, hy, leftF]
   have HS := Lib.hid hs
   clear hs hy
   go_wp2_with fail
   exact ⟨⟨k + 1, by omega, by simp, by rw [HS.out]; congr 1; omega, trivial⟩, by simp [intOf]; omega⟩
  ·
   obtain rfl : k = n := by omega
   go_wp2_with fail
   go_ret
   simp [hy]
def leftS (n : Nat) (x : Int) : Int := x * 2 ^ n % 4294967296 + x / 2 ^ (32 - n)
theorem left_split (A B x : Int) (hA : 0 < A) (hB : 0 < B) (hAB : A * B = 2147483648) (h0 : 0 ≤ x) (h : x < 4294967296) :
  ∃ h t l : Int, x = (2 * h + t) * B + l ∧ 0 ≤ h ∧ h < A ∧ 0 ≤ t ∧ t ≤ 1 ∧ 0 ≤ l ∧ l < B := by
 refine ⟨x / B / 2, x / B % 2, x % B, ?_, ?_, ?_, by omega, by omega, Int.emod_nonneg _ (by omega), Int.emod_lt_of_pos _ hB⟩
 ·
  have := Int.mul_ediv_add_emod x B
  have e : 2 * (x / B / 2) + x / B % 2 = x / B := by omega
  rw [e, Int.mul_comm]
  omega
 ·
  have := Int.ediv_nonneg h0 (Int.le_of_lt hB)
  omega
 ·
  have : x / B < 2 * A := Int.ediv_lt_of_lt_mul hB (by
   have : 2 * A * B = 4294967296 := by rw [Int.mul_assoc, hAB]; rfl
   omega)
  omega
theorem left_stepAB (A B x : Int) (hA : 0 < A) (hB : 0 < B) (hAB : A * B = 2147483648) (h0 : 0 ≤ x) (h : x < 4294967296) :
  (2 * (x * A % 4294967296 + x / (2 * B)) + (x * A % 4294967296 + x / (2 * B)) / 2147483648) % 4294967296 = x * (2 * A) % 4294967296 + x / B := by
 obtain ⟨u, t, l, rfl, u0, uA, t0, t1, l0, lB⟩ := left_split A B x hA hB hAB h0 h
 have e1 : ((2 * u + t) * B + l) * A = (2 * u + t) * 2147483648 + l * A := by
  rw [Int.add_mul, Int.mul_assoc, Int.mul_comm B A, hAB]
 have e2 : ((2 * u + t) * B + l) * (2 * A) = 2 * (((2 * u + t) * B + l) * A) := by
  rw [← Int.mul_assoc, Int.mul_comm _ 2, Int.mul_assoc]
 have e3 : ((2 * u + t) * B + l) / B = 2 * u + t := by
  rw [Int.add_comm, Int.add_mul_ediv_right _ _ (by omega), Int.ediv_eq_zero_of_lt l0 lB]
  omega
 have e4 : ((2 * u + t) * B + l) / (2 * B) = u := by
  rw [Int.mul_comm 2 B, ← Int.ediv_ediv_of_nonneg (by omega), e3]
  omega
 have q0 : 0 ≤ l * A := Int.mul_nonneg l0 (by omega)
 have q1 : l * A ≤ (B - 1) * A := Int.mul_le_mul_of_nonneg_right (by omega) (by omega)
 have q2 : (B - 1) * A = 2147483648 - A := by rw [Int.sub_mul, Int.mul_comm B A, hAB]; omega
 rw [e2, e1, e3, e4]
 generalize l * A = q at *
 have m1 : ((2 * u + t) * 2147483648 + q) % 4294967296 = t * 2147483648 + q := by
  have : (2 * u + t) * 2147483648 + q = (t * 2147483648 + q) + 4294967296 * u := by omega
  rw [this, Int.add_mul_emod_self_left]
  exact Int.emod_eq_of_lt (by omega) (by omega)
 have m2 : (t * 2147483648 + q + u) / 2147483648 = t := by omega
 have m3 : 2 * ((2 * u + t) * 2147483648 + q) % 4294967296 = 2 * q := by
  have : 2 * ((2 * u + t) * 2147483648 + q) = 2 * q + 4294967296 * (2 * u + t) := by omega
  rw [this, Int.add_mul_emod_self_left]
  exact Int.emod_eq_of_lt (by omega) (by omega)
 rw [m1, m2, m3]
 have m4 : 2 * (t * 2147483648 + q + u) + t = (2 * q + (2 * u + t)) + 4294967296 * t := by omega
 rw [m4, Int.add_mul_emod_self_left]
 exact Int.emod_eq_of_lt (by omega) (by omega)
theorem left_step (n : Nat) (hn : n < 31) (x : Int) (h0 : 0 ≤ x) (h : x < 4294967296) : (2 * leftS n x + leftS n x / 2147483648) % 4294967296 = leftS (n + 1) x := by
 have hA : (0 : Int) < 2 ^ n := Int.pow_pos (by decide)
 have hB : (0 : Int) < 2 ^ (31 - n) := Int.pow_pos (by decide)
 have hAB : (2 : Int) ^ n * 2 ^ (31 - n) = 2147483648 := by
  rw [← Int.pow_add, show n + (31 - n) = 31 by omega]
  rfl
 have := left_stepAB _ _ x hA hB hAB h0 h
 unfold leftS
 rw [show 32 - n = (31 - n) + 1 by omega, show 32 - (n + 1) = 31 - n by omega, Int.pow_succ, Int.pow_succ, Int.mul_comm (2 ^ (31 - n)) 2, Int.mul_comm (2 ^ n) 2]
 exact this
theorem left_sum (n : Nat) (hn : n ≤ 31) (x : Int) (h0 : 0 ≤ x) (h : x < 4294967296) : upTo leftF n x = leftS n x := by
 induction n with
 | zero => rw [upTo, leftS]; simp; omega
 | succ n ih => rw [upTo, ih (by omega), leftF, left_step n (by omega) x h0 h]
theorem rot_leftS (n : Nat) (hn : n ≤ 31) (x : Int) (h0 : 0 ≤ x) (h : x < 4294967296) : rotI x n = leftS n x := by
 unfold rotI leftS
 rw [IntKind.wrap_u32]
 have hA : (0 : Int) < 2 ^ n := Int.pow_pos (by decide)
 have hB : (0 : Int) < 2 ^ (32 - n) := Int.pow_pos (by decide)
 have hAB : (2 : Int) ^ n * 2 ^ (32 - n) = 4294967296 := by
  rw [← Int.pow_add, show n + (32 - n) = 32 by omega]
  rfl
 have hd : x / 2 ^ (32 - n) < 2 ^ n := Int.ediv_lt_of_lt_mul hB (by rw [hAB]; exact h)
 have hd0 : 0 ≤ x / 2 ^ (32 - n) := Int.ediv_nonneg h0 (by omega)
 have hle : (2 : Int) ^ n ≤ 4294967296 := by rw [← hAB]; have := Int.mul_le_mul_of_nonneg_left (show (1 : Int) ≤ 2 ^ (32 - n) by omega) (Int.le_of_lt hA); rwa [Int.mul_one] at this
 have hm : x * 2 ^ n % 4294967296 % 2 ^ n = 0 := by
  rw [Int.emod_emod_of_dvd _ ⟨_, hAB.symm⟩, Int.mul_emod_left]
 refine bits_join .u32 32 (by decide) (fun n h0 h1 => by rw [IntKind.wrap_u32]; omega) n _ _ (by omega) hm (by omega) hd0 hd (by omega)
end Go.Proofs.YtakkicppgkmokaaGreat
