/- Contracts of the reference of chapter 1: words turned right, and shifted. -/
import Derived.Test.YtakkicppgkmokaaGreatRfAJ
import Derived.Test.YtakkicppgkmokaaGreatShaJ
set_option linter.unusedSimpArgs false
set_option linter.unusedVariables false
set_option maxRecDepth 4000
namespace Go.Proofs.YtakkicppgkmokaaGreat
open Go.RowKit
def rightF (_ : Nat) (x : Int) : Int := x / 2 + x % 2 * 2147483648
def shiftF (_ : Nat) (x : Int) : Int := x / 2
theorem rightF_lt (k : Nat) (x : Int) (h0 : 0 ≤ x) (h : x < 4294967296) : 0 ≤ upTo rightF k x ∧ upTo rightF k x < 4294967296 := by
 induction k with
 | zero => exact ⟨h0, h⟩
 | succ k ih => rw [upTo, rightF]; omega
theorem shiftF_lt (k : Nat) (x : Int) (h0 : 0 ≤ x) (h : x < 4294967296) : 0 ≤ upTo shiftF k x ∧ upTo shiftF k x < 4294967296 := by
 induction k with
 | zero => exact ⟨h0, h⟩
 | succ k ih => rw [upTo, shiftF]; omega
set_option maxRecDepth 20000 in
theorem rightU_any (x : Int) (n : Nat) (w : World) (h0 : 0 ≤ x) (h : x < 4294967296) (hn : n ≤ 32) :
  Calls Tryz.prog 126 #[.int .u32 x, .int .i64 n] w fun e w' => e = .returned (.int .u32 (upTo rightF n x)) ∧ w = w' := by
 have hn2 : (n : Int) ≤ 32 := by omega
 go_enter Tryz.func126, Tryz.ntmps126
 go_wp2_with fail
 go_loopw [0, 5] (fun v i wr => ∃ k : Nat, k ≤ n ∧ i = .int .i64 k ∧ v = .int .u32 (upTo rightF k x) ∧ w = wr) (fun _ i _ => n - (intOf i).toNat)
 case atStart => exact ⟨0, by omega, rfl, rfl, rfl⟩
 case round =>
  obtain ⟨k, hk, rfl, rfl, rfl⟩ := hrel
  have hb := rightF_lt k x h0 h
  obtain ⟨y, hy⟩ : ∃ y, upTo rightF k x = y := ⟨_, rfl⟩
  rw [hy] at hb ⊢
  by_cases hlt : k < n
  ·
   have g1 : (k : Int) < n := by omega
   obtain ⟨b0, b1⟩ := hb
   have hs : upTo rightF (k + 1) x = y / 2 + y % 2 * 2147483648 := by rw [upTo, hy, rightF]
   have HS := Lib.hid hs
   clear hs hy
   rcases (show y % 2 = 0 ∨ y % 2 = 1 by omega) with h2 | h2
   ·
    have e2 : y.tmod 2 = 0 := by rw [Int.tmod_eq_emod_of_nonneg b0]; exact h2
    go_wp2_with fail
    exact ⟨⟨k + 1, by omega, by simp, by rw [HS.out, h2]; congr 1; try omega, trivial⟩, by simp [intOf]; omega⟩
   ·
    have e2 : y.tmod 2 = 1 := by rw [Int.tmod_eq_emod_of_nonneg b0]; exact h2
    have e3 : IntKind.u32.wrap (y / 2 + 2147483648) = y / 2 + 2147483648 := by rw [IntKind.wrap_u32]; omega
    go_wp2_with fail
    exact ⟨⟨k + 1, by omega, by simp, by rw [HS.out, h2]; congr 1 <;> omega, trivial⟩, by simp [intOf]; omega⟩
  ·
   obtain rfl : k = n := by omega
   go_wp2_with fail
   go_ret
   simp [hy]
set_option maxRecDepth 20000 in
theorem shiftU_any (x : Int) (n : Nat) (w : World) (h0 : 0 ≤ x) (h : x < 4294967296) (hn : n ≤ 32) :
  Calls Tryz.prog 127 #[.int .u32 x, .int .i64 n] w fun e w' => e = .returned (.int .u32 (upTo shiftF n x)) ∧ w = w' := by
 have hn2 : (n : Int) ≤ 32 := by omega
 go_enter Tryz.func127, Tryz.ntmps127
 go_wp2_with fail
 go_loopw [0, 5] (fun v i wr => ∃ k : Nat, k ≤ n ∧ i = .int .i64 k ∧ v = .int .u32 (upTo shiftF k x) ∧ w = wr) (fun _ i _ => n - (intOf i).toNat)
 case atStart => exact ⟨0, by omega, rfl, rfl, rfl⟩
 case round =>
  obtain ⟨k, hk, rfl, rfl, rfl⟩ := hrel
  have hb := shiftF_lt k x h0 h
  obtain ⟨y, hy⟩ : ∃ y, upTo shiftF k x = y := ⟨_, rfl⟩
  rw [hy] at hb ⊢
  by_cases hlt : k < n
  ·
   have g1 : (k : Int) < n := by omega
   obtain ⟨b0, b1⟩ := hb
   have hs : upTo shiftF (k + 1) x = y / 2 := by rw [upTo, hy, shiftF]
   have HS := Lib.hid hs
   clear hs hy
   go_wp2_with fail
   exact ⟨⟨k + 1, by omega, by simp, by rw [HS.out], trivial⟩, by simp [intOf]; omega⟩
  ·
   obtain rfl : k = n := by omega
   go_wp2_with fail
   go_ret
   simp [hy]
theorem shift_pow (n : Nat) (x : Int) (h0 : 0 ≤ x) : upTo shiftF n x = x / 2 ^ n := by
 induction n with
 | zero => rw [upTo]; simp
 | succ n ih => rw [upTo, ih, shiftF, Int.pow_succ, Int.ediv_ediv_of_nonneg (Int.le_of_lt (Int.pow_pos (by decide)))]
theorem leftS_lt (n : Nat) (hn : n ≤ 31) (x : Int) (h0 : 0 ≤ x) (h : x < 4294967296) : 0 ≤ leftS n x ∧ leftS n x < 4294967296 := by
 rw [← left_sum n hn x h0 h]
 exact leftF_lt n x h0 h
theorem right_left (n : Nat) (hn : n < 31) (x : Int) (h0 : 0 ≤ x) (h : x < 4294967296) : upTo rightF (n + 1) x = leftS (31 - n) x := by
 induction n with
 | zero =>
  rw [upTo, upTo, rightF, leftS]
  simp only [Nat.sub_zero, show (2 : Int) ^ 31 = 2147483648 from rfl, show 32 - 31 = 1 from rfl, Int.pow_one]
  omega
 | succ n ih =>
  rw [upTo, ih (by omega), rightF]
  have hs := left_step (31 - (n + 1)) (by omega) x h0 h
  rw [show 31 - (n + 1) + 1 = 31 - n by omega] at hs
  rw [← hs]
  obtain ⟨l0, l1⟩ := leftS_lt (31 - (n + 1)) (by omega) x h0 h
  obtain ⟨L, hL⟩ : ∃ L, leftS (31 - (n + 1)) x = L := ⟨_, rfl⟩
  rw [hL] at l0 l1 ⊢
  rcases (show L / 2147483648 = 0 ∨ L / 2147483648 = 1 by omega) with hq | hq <;> rw [hq] <;> omega
theorem right_rot (n k : Nat) (hn : n + k = 32) (hn1 : 1 ≤ n) (hk : 1 ≤ k) (x : Int) (h0 : 0 ≤ x) (h : x < 4294967296) : upTo rightF n x = rotI x k := by
 obtain ⟨m, rfl⟩ : ∃ m, n = m + 1 := ⟨n - 1, by omega⟩
 rw [right_left m (by omega) x h0 h, show 31 - m = k by omega, rot_leftS k (by omega) x h0 h]
theorem rightR_any (x : Int) (n : Nat) (m : Int) (k : Nat) (hm : m = (n : Int)) (hn : n + k = 32) (hn1 : 1 ≤ n) (hk : 1 ≤ k) (w : World) (h0 : 0 ≤ x) (h : x < 4294967296) :
  Calls Tryz.prog 126 #[.int .u32 x, .int .i64 m] w fun e w' => e = .returned (.int .u32 (rotI x k)) ∧ Below w.heap.size w w' := by
 subst hm
 refine (rightU_any x n w h0 h (by omega)).mono ?_
 rintro e w' ⟨rfl, rfl⟩
 exact ⟨by rw [right_rot n k hn hn1 hk x h0 h], Below.refl _ _⟩
theorem shiftR_any (x : Int) (n : Nat) (m : Int) (hm : m = (n : Int)) (hn : n ≤ 32) (w : World) (h0 : 0 ≤ x) (h : x < 4294967296) :
  Calls Tryz.prog 127 #[.int .u32 x, .int .i64 m] w fun e w' => e = .returned (.int .u32 (x / 2 ^ n)) ∧ Below w.heap.size w w' := by
 subst hm
 refine (shiftU_any x n w h0 h hn).mono ?_
 rintro e w' ⟨rfl, rfl⟩
 exact ⟨by rw [shift_pow n x h0], Below.refl _ _⟩
end Go.Proofs.YtakkicppgkmokaaGreat
