/- Plain laws of package curve: products and inverses of keys make a field. -/
import Derived.Test.YtakkicppgkmokaaGreatJ36
import Derived.Test.YtakkicppgkmokaaGreatFerJ
set_option linter.unusedSimpArgs false
set_option linter.unusedVariables false
namespace Go.Proofs.YtakkicppgkmokaaGreat
open Go.RowKit
theorem times_mod (x y : List Int) (hx : within 33554432 x) (hy : within 33554432 y) : red (timesL x y) ∧ valN (timesL x y) % pN = valN x * valN y % pN := by
 obtain ⟨h1, c, h2⟩ := timesL_spec x y hx hy
 refine ⟨h1, ?_⟩
 rw [h2, two_p, Int.mul_assoc, Int.mul_comm, Int.mul_comm pN, ← Int.mul_assoc, Int.sub_mul_emod_self_right, Int.mul_comm]
def expN : Nat → Nat
 | 0 => 1
 | k + 1 => if k = 251 ∨ k = 249 then 2 * expN k else 2 * expN k + 1
theorem mm (a b c d : Int) (h1 : a % pN = b % pN) (h2 : c % pN = d % pN) : a * c % pN = b * d % pN := by
 rw [Int.mul_emod, h1, h2, ← Int.mul_emod]
theorem am (a b c d : Int) (h1 : a % pN = b % pN) (h2 : c % pN = d % pN) : (a + c) % pN = (b + d) % pN := by
 rw [Int.add_emod, h1, h2, ← Int.add_emod]
theorem sm (a b c d : Int) (h1 : a % pN = b % pN) (h2 : c % pN = d % pN) : (a - c) % pN = (b - d) % pN := by
 rw [Int.sub_emod, h1, h2, ← Int.sub_emod]
theorem pm_ (a b : Int) (n : Nat) (h : a % pN = b % pN) : a ^ n % pN = b ^ n % pN := by
 induction n with
 | zero => rw [Int.pow_zero, Int.pow_zero]
 | succ n ih => rw [Int.pow_succ, Int.pow_succ]; exact mm _ _ _ _ ih h
theorem inv_mod (xs : List Int) (hx : red xs) : ∀ k, k ≤ 254 → red (upTo (invF xs) k xs) ∧ valN (upTo (invF xs) k xs) % pN = valN xs ^ expN k % pN := by
 intro k
 induction k with
 | zero => intro _; exact ⟨hx, by rw [upTo, expN, Int.pow_succ, Int.pow_zero, Int.one_mul]⟩
 | succ k ih =>
  intro hk
  obtain ⟨h1, h2⟩ := ih (by omega)
  rw [upTo]
  generalize upTo (invF xs) k xs = o at *
  obtain ⟨h3, h4⟩ := times_mod o o (red_within _ h1) (red_within _ h1)
  have h5 : valN (timesL o o) % pN = valN xs ^ (2 * expN k) % pN := by
   rw [h4, Nat.two_mul, Int.pow_add]
   exact mm _ _ _ _ h2 h2
  unfold invF expN
  by_cases hc : k = 251 ∨ k = 249
  ·
   rw [if_pos hc, if_pos hc]; exact ⟨h3, h5⟩
  ·
   rw [if_neg hc, if_neg hc]
   obtain ⟨h6, h7⟩ := times_mod _ _ (red_within _ h3) (red_within _ hx)
   refine ⟨h6, ?_⟩
   rw [h7, Int.pow_succ]
   exact mm _ _ _ _ h5 rfl
def eN : Nat := expN 254
theorem invL_mod (xs : List Int) (hx : red xs) : red (invL xs) ∧ valN (invL xs) % pN = valN xs ^ eN % pN := inv_mod xs hx 254 (Nat.le_refl _)
def pm1 : Nat := 57896044618658097711785492504343953926634992332820282019728792003956564819948
attribute [irreducible] pm1 eN
theorem mod_mod (v : Int) : v % pN % pN = v % pN := Int.emod_emod_of_dvd _ (Int.dvd_refl _)
theorem numK_zero : numK (List.replicate 32 0) = 0 := by decide +kernel
theorem key_zero : keyV 0 = List.replicate 32 0 := by decide +kernel
theorem eN_pos : 0 < eN := by decide +kernel
theorem zero_pow_ (v : Int) (h : v % pN = 0) (n : Nat) (hn : 0 < n) : v ^ n % pN = 0 := by
 obtain ⟨m, rfl⟩ : ∃ m, n = m + 1 := ⟨n - 1, by omega⟩
 rw [Int.pow_succ, mm _ (v ^ m) _ 0 rfl (by rw [h]; rfl)]
 simp
end Go.Proofs.YtakkicppgkmokaaGreat
