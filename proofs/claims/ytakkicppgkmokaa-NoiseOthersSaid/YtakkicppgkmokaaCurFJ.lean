/- Plain laws of package curve: products and inverses of keys make a field. -/
import Derived.Test.YtakkicppgkmokaaJ35
import Derived.Test.YtakkicppgkmokaaFer
set_option linter.unusedSimpArgs false
set_option linter.unusedVariables false
namespace Go.Proofs.Ytakkicppgkmokaa
open Go.RowKit
theorem times_mod (x y : List Int) (hx : within 33554432 x) (hy : within 33554432 y) : red (timesL x y) ∧ valN (timesL x y) % pN = valN x * valN y % pN := by
  obtain ⟨h1, c, h2⟩ := timesL_spec x y hx hy
  refine ⟨h1, ?_⟩
  rw [h2, two_p, Int.mul_assoc, Int.mul_comm, Int.mul_comm pN, ← Int.mul_assoc, Int.sub_mul_emod_self_right, Int.mul_comm]
def expN : Nat → Nat
  | 0 => 1
  | k + 1 => if k = 251 ∨ k = 249 then 2 * expN k else 2 * expN k + 1
theorem mm (a b c d : Int) (h1 : a % pN = b % pN) (h2 : c % pN = d % pN) : a * c % pN = b * d % pN := by
  rw [Int.mul_emod, h1, h2, ← Int.mul_emod]
theorem am (a b c d : Int) (h1 : a % pN = b % pN) (h2 : c % pN = d % pN) : (a + c) % pN = (b + d) % pN := by
  rw [Int.add_emod, h1, h2, ← Int.add_emod]
theorem sm (a b c d : Int) (h1 : a % pN = b % pN) (h2 : c % pN = d % pN) : (a - c) % pN = (b - d) % pN := by
  rw [Int.sub_emod, h1, h2, ← Int.sub_emod]
theorem pm_ (a b : Int) (n : Nat) (h : a % pN = b % pN) : a ^ n % pN = b ^ n % pN := by
  induction n with
  | zero => rw [Int.pow_zero, Int.pow_zero]
  | succ n ih => rw [Int.pow_succ, Int.pow_succ]; exact mm _ _ _ _ ih h
theorem inv_mod (xs : List Int) (hx : red xs) : ∀ k, k ≤ 254 → red (upTo (invF xs) k xs) ∧ valN (upTo (invF xs) k xs) % pN = valN xs ^ expN k % pN := by
  intro k
  induction k with
  | zero => intro _; exact ⟨hx, by rw [upTo, expN, Int.pow_succ, Int.pow_zero, Int.one_mul]⟩
  | succ k ih =>
    intro hk
    obtain ⟨h1, h2⟩ := ih (by omega)
    rw [upTo]
    generalize upTo (invF xs) k xs = o at *
    obtain ⟨h3, h4⟩ := times_mod o o (red_within _ h1) (red_within _ h1)
    have h5 : valN (timesL o o) % pN = valN xs ^ (2 * expN k) % pN := by
      rw [h4, Nat.two_mul, Int.pow_add]
      exact mm _ _ _ _ h2 h2
    unfold invF expN
    by_cases hc : k = 251 ∨ k = 249
    · rw [if_pos hc, if_pos hc]; exact ⟨h3, h5⟩
    · rw [if_neg hc, if_neg hc]
      obtain ⟨h6, h7⟩ := times_mod _ _ (red_within _ h3) (red_within _ hx)
      refine ⟨h6, ?_⟩
      rw [h7, Int.pow_succ]
      exact mm _ _ _ _ h5 rfl
def eN : Nat := expN 254
theorem invL_mod (xs : List Int) (hx : red xs) : red (invL xs) ∧ valN (invL xs) % pN = valN xs ^ eN % pN := inv_mod xs hx 254 (Nat.le_refl _)
def pm1 : Nat := 57896044618658097711785492504343953926634992332820282019728792003956564819948
theorem pm1_eq : pm1 = 57896044618658097711785492504343953926634992332820282019728792003956564819948 := rfl
theorem eN_pm1 : eN + 1 = pm1 := by decide +kernel
attribute [irreducible] pm1 eN
theorem invK_eq (a : List UInt8) : invK a = keyV (numK a ^ eN % pN) := by
  obtain ⟨h1, h2⟩ := invL_mod _ (ofL_red a)
  rw [invK, keyL_eq _ h1, h2, numK]
theorem pow_cast (n k P : Nat) : ((n : Int) ^ k) % (P : Int) = ((n ^ k % P : Nat) : Int) := by push_cast; rfl
theorem fermatI (v : Int) (h : v % pN ≠ 0) : v ^ pm1 % pN = 1 := by
  have hb := mod_bd v
  obtain ⟨n, hn⟩ : ∃ n : Nat, v % pN = n := ⟨(v % pN).toNat, by omega⟩
  have hP : pN = ((57896044618658097711785492504343953926634992332820282019728792003956564819949 : Nat) : Int) := rfl
  have h1 : v ^ pm1 % pN = (n : Int) ^ pm1 % pN := pm_ _ _ _ (by rw [← hn, Int.emod_emod_of_dvd _ (Int.dvd_refl _)])
  have h2 := fermatE n pm1 (by rw [pm1_eq]) (by
    intro e
    apply h
    rw [hn]
    have hlt : n < 57896044618658097711785492504343953926634992332820282019728792003956564819949 := by rw [hn, hP] at hb; omega
    rw [Nat.mod_eq_of_lt hlt] at e
    omega)
  have h3 := pow_cast n pm1 57896044618658097711785492504343953926634992332820282019728792003956564819949
  rw [h2] at h3
  rw [h1]
  exact h3
theorem mod_mod (v : Int) : v % pN % pN = v % pN := Int.emod_emod_of_dvd _ (Int.dvd_refl _)
theorem numK_key (v : Int) : numK (keyV (v % pN)) = v % pN := numK_keyV _ (mod_bd v).1 (mod_bd v).2
theorem mulK_comm (a b : List UInt8) : mulK a b = mulK b a := by rw [mulK_eq, mulK_eq, Int.mul_comm]
theorem mulK_assoc (a b c : List UInt8) : mulK a (mulK b c) = mulK (mulK a b) c := by
  rw [mulK_eq b c, mulK_eq a b, mulK_eq, mulK_eq, numK_key, numK_key,
    mm _ (numK a) _ (numK b * numK c) rfl (mod_mod _), mm _ (numK a * numK b) _ (numK c) (mod_mod _) rfl, Int.mul_assoc]
theorem numK_one : numK k1 = 1 := by decide +kernel
theorem numK_zero : numK (List.replicate 32 0) = 0 := by decide +kernel
theorem key_zero : keyV 0 = List.replicate 32 0 := by decide +kernel
theorem key_one : keyV 1 = k1 := by decide +kernel
theorem one_eq (a : List UInt8) : mulK a k1 = keyV (numK a % pN) := by rw [mulK_eq, numK_one, Int.mul_one]
theorem eN_pos : 0 < eN := by decide +kernel
theorem zero_pow_ (v : Int) (h : v % pN = 0) (n : Nat) (hn : 0 < n) : v ^ n % pN = 0 := by
  obtain ⟨m, rfl⟩ : ∃ m, n = m + 1 := ⟨n - 1, by omega⟩
  rw [Int.pow_succ, mm _ (v ^ m) _ 0 rfl (by rw [h]; rfl)]
  simp
theorem field_zero (a : List UInt8) (h : numK a % pN = 0) : mulK a k1 = List.replicate 32 0 ∧ invK a = List.replicate 32 0 := by
  rw [one_eq, invK_eq, h, zero_pow_ _ h _ eN_pos, key_zero]
  exact ⟨rfl, rfl⟩
theorem field_one (a : List UInt8) (h : numK a % pN ≠ 0) : mulK a k1 ≠ List.replicate 32 0 ∧ mulK a (invK a) = k1 := by
  constructor
  · intro e
    have := congrArg numK e
    rw [one_eq, numK_key, numK_zero] at this
    exact h this
  · rw [mulK_eq, invK_eq, numK_key, mm _ (numK a) _ (numK a ^ eN) rfl (mod_mod _), Int.mul_comm, ← Int.pow_succ, Nat.succ_eq_add_one, eN_pm1, fermatI _ h, key_one]
theorem inv_inv (a : List UInt8) : invK (invK a) = mulK a k1 := by
  rw [one_eq, invK_eq, invK_eq, numK_key, pm_ _ (numK a ^ eN) _ (mod_mod _), ← Int.pow_mul]
  by_cases h : numK a % pN = 0
  · rw [h, zero_pow_ _ h _ (Nat.mul_pos eN_pos eN_pos)]
  · have e : eN * eN = pm1 * (eN - 1) + 1 := by decide +kernel
    rw [e, Int.pow_succ, Int.pow_mul, mm _ 1 _ (numK a) ?_ rfl, Int.one_mul]
    rw [pm_ _ 1 _ (by rw [fermatI _ h]; decide +kernel), Int.one_pow]
end Go.Proofs.Ytakkicppgkmokaa
