/- Plain laws of package curve: with the public keys 0 and 1 all share 0. -/
import Derived.Test.YtakkicppgkmokaaGreatCurGJ
import Derived.Test.YtakkicppgkmokaaGreatCurCJ
set_option linter.unusedSimpArgs false
set_option linter.unusedVariables false
set_option maxRecDepth 4000
namespace Go.Proofs.YtakkicppgkmokaaGreat
open Go.RowKit
attribute [local irreducible] pN
theorem mul_zero_mod (c : Int) : pN * c % pN = 0 := Int.mul_emod_right _ _
theorem step_z0 (s : LadM) (u : Int) (h : s.x * s.z % pN = 0) : (s.step u).z = 0 := by
  obtain ⟨c, hc⟩ := Int.dvd_of_emod_eq_zero h
  unfold LadM.step
  show _ % pN = 0
  obtain ⟨Y, hY⟩ : ∃ Y, (s.x + s.z) * (s.x + s.z) + 121665 * ((s.x + s.z) * (s.x + s.z) - (s.x - s.z) * (s.x - s.z)) = Y := ⟨_, rfl⟩
  rw [hY]
  have : ((s.x + s.z) * (s.x + s.z) - (s.x - s.z) * (s.x - s.z)) * Y = pN * (4 * c * Y) := by grind
  rw [this, mul_zero_mod]
theorem step_t0 (s : LadM) : (s.step 0).t = 0 := by
  unfold LadM.step
  show _ % pN = 0
  simp
theorem step_x0 (s : LadM) (u : Int) (h : (s.x - s.z) % pN = 0) : (s.step u).x = 0 := by
  obtain ⟨c, hc⟩ := Int.dvd_of_emod_eq_zero h
  unfold LadM.step
  show _ % pN = 0
  have : (s.x + s.z) * (s.x + s.z) * ((s.x - s.z) * (s.x - s.z)) = pN * ((s.x + s.z) * (s.x + s.z) * (c * (s.x - s.z))) := by grind
  rw [this, mul_zero_mod]
theorem sub_mod_mod (a b : Int) : (a % pN - b % pN) % pN = (a - b) % pN := (Int.sub_emod a b pN).symm
theorem step_odd (s : LadM) (h : (s.w - s.t) % pN = 0 ∨ (s.x - s.z) % pN = 0) : ((s.step 1).w - (s.step 1).t) % pN = 0 := by
  unfold LadM.step
  show (_ % pN - _ % pN) % pN = 0
  rw [sub_mod_mod]
  rcases h with h | h
  · obtain ⟨c, hc⟩ := Int.dvd_of_emod_eq_zero h
    obtain ⟨K, hK⟩ : ∃ K, (s.w + s.t) * (s.x - s.z) = K := ⟨_, rfl⟩
    obtain ⟨J, hJ⟩ : ∃ J, (s.w - s.t) * (s.x + s.z) = J := ⟨_, rfl⟩
    have hJ2 : J = pN * (c * (s.x + s.z)) := by rw [← hJ, hc, Int.mul_assoc]
    rw [hK, hJ]
    have : (J + K) * (J + K) - 1 * ((J - K) * (J - K)) = pN * (4 * (c * (s.x + s.z)) * K) := by rw [hJ2]; grind
    rw [this, mul_zero_mod]
  · obtain ⟨c, hc⟩ := Int.dvd_of_emod_eq_zero h
    obtain ⟨K, hK⟩ : ∃ K, (s.w + s.t) * (s.x - s.z) = K := ⟨_, rfl⟩
    obtain ⟨J, hJ⟩ : ∃ J, (s.w - s.t) * (s.x + s.z) = J := ⟨_, rfl⟩
    have hK2 : K = pN * ((s.w + s.t) * c) := by rw [← hK, hc]; grind
    rw [hK, hJ]
    have : (J + K) * (J + K) - 1 * ((J - K) * (J - K)) = pN * (4 * J * ((s.w + s.t) * c)) := by rw [hK2]; grind
    rw [this, mul_zero_mod]
theorem zmod : (0 : Int) % pN = 0 := Int.zero_emod _
def Inv0 (s : LadM) : Prop := s.x * s.z % pN = 0 ∧ s.w * s.t % pN = 0
theorem inv0_step (s : LadM) (h : s.x * s.z % pN = 0) : Inv0 (s.step 0) ∧ (s.step 0).z = 0 ∧ (s.step 0).t = 0 := by
  have h1 := step_z0 s 0 h
  have h2 := step_t0 s
  refine ⟨⟨?_, ?_⟩, h1, h2⟩
  · rw [h1, Int.mul_zero, zmod]
  · rw [h2, Int.mul_zero, zmod]
theorem ladM_0 (n : List UInt8) : (ladM n 0).z = 0 := by
  have : ∀ k, Inv0 (upTo (ladMF n 0) k (ladM0 0)) ∧ (0 < k → (upTo (ladMF n 0) k (ladM0 0)).z = 0) := by
    intro k
    induction k with
    | zero => exact ⟨⟨by simp [upTo, ladM0, zmod], by simp [upTo, ladM0, zmod]⟩, fun h => by omega⟩
    | succ k ih =>
      rw [upTo]
      generalize upTo (ladMF n 0) k (ladM0 0) = s at *
      unfold ladMF
      split
      · obtain ⟨h1, h2, h3⟩ := inv0_step s.swap ih.1.2
        exact ⟨⟨h1.2, h1.1⟩, fun _ => h3⟩
      · obtain ⟨h1, h2, h3⟩ := inv0_step s ih.1.1
        exact ⟨h1, fun _ => h2⟩
  exact (this 255).2 (by omega)
def Par (s : LadM) : Prop := (s.x * s.z % pN = 0 ∧ (s.w - s.t) % pN = 0) ∨ ((s.x - s.z) % pN = 0 ∧ s.w * s.t % pN = 0)
theorem par_step (s : LadM) (h : Par s) : (s.step 1).x * (s.step 1).z % pN = 0 ∧ ((s.step 1).w - (s.step 1).t) % pN = 0 := by
  rcases h with ⟨h1, h2⟩ | ⟨h1, h2⟩
  · exact ⟨by rw [step_z0 s 1 h1, Int.mul_zero, zmod], step_odd s (.inl h2)⟩
  · exact ⟨by rw [step_x0 s 1 h1, Int.zero_mul, zmod], step_odd s (.inr h1)⟩
theorem par_swap (s : LadM) (h : Par s) : Par s.swap := by
  rcases h with ⟨h1, h2⟩ | ⟨h1, h2⟩
  · exact .inr ⟨h2, h1⟩
  · exact .inl ⟨h2, h1⟩
theorem par_all (n : List UInt8) : ∀ k, Par (upTo (ladMF n 1) k (ladM0 1)) := by
  intro k
  induction k with
  | zero => exact .inl ⟨by simp [upTo, ladM0, zmod], by simp [upTo, ladM0, zmod]⟩
  | succ k ih =>
    rw [upTo]
    generalize upTo (ladMF n 1) k (ladM0 1) = s at *
    unfold ladMF
    split
    · exact par_swap _ (.inl (par_step _ (par_swap _ ih)))
    · exact .inl (par_step _ ih)
theorem clamp_bits (n : List UInt8) (hn : n.length = 32) : bitN (clampL n) 0 = false ∧ bitN (clampL n) 1 = false := by
  have h1 : ∀ b : UInt8, ((b &&& 248).toNat / 2 ^ 0 % 2 == 1) = false ∧ ((b &&& 248).toNat / 2 ^ 1 % 2 == 1) = false := all_u8 (by decide +kernel)
  have := h1 (n.getD 0 0)
  unfold bitN
  rw [show 0 / 8 = 0 from rfl, (clamp_at n hn).1]
  exact this
theorem ladM_1 (n : List UInt8) (hn : n.length = 32) : (ladM (clampL n) 1).z = 0 := by
  obtain ⟨b0, b1⟩ := clamp_bits n hn
  have e : ladM (clampL n) 1 = ladMF (clampL n) 1 254 (ladMF (clampL n) 1 253 (upTo (ladMF (clampL n) 1) 253 (ladM0 1))) := rfl
  rw [e]
  have hp := par_all (clampL n) 253
  generalize upTo (ladMF (clampL n) 1) 253 (ladM0 1) = s at *
  have e1 : ladMF (clampL n) 1 253 s = s.step 1 := by
    unfold ladMF
    rw [show 254 - 253 = 1 from rfl, b1]
    rfl
  have e2 : ladMF (clampL n) 1 254 (s.step 1) = (s.step 1).step 1 := by
    unfold ladMF
    rw [show 254 - 254 = 0 from rfl, b0]
    rfl
  rw [e1, e2]
  exact step_z0 _ _ (par_step s hp).1
theorem shared_0 (n : List UInt8) : sharedK n (List.replicate 32 0) = List.replicate 32 0 := by
  rw [sharedK_eq, numK_zero, zmod, ladM_0, ← key_zero]
  congr 1
  rw [mm _ (ladM (clampL n) 0).x _ 0 rfl (by rw [zero_pow_ 0 zmod _ eN_pos, zmod]), Int.mul_zero, zmod]
theorem one_mod : (1 : Int) % pN = 1 := by decide +kernel
theorem shared_1 (n : List UInt8) (hn : n.length = 32) : sharedK n k1 = List.replicate 32 0 := by
  rw [sharedK_eq, numK_one, one_mod, ladM_1 n hn, ← key_zero]
  congr 1
  rw [mm _ (ladM (clampL n) 1).x _ 0 rfl (by rw [zero_pow_ 0 zmod _ eN_pos, zmod]), Int.mul_zero, zmod]
end Go.Proofs.YtakkicppgkmokaaGreat
