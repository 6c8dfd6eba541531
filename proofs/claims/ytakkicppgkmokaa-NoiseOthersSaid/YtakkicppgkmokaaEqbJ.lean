/- Structs of lists of bytes, compared. -/
import Derived.Test.YtakkicppgkmokaaJ2
set_option linter.unusedSimpArgs false
set_option linter.unusedVariables false
namespace Go.Proofs.Ytakkicppgkmokaa
open Go.RowKit
theorem u8s_okL (l : List UInt8) : ∀ u ∈ u8s l, (Leaf.int .u8).ok u = true := by
  intro u hu
  simp [u8s] at hu
  obtain ⟨b, _, rfl⟩ := hu
  simp
theorem fits_u8sA {n : Nat} (l : List UInt8) (h : l.length = n) (ls : List Leaf) (r : List Value) : fits (leaves n (.int .u8) ++ ls) (u8s l ++ r) = fits ls r := fits_rep (by simp [h]) (u8s_okL l)
theorem fits_u8s' {n : Nat} (l : List UInt8) (h : l.length = n) : fits (leaves n (.int .u8)) (u8s l) = true := by
  have := fits_u8sA l h [] []
  simpa [fits] using this
theorem fits_two {n m : Nat} (a b : List UInt8) (ha : a.length = n) (hb : b.length = m) : fits (leaves n (.int .u8) ++ (leaves m (.int .u8) ++ [])) (u8s a ++ u8s b) = true := by
  rw [fits_u8sA a ha, List.append_nil]
  exact fits_u8s' b hb
theorem ceq_u8s_append : ∀ (a b : List UInt8) (r s : List Value), a.length = b.length → ceq (u8s a ++ r) (u8s b ++ s) = ((a == b) && ceq r s)
  | [], [], r, s, _ => by simp [u8s]
  | x :: a, y :: b, r, s, h => by
    have := ceq_u8s_append a b r s (by simpa using h)
    simp only [u8s, List.map_cons, List.cons_append, ceq, veq] at *
    rw [this]
    simp only [List.cons_beq_cons, Bool.and_assoc]
    congr 1
    rw [Bool.eq_iff_iff]
    simp only [beq_iff_eq, decide_eq_true_eq]
    rw [← UInt8.toNat_inj]
    omega
  | [], _ :: _, _, _, h => by simp at h
  | _ :: _, [], _, _, h => by simp at h
theorem ceq_u8s_same (a : List UInt8) : ceq (u8s a) (u8s a) = true := by rw [ceq_u8s a a rfl]; simp
theorem ceq_two (a b c d : List UInt8) (h1 : a.length = c.length) (h2 : b.length = d.length) : ceq (u8s a ++ u8s b) (u8s c ++ u8s d) = (a == c && b == d) := by rw [ceq_u8s_append a c _ _ h1, ceq_u8s b d h2]
theorem ceq_two_same (a b : List UInt8) : ceq (u8s a ++ u8s b) (u8s a ++ u8s b) = true := by rw [ceq_two _ _ _ _ rfl rfl]; simp
theorem fits_zeros64 : fits (leaves 32 (.int .u8) ++ (leaves 32 (.int .u8) ++ [])) (zeros 64 (.int .u8 0)) = true := by
  have := fits_two (List.replicate 32 0) (List.replicate 32 0) (n := 32) (m := 32) (by simp) (by simp)
  rw [← u8s_append, List.replicate_append_replicate] at this
  have e : u8s (List.replicate 64 0) = zeros 64 (.int .u8 0) := by simp [u8s, zeros]
  rw [← e]
  exact this
end Go.Proofs.Ytakkicppgkmokaa
