/- Elements of ref06 and of the machine are the same numbers. No program in sight. -/
import Derived.Test.YtakkicppgkmokaaGreatJ35
import Derived.Test.YtakkicppgkmokaaGreatCurFJ
set_option linter.unusedSimpArgs false
set_option linter.unusedVariables false
namespace Go.Proofs.YtakkicppgkmokaaGreat
open Go.RowKit
theorem range8 (l : List UInt8) (n : Nat) (h : l.length = n) : l = (List.range n).map fun i => l.getD i 0 := by
 refine List.ext_getElem (by simp [h]) fun i h1 h2 => ?_
 simp [List.getD_eq_getElem?_getD, h1]
theorem nK_num (k : List UInt8) (hk : k.length = 32) : ((nK k : Nat) : Int) = numK k := by
 have h0 : ints8G k = (List.range 32).map fun i => (k.getD i 0).toNat := by
  conv => lhs; rw [range8 k 32 hk]
  simp [ints8G]
 have hl : (ints8G k).length = 32 := by rw [ints8G_length, hk]
 have hs := valB_set (ints8G k) 31 ((ints8G k).getD 31 0 % 128) (by omega)
 have h31 : (ints8G k)[31]'(by omega) = (k.getD 31 0).toNat := by
  simp only [h0]
  simp
 have h31' : (ints8G k).getD 31 0 = (k.getD 31 0).toNat := by rw [getD_at _ _ (by omega), h31]
 rw [h31, h31'] at hs
 rw [nK, h31']
 have hv : valB (ints8G k) = valB ((List.range 32).map fun i => (k.getD i 0).toNat) := by rw [← h0]
 rw [hv] at hs
 rw [numK, ofL_eq]
 have r32 : List.range 32 = [0, 1, 2, 3, 4, 5, 6, 7, 8, 9, 10, 11, 12, 13, 14, 15, 16, 17, 18, 19, 20, 21, 22, 23, 24, 25, 26, 27, 28, 29, 30, 31] := by decide
 have r16 : List.range 16 = [0, 1, 2, 3, 4, 5, 6, 7, 8, 9, 10, 11, 12, 13, 14, 15] := by decide
 generalize valB ((ints8G k).set 31 ((k.getD 31 0).toNat % 128)) = V at *
 clear hv h31 h31' hl h0
 rw [r32] at hs
 rw [r16]
 simp only [List.map_cons, List.map_nil, valB] at hs
 simp only [List.map_cons, List.map_nil, valN, byteAt, Nat.reduceEqDiff, if_true, if_false, Nat.reduceMul, Nat.reduceAdd]
 have hb31 := (k.getD 31 0).toNat_lt
 have hb30 := (k.getD 30 0).toNat_lt
 omega
theorem keyB_at (v : Nat) (i : Nat) (h : i < 32) : (kB v).getD i 0 = UInt8.ofNat (v / 256 ^ i % 256) := by
 rw [List.getD_eq_getElem?_getD, List.getElem?_eq_getElem (by rw [kB_length]; exact h)]
 simp [kB, digB]
theorem pow_two5 (j : Nat) : 65536 ^ j = 256 ^ (2 * j) := by rw [show (65536 : Nat) = 256 ^ 2 from rfl, ← Nat.pow_mul]
theorem digI (v j : Nat) : ((v : Int) / 65536 ^ j % 65536) = ((v / 65536 ^ j % 65536 : Nat) : Int) := by simp
theorem kB_keyV (v : Nat) : kB v = keyV (v : Int) := by
 refine List.ext_getElem (by rw [kB_length, keyV_length]) fun i h1 h2 => ?_
 rw [kB_length] at h1
 have e1 : ∀ (l : List UInt8) (h : i < l.length), l[i] = l.getD i 0 := fun l h => by simp [List.getD_eq_getElem?_getD, h]
 rw [e1, e1, keyB_at v i h1, keyV]
 obtain ⟨j, hj⟩ : ∃ j, i = 2 * j ∨ i = 2 * j + 1 := ⟨i / 2, by omega⟩
 have hat := keyV_at (dig (v : Int)) 16 (Nat.le_refl _) j (by omega)
 have hdg : (dig (v : Int)).getD j 0 = ((v / 65536 ^ j % 65536 : Nat) : Int) := by rw [dig_get _ _ (by omega), digI]
 rw [hdg, pow_two5] at hat
 rcases hj with rfl | rfl
 ·
  rw [hat.1, byteI]
  congr 1
  have : v / 256 ^ (2 * j) % 65536 % 256 = v / 256 ^ (2 * j) % 256 := by omega
  omega
 ·
  rw [hat.2, byteI]
  congr 1
  have h3 : v / 256 ^ (2 * j + 1) = v / 256 ^ (2 * j) / 256 := by rw [Nat.pow_succ, Nat.div_div_eq_div_mul]
  rw [h3]
  omega
theorem eB_eN : eB 255 = eN := by decide +kernel
theorem pB_pN : ((pB : Nat) : Int) = pN := by decide +kernel
end Go.Proofs.YtakkicppgkmokaaGreat
