/- Bytes and bits of bytes; what loops have made; keys compared. No program in sight. -/
import Derived.Test.YtcebllbikmgjpaaGreatRegJ
import Derived.Test.YtcebllbikmgjpaaGreatJ2
import Derived.Laws.BitsAllLaws
import Derived.Lib.EndianBits
set_option linter.unusedSimpArgs false
set_option linter.unusedVariables false
set_option maxHeartbeats 8000000
set_option maxRecDepth 20000
namespace Go.Proofs.YtcebllbikmgjpaaGreat
open Go.RowKit
def upTo {α : Type} (f : Nat → α → α) : Nat → α → α
 | 0, x => x
 | k + 1, x => f k (upTo f k x)
theorem upTo_length {f : Nat → List Int → List Int} (hf : ∀ i l, (f i l).length = l.length) (k : Nat) (xs : List Int) : (upTo f k xs).length = xs.length := by
 induction k with
 | zero => rfl
 | succ k ih => rw [upTo, hf, ih]
theorem upTo_len {f : Nat → List Int → List Int} (hf : ∀ i l, (f i l).length = l.length) (k : Nat) (xs : List Int) : (upTo f k xs).length = xs.length := by
 induction k with
 | zero => rfl
 | succ k ih => rw [upTo, hf, ih]
def byteI (n : Int) : UInt8 := UInt8.ofNat (n % 256).toNat
theorem upTo_len8 {f : Nat → List UInt8 → List UInt8} (hf : ∀ i l, (f i l).length = l.length) (k : Nat) (xs : List UInt8) : (upTo f k xs).length = xs.length := by
 induction k with
 | zero => rfl
 | succ k ih => rw [upTo, hf, ih]
theorem byteI_toNat (n : Int) : ((byteI n).toNat : Int) = n % 256 := by
 simp only [byteI, UInt8.toNat_ofNat']
 omega
theorem u8s_set (b : List UInt8) (i : Nat) (n : Int) : (u8s b).set i (.int .u8 (n % 256)) = u8s (b.set i (byteI n)) := by
 rw [u8s, u8s, List.map_set, byteI_toNat]
@[simp] theorem u8s_get (l : List UInt8) (i : Nat) (h : i < (u8s l).length) : (u8s l)[i] = .int .u8 ((l[i]'(by simpa using h)).toNat : Int) := by simp [u8s]
theorem u8s_setB (l : List UInt8) (i : Nat) (b : UInt8) : (u8s l).set i (.int .u8 (b.toNat : Int)) = u8s (l.set i b) := by simp [u8s, List.map_set]
theorem and_u8 (a b : UInt8) : bits .and .u8 (a.toNat : Int) (b.toNat : Int) = ((a &&& b).toNat : Int) := by
 rw [(bits_nat .u8 8 (by decide) wraps_u8 _ _ a.toNat_lt b.toNat_lt).1, UInt8.toNat_and]
theorem or_u8 (a b : UInt8) : bits .or .u8 (a.toNat : Int) (b.toNat : Int) = ((a ||| b).toNat : Int) := by
 rw [(bits_nat .u8 8 (by decide) wraps_u8 _ _ a.toNat_lt b.toNat_lt).2, UInt8.toNat_or]
theorem xor_u8 (a b : UInt8) : bits .xor .u8 (a.toNat : Int) (b.toNat : Int) = ((a ^^^ b).toNat : Int) := by
 rw [u8_xor_nat _ _ a.toNat_lt b.toNat_lt, UInt8.toNat_xor]
@[simp] theorem fits_u8s {n : Nat} (a : List UInt8) (h : a.length = n) : fits (leaves n (.int .u8)) (u8s a) = true := by
 have := fits_u8v (n := n) ⟨a.toArray, by simpa using h⟩ [] []
 simp only [List.append_nil] at this
 exact this
@[simp] theorem ceq_u8s' (a b : List UInt8) (h : a.length = b.length) : ceq (u8s a) (u8s b) = (a == b) := ceq_u8s a b h
end Go.Proofs.YtcebllbikmgjpaaGreat
