/- Texts of this proof, merged: CurZ, CurC. -/
import Derived.Test.YtakkicppgkmokaaJ27
import Derived.Test.YtakkicppgkmokaaCurPJ
import Derived.Test.YtakkicppgkmokaaFrameJ
/- Package curve: the examples that the statements' awake asks for, computed. -/
section
set_option linter.unusedSimpArgs false
set_option linter.unusedVariables false
namespace Go.Proofs.Ytakkicppgkmokaa
open Go.RowKit
def z32 : List UInt8 := List.replicate 32 0
theorem u8s_z32 : u8s z32 = zeros 32 (.int .u8 0) := by simp [u8s, z32, zeros]
theorem Lad.eq_of {s t : Lad} (h1 : s.ax = t.ax) (h2 : s.az = t.az) (h3 : s.bx = t.bx) (h4 : s.bz = t.bz) : s = t := by
  cases s; cases t
  simp_all
theorem upTo_fix {α : Type} {f : Nat → α → α} {s x : α} {m : Nat} (h0 : upTo f m s = x) (n : Nat) (hf : ∀ k, m ≤ k → k < n → f k x = x) : ∀ k, m ≤ k → k ≤ n → upTo f k s = x := by
  intro k
  induction k with
  | zero => intro h1 _; rw [show m = 0 by omega] at h0; exact h0
  | succ k ih =>
    intro h1 h2
    by_cases hk : m = k + 1
    · rw [← hk]; exact h0
    · rw [upTo, ih (by omega) (by omega), hf k (by omega) (by omega)]
def pCL : List Int := [65498, 65535, 65535, 65535, 65535, 65535, 65535, 65535, 65535, 65535, 65535, 65535, 65535, 65535, 65535, 65535]
def lad2 : Lad := ⟨pCL, zeroL, pCL, zeroL⟩
theorem ofL_z : ofL z32 = zeroL := by decide +kernel
theorem lad2_eq : upTo (ladF (clampL z32) zeroL) 2 (lad0 zeroL) = lad2 := Lad.eq_of (by decide +kernel) (by decide +kernel) (by decide +kernel) (by decide +kernel)
theorem lad2_step : lad2.step zeroL = lad2 := Lad.eq_of (by decide +kernel) (by decide +kernel) (by decide +kernel) (by decide +kernel)
theorem bits_z : ∀ k : Fin 253, bitN (clampL z32) k.val = false := by decide +kernel
theorem lad_z : ladL (clampL z32) zeroL = lad2 := by
  unfold ladL
  refine upTo_fix lad2_eq 255 (fun k h1 h2 => ?_) 255 (by omega) (by omega)
  unfold ladF
  have := bits_z ⟨254 - k, by omega⟩
  simp only at this
  rw [this, if_neg (by decide)]
  exact lad2_step
theorem inv_z : invL zeroL = zeroL := by
  unfold invL
  refine upTo_fix (m := 0) (x := zeroL) rfl 254 (fun k h1 h2 => ?_) 254 (by omega) (by omega)
  have h : timesL zeroL zeroL = zeroL := by decide +kernel
  unfold invF
  rw [h, h]
  split <;> rfl
theorem shared_z : sharedK z32 z32 = z32 := by
  rw [sharedK, ofL_z, lad_z]
  show keyL (timesL pCL (invL zeroL)) = z32
  rw [inv_z]
  decide +kernel
theorem mul35 : mulK (3 :: List.replicate 31 0) (5 :: List.replicate 31 0) = 15 :: List.replicate 31 0 := by decide +kernel
@[go_sem] theorem u8lit1 : (Value.int .u8 1 :: (zeros 32 (Value.int .u8 0)).tail) = u8s k1 := rfl
@[simp] theorem ceq_z (a : List UInt8) (h : a.length = 32) : ceq (u8s a) (zeros 32 (.int .u8 0)) = (a == z32) := by rw [← u8s_z32]; exact ceq_u8s _ _ (by rw [h]; rfl)
@[go_sem] theorem u8lit3 : (Value.int .u8 3 :: (zeros 32 (Value.int .u8 0)).tail) = u8s (3 :: List.replicate 31 0) := rfl
@[go_sem] theorem u8lit5 : (Value.int .u8 5 :: (zeros 32 (Value.int .u8 0)).tail) = u8s (5 :: List.replicate 31 0) := rfl
@[go_sem] theorem u8lit9 : (Value.int .u8 9 :: (zeros 32 (Value.int .u8 0)).tail) = u8s (9 :: List.replicate 31 0) := rfl
@[go_sem] theorem u8lit15 : (Value.int .u8 15 :: (zeros 32 (Value.int .u8 0)).tail) = u8s (15 :: List.replicate 31 0) := rfl
end Go.Proofs.Ytakkicppgkmokaa
end

/- Package curve: the statements' awake, and the walk of CurveClamps. -/
section
set_option linter.unusedSimpArgs false
set_option linter.unusedVariables false
set_option maxRecDepth 4000
namespace Go.Proofs.Ytakkicppgkmokaa
open Go.ChangeShapes Go.WideShapes Go.ChangeAt Go.RowKit
/-! ### plain: a secret's scalar -/
theorem clamp_at (l : List UInt8) (hl : l.length = 32) : (clampL l).getD 0 0 = l.getD 0 0 &&& 248 ∧ (clampL l).getD 31 0 = (l.getD 31 0 &&& 127) ||| 64 := by
  simp [clampL, List.getD_eq_getElem?_getD, hl]
theorem clamp_clamp (l : List UInt8) (hl : l.length = 32) : clampL (clampL l) = clampL l := by
  have h1 : ∀ b : UInt8, (b &&& 248) &&& 248 = b &&& 248 := all_u8 (by decide +kernel)
  have h2 : ∀ b : UInt8, (((b &&& 127) ||| 64) &&& 127) ||| 64 = (b &&& 127) ||| 64 := all_u8 (by decide +kernel)
  obtain ⟨e1, e2⟩ := clamp_at l hl
  rw [show clampL (clampL l) = ((clampL l).set 0 ((clampL l).getD 0 0 &&& 248)).set 31 (((clampL l).getD 31 0 &&& 127) ||| 64) from rfl, e1, e2, h1, h2]
  unfold clampL
  apply List.ext_getElem (by simp)
  intro i h3 h4
  simp only [List.getElem_set]
  split
  · rfl
  · split
    · simp
    · simp [*]
theorem clamp_low (l : List UInt8) (hl : l.length = 32) (h : 0 < (clampL l).length) : bits .and .u8 ((clampL l)[0].toNat : Int) 7 = 0 := by
  have h1 : ∀ b : UInt8, (b &&& 248) &&& 7 = 0 := all_u8 (by decide +kernel)
  have e := (clamp_at l hl).1
  rw [List.getD_eq_getElem?_getD, List.getElem?_eq_getElem h, Option.getD_some] at e
  have := and_u8 ((clampL l)[0]) 7
  rw [show ((7 : UInt8).toNat : Int) = 7 from rfl] at this
  rw [this, e, h1]
  rfl
theorem clamp_high (l : List UInt8) (hl : l.length = 32) (h : 31 < (clampL l).length) : ((clampL l)[31].toNat : Int) / 64 = 1 := by
  have h1 : ∀ b : UInt8, (((b &&& 127) ||| 64).toNat : Int) / 64 = 1 := all_u8 (by decide +kernel)
  have e := (clamp_at l hl).2
  rw [List.getD_eq_getElem?_getD, List.getElem?_eq_getElem h, Option.getD_some] at e
  rw [e, h1]
/-- the highest bit of a public key is not looked at -/
theorem of_top (l : List UInt8) (hl : l.length = 32) : ofL (l.set 31 (l.getD 31 0 ^^^ 128)) = ofL l := by
  have h1 : ∀ b : UInt8, ((b ^^^ 128).toNat : Int) % 128 = (b.toNat : Int) % 128 := all_u8 (by decide +kernel)
  obtain ⟨v, hv⟩ : ∃ v, l.set 31 (l.getD 31 0 ^^^ 128) = v := ⟨_, rfl⟩
  rw [hv]
  have g1 : ∀ i, i ≠ 31 → v.getD i 0 = l.getD i 0 := by
    intro i hi
    rw [← hv, List.getD_eq_getElem?_getD, List.getElem?_set_ne (Ne.symm hi), List.getD_eq_getElem?_getD]
  have g2 : v.getD 31 0 = l.getD 31 0 ^^^ 128 := by
    rw [← hv]
    simp [List.getD_eq_getElem?_getD, hl]
  have e1 : upTo (ofF v) 15 (List.replicate 16 0) = upTo (ofF l) 15 (List.replicate 16 0) := upTo_congr (n := 15) (fun k x hk => by
    unfold ofF byteAt
    rw [g1 _ (by omega), g1 _ (by omega)]) _ 15 (by omega)
  have hu : ∀ m, ofL m = (ofF m 15 (upTo (ofF m) 15 (List.replicate 16 0))).set 15 ((ofF m 15 (upTo (ofF m) 15 (List.replicate 16 0))).getD 15 0 % 32768) := fun _ => rfl
  obtain ⟨Y, hY⟩ : ∃ Y, upTo (ofF l) 15 (List.replicate 16 0) = Y := ⟨_, rfl⟩
  have hYl : Y.length = 16 := by rw [← hY, upTo_length (ofF_length l)]; simp
  rw [hu v, hu l, e1, hY]
  unfold ofF byteAt
  rw [g1 30 (by omega), g2]
  have h2 := h1 (l.getD 31 0)
  have e3 : ∀ x : Int, (Y.set 15 x).getD 15 0 = x := fun x => by simp [List.getD_eq_getElem?_getD, hYl]
  simp only [Nat.reduceMul, Nat.reduceAdd, e3, List.set_set]
  have h4 : ∀ x p q : Int, p % 128 = q % 128 → (x + p * 256) % 32768 = (x + q * 256) % 32768 := by intro x p q h; omega
  rw [h4 _ _ _ h2]
theorem clampL_lt (a : List UInt8) (ha : a.length = 32) : 31 < (clampL a).length := by rw [clampL_length]; omega
theorem open_key {W : World} {base : Nat} {v : Value} (h : Value.okWide Try.prog W .any base 23 v) : ∃ l : List UInt8, v = .agg (u8s l).toArray ∧ l.length = 32 := by
  obtain ⟨vs, hv, hg⟩ := open_plain (ls := leaves 32 (.int .u8) ++ []) Try.underlying23 (by kernel_rfl) (by kernel_rfl) (by kernel_rfl) h
  obtain ⟨m, r, e, hr⟩ := goods_u8 hg
  have := goods_nil hr
  subst this
  exact ⟨m.toList, by rw [hv, e, List.append_nil]; rfl, by simp⟩
end Go.Proofs.Ytakkicppgkmokaa
end
