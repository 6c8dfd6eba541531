/- What the sum of a text is as a number. No program in sight. -/
import Derived.Test.YtjeclimoknilcaaRfS
import Derived.Test.YtjeclimoknilcaaPolS
set_option linter.unusedSimpArgs false
set_option linter.unusedVariables false
namespace Go.Proofs.Ytjeclimoknilcaa
open Go.RowKit
def Num.v (x : Num) : Nat := x.a + 18446744073709551616 * x.b + 340282366920938463463374607431768211456 * x.c
theorem Num.plus_v (x y : Num) (h : x.v + y.v < 6277101735386680763835789423207666416102355444464034512896) : (x.plus y).v = x.v + y.v := by
  unfold Num.v Num.plus at *
  simp only
  omega
def v4 (t : List Nat) : Nat := t.getD 0 0 + 18446744073709551616 * t.getD 1 0 + 340282366920938463463374607431768211456 * t.getD 2 0 + 6277101735386680763835789423207666416102355444464034512896 * t.getD 3 0
theorem list4 (t : List Nat) (h : t.length = 4) : ∃ a b c d, t = [a, b, c, d] := by
  match t, h with
  | [a, b, c, d], _ => exact ⟨a, b, c, d, rfl⟩
theorem addL_v (t : List Nat) (at_ x y : Nat) (ht : t.length = 4) (ha : all64 t) (hat : at_ < 4) (hx : lt64 x) (hy : lt64 y)
    (h : v4 t + 18446744073709551616 ^ at_ * (x * y) < 115792089237316195423570985008687907853269984665640564039457584007913129639936) : v4 (addL t at_ x y) = v4 t + 18446744073709551616 ^ at_ * (x * y) := by
  obtain ⟨a, b, c, d, rfl⟩ := list4 t ht
  have h0 : a < 18446744073709551616 := ha 0
  have h1 : b < 18446744073709551616 := ha 1
  have h2 : c < 18446744073709551616 := ha 2
  have h3 : d < 18446744073709551616 := ha 3
  have hh : x * y / 18446744073709551616 < 18446744073709551616 := hi64 x y hx hy
  unfold addL adBegin
  generalize x * y = p at *
  have hat4 : at_ = 0 ∨ at_ = 1 ∨ at_ = 2 ∨ at_ = 3 := by omega
  rcases hat4 with rfl | rfl | rfl | rfl
  · simp only [upTo, AdS.step, v4, Nat.sub_zero, List.set_cons_zero, List.set_cons_succ, List.getD_cons_zero, List.getD_cons_succ, Nat.zero_add, Nat.reduceAdd, Nat.reducePow, Nat.one_mul, Nat.add_zero] at h ⊢
    omega
  · simp only [upTo, AdS.step, v4, Nat.reduceSub, List.set_cons_zero, List.set_cons_succ, List.getD_cons_zero, List.getD_cons_succ, Nat.zero_add, Nat.reduceAdd, Nat.reducePow, Nat.one_mul, Nat.add_zero] at h ⊢
    omega
  · simp only [upTo, AdS.step, v4, Nat.reduceSub, List.set_cons_zero, List.set_cons_succ, List.getD_cons_zero, List.getD_cons_succ, Nat.zero_add, Nat.reduceAdd, Nat.reducePow, Nat.one_mul, Nat.add_zero] at h ⊢
    omega
  · simp only [upTo, AdS.step, v4, Nat.reduceSub, List.set_cons_zero, List.set_cons_succ, List.getD_cons_zero, List.getD_cons_succ, Nat.zero_add, Nat.reduceAdd, Nat.reducePow, Nat.one_mul, Nat.add_zero] at h ⊢
    omega
theorem prodT_v (x : Num) (r0 r1 : Nat) (hx : x.lt) (h0 : lt64 r0) (h1 : lt64 r1)
    (h : x.v * (r0 + 18446744073709551616 * r1) < 115792089237316195423570985008687907853269984665640564039457584007913129639936) :
    ok4 (prodT x.list [r0, r1]) ∧ v4 (prodT x.list [r0, r1]) = x.v * (r0 + 18446744073709551616 * r1) := by
  obtain ⟨a, b, c⟩ := x
  obtain ⟨ha, hb, hc⟩ := hx
  have e : (Num.mk a b c).v * (r0 + 18446744073709551616 * r1) = a * r0 + 18446744073709551616 * (a * r1) + 18446744073709551616 * (b * r0) + 340282366920938463463374607431768211456 * (b * r1) + 340282366920938463463374607431768211456 * (c * r0) + 6277101735386680763835789423207666416102355444464034512896 * (c * r1) := by
    unfold Num.v
    simp only
    rw [Nat.mul_add, Nat.add_mul, Nat.add_mul, Nat.mul_left_comm _ 18446744073709551616 r1, Nat.add_mul, Nat.add_mul]
    rw [Nat.mul_assoc, Nat.mul_assoc, Nat.mul_assoc, Nat.mul_assoc]
    omega
  rw [e] at h ⊢
  have hl : all64 (Num.mk a b c).list := all64_list (by intro n hn; simp [Num.list] at hn; rcases hn with rfl | rfl | rfl; exact ha; exact hb; exact hc)
  have hr : all64 [r0, r1] := all64_list (by intro n hn; simp at hn; rcases hn with rfl | rfl; exact h0; exact h1)
  refine ⟨rowUp_ok _ _ hl hr 3, ?_⟩
  have z0 : ok4 [0, 0, 0, 0] := ⟨rfl, all64_list (l := [0, 0, 0, 0]) (by simp [lt64])⟩
  have zv : v4 [0, 0, 0, 0] = 0 := rfl
  have s1 := addL_ok _ 0 a r0 z0.1 z0.2 ha h0
  have e1 := addL_v [0, 0, 0, 0] 0 a r0 z0.1 z0.2 (by decide) ha h0 (by rw [zv]; omega)
  have s2 := addL_ok _ 1 a r1 s1.1 s1.2 ha h1
  have e2 := addL_v _ 1 a r1 s1.1 s1.2 (by decide) ha h1 (by rw [e1, zv]; omega)
  have s3 := addL_ok _ 1 b r0 s2.1 s2.2 hb h0
  have e3 := addL_v _ 1 b r0 s2.1 s2.2 (by decide) hb h0 (by rw [e2, e1, zv]; omega)
  have s4 := addL_ok _ 2 b r1 s3.1 s3.2 hb h1
  have e4 := addL_v _ 2 b r1 s3.1 s3.2 (by decide) hb h1 (by rw [e3, e2, e1, zv]; omega)
  have s5 := addL_ok _ 2 c r0 s4.1 s4.2 hc h0
  have e5 := addL_v _ 2 c r0 s4.1 s4.2 (by decide) hc h0 (by rw [e4, e3, e2, e1, zv]; omega)
  have s6 := addL_ok _ 3 c r1 s5.1 s5.2 hc h1
  have e6 := addL_v _ 3 c r1 s5.1 s5.2 (by decide) hc h1 (by rw [e5, e4, e3, e2, e1, zv]; omega)
  have hp : prodT (Num.mk a b c).list [r0, r1] = addL (addL (addL (addL (addL (addL [0, 0, 0, 0] 0 a r0) 1 a r1) 1 b r0) 2 b r1) 2 c r0) 3 c r1 := by
    rw [prodT, upTo, upTo, upTo, upTo, rowP, rowP, rowP, upTo, upTo, upTo, upTo, upTo, upTo, upTo, upTo, upTo]
    rfl
  rw [hp, e6, e5, e4, e3, e2, e1, zv]
  omega
theorem low_high (t : List Nat) (h : ok4 t) : (lowT t).v = v4 t % 1361129467683753853853498429727072845824 ∧ (highT t).v = v4 t / 1361129467683753853853498429727072845824 := by
  have h0 : t.getD 0 0 < 18446744073709551616 := h.2 0
  have h1 : t.getD 1 0 < 18446744073709551616 := h.2 1
  have h2 : t.getD 2 0 < 18446744073709551616 := h.2 2
  have h3 : t.getD 3 0 < 18446744073709551616 := h.2 3
  unfold lowT highT Num.v v4
  simp only
  omega
theorem sumT_v (t : List Nat) (h : ok4 t) : (sumT t).v = v4 t % 1361129467683753853853498429727072845824 + 5 * (v4 t / 1361129467683753853853498429727072845824) := by
  obtain ⟨hl, hh⟩ := low_high t h
  have hv : v4 t < 115792089237316195423570985008687907853269984665640564039457584007913129639936 := by
    have h0 : t.getD 0 0 < 18446744073709551616 := h.2 0
    have h1 : t.getD 1 0 < 18446744073709551616 := h.2 1
    have h2 : t.getD 2 0 < 18446744073709551616 := h.2 2
    have h3 : t.getD 3 0 < 18446744073709551616 := h.2 3
    unfold v4
    omega
  have key : ∀ k, k ≤ 5 → (upTo (fun _ o => Num.plus o (highT t)) k (lowT t)).v = (lowT t).v + k * (highT t).v := by
    intro k hk
    induction k with
    | zero => rw [upTo]; omega
    | succ k ih =>
      have i1 := ih (by omega)
      have hkm : k * (highT t).v ≤ 5 * (highT t).v := Nat.mul_le_mul_right _ (by omega)
      rw [upTo, Num.plus_v _ _ (by rw [i1]; omega), i1, Nat.add_mul]
      omega
  rw [sumT, key 5 (Nat.le_refl _), hl, hh]
theorem fold_v (x : Num) (h : x.lt) : x.fold.v = fold130 x.v := by
  have h1 : x.low.v = x.v % 1361129467683753853853498429727072845824 := by
    obtain ⟨ha, hb, hc⟩ := h
    unfold lt64 at *
    unfold Num.low Num.v
    simp only
    omega
  have h2 : x.hi5.v = 5 * (x.v / 1361129467683753853853498429727072845824) := by
    obtain ⟨ha, hb, hc⟩ := h
    unfold lt64 at *
    unfold Num.hi5 Num.v
    simp only
    omega
  have h3 : x.v < 6277101735386680763835789423207666416102355444464034512896 := by
    obtain ⟨ha, hb, hc⟩ := h
    unfold lt64 at *
    unfold Num.v
    omega
  rw [Num.fold, Num.plus_v _ _ (by omega), h1, h2, fold130]
theorem less5_v (x : Num) (h : x.lt) (hb : x.v < 1361129467683753853853498429727072845824) : x.less5.v = x.v % 1361129467683753853853498429727072845819 := by
  have h5 : n5.v = 5 := rfl
  have hp : (x.plus n5).v = x.v + 5 := by rw [Num.plus_v _ _ (by omega), h5]
  have hl := Num.plus_lt x n5
  unfold Num.less5
  obtain ⟨ha, hb2, hc⟩ := hl
  unfold lt64 at ha hb2 hc
  generalize x.plus n5 = y at *
  have hy : y.v = y.a + 18446744073709551616 * y.b + 340282366920938463463374607431768211456 * y.c := rfl
  split
  · show y.a + 18446744073709551616 * y.b + 340282366920938463463374607431768211456 * (y.c - 4) = _
    omega
  · omega
theorem rest_v (x : Num) (h : x.lt) (hb : x.v < 256 ^ 20) : x.rest.v = x.v % 1361129467683753853853498429727072845819 := by
  have f1 := fold_v x h
  have f2 := fold_v x.fold (Num.fold_lt x)
  have b1 : fold130 x.v < 1361129467683753853853498429727072845824 + 10737418240 := by unfold fold130; omega
  have b2 : fold130 (fold130 x.v) < 1361129467683753853853498429727072845824 := by
    generalize fold130 x.v = y at *
    unfold fold130
    omega
  have m1 : ∀ y, fold130 y % 1361129467683753853853498429727072845819 = y % 1361129467683753853853498429727072845819 := by
    intro y
    unfold fold130
    omega
  rw [Num.rest, less5_v _ (Num.fold_lt _) (by rw [f2, f1]; exact b2), f2, f1, m1, m1]
theorem times_v (x : Num) (r0 r1 : Nat) (hx : x.lt) (h0 : lt64 r0) (h1 : lt64 r1) (hxv : x.v < 2722258935367507707706996859454145691648) (hr : r0 + 18446744073709551616 * r1 < 21267647932558653966460912964485513216) :
    (x.times r0 r1).rest.v = x.v * (r0 + 18446744073709551616 * r1) % 1361129467683753853853498429727072845819 := by
  have hb : x.v * (r0 + 18446744073709551616 * r1) < 2722258935367507707706996859454145691648 * 21267647932558653966460912964485513216 := Nat.mul_lt_mul'' hxv hr
  obtain ⟨hp, hv⟩ := prodT_v x r0 r1 hx h0 h1 (Nat.lt_trans hb (by decide))
  have hs := sumT_v _ hp
  rw [hv] at hs
  have hl := Num.times_lt x r0 r1 hx h0 h1
  have e : (x.times r0 r1).v = (sumT (prodT x.list [r0, r1])).v := rfl
  rw [hs] at e
  generalize x.v * (r0 + 18446744073709551616 * r1) = z at *
  rw [rest_v _ hl (by rw [e]; omega), e]
  omega
end Go.Proofs.Ytjeclimoknilcaa
