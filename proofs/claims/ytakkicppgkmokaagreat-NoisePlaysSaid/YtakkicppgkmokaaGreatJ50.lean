/- Texts of this proof, merged: PolV, PolW. -/
import Derived.Test.YtakkicppgkmokaaGreatRfSJ
import Derived.Test.YtakkicppgkmokaaGreatJ16
set_option linter.unusedSimpArgs false
set_option linter.unusedVariables false
namespace Go.Proofs.YtakkicppgkmokaaGreat
section
open Go.RowKit
def Num.v (x : Num) : Nat := x.a + 18446744073709551616 * x.b + 340282366920938463463374607431768211456 * x.c
theorem Num.plus_v (x y : Num) (h : x.v + y.v < 6277101735386680763835789423207666416102355444464034512896) : (x.plus y).v = x.v + y.v := by
 unfold Num.v Num.plus at *
 simp only
 omega
def v4 (t : List Nat) : Nat := t.getD 0 0 + 18446744073709551616 * t.getD 1 0 + 340282366920938463463374607431768211456 * t.getD 2 0 + 6277101735386680763835789423207666416102355444464034512896 * t.getD 3 0
theorem list4 (t : List Nat) (h : t.length = 4) : ∃ a b c d, t = [a, b, c, d] := by
 match t, h with
 | [a, b, c, d], _ => exact ⟨a, b, c, d, rfl⟩
theorem addL_v (t : List Nat) (at_ x y : Nat) (ht : t.length = 4) (ha : all64 t) (hat : at_ < 4) (hx : lt64 x) (hy : lt64 y)
  (h : v4 t + 18446744073709551616 ^ at_ * (x * y) < 115792089237316195423570985008687907853269984665640564039457584007913129639936) : v4 (addL t at_ x y) = v4 t + 18446744073709551616 ^ at_ * (x * y) := by
 obtain ⟨a, b, c, d, rfl⟩ := list4 t ht
 have h0 : a < 18446744073709551616 := ha 0
 have h1 : b < 18446744073709551616 := ha 1
 have h2 : c < 18446744073709551616 := ha 2
 have h3 : d < 18446744073709551616 := ha 3
 have hh : x * y / 18446744073709551616 < 18446744073709551616 := hi64 x y hx hy
 unfold addL adBegin
 generalize x * y = p at *
 have hat4 : at_ = 0 ∨ at_ = 1 ∨ at_ = 2 ∨ at_ = 3 := by omega
 rcases hat4 with rfl | rfl | rfl | rfl
 ·
  simp only [upTo, AdS.step, v4, Nat.sub_zero, List.set_cons_zero, List.set_cons_succ, List.getD_cons_zero, List.getD_cons_succ, Nat.zero_add, Nat.reduceAdd, Nat.reducePow, Nat.one_mul, Nat.add_zero] at h ⊢
  omega
 ·
  simp only [upTo, AdS.step, v4, Nat.reduceSub, List.set_cons_zero, List.set_cons_succ, List.getD_cons_zero, List.getD_cons_succ, Nat.zero_add, Nat.reduceAdd, Nat.reducePow, Nat.one_mul, Nat.add_zero] at h ⊢
  omega
 ·
  simp only [upTo, AdS.step, v4, Nat.reduceSub, List.set_cons_zero, List.set_cons_succ, List.getD_cons_zero, List.getD_cons_succ, Nat.zero_add, Nat.reduceAdd, Nat.reducePow, Nat.one_mul, Nat.add_zero] at h ⊢
  omega
 ·
  simp only [upTo, AdS.step, v4, Nat.reduceSub, List.set_cons_zero, List.set_cons_succ, List.getD_cons_zero, List.getD_cons_succ, Nat.zero_add, Nat.reduceAdd, Nat.reducePow, Nat.one_mul, Nat.add_zero] at h ⊢
  omega
theorem prodT_v (x : Num) (r0 r1 : Nat) (hx : x.lt) (h0 : lt64 r0) (h1 : lt64 r1)
  (h : x.v * (r0 + 18446744073709551616 * r1) < 115792089237316195423570985008687907853269984665640564039457584007913129639936) :
  ok4 (prodT x.list [r0, r1]) ∧ v4 (prodT x.list [r0, r1]) = x.v * (r0 + 18446744073709551616 * r1) := by
 obtain ⟨a, b, c⟩ := x
 obtain ⟨ha, hb, hc⟩ := hx
 have e : (Num.mk a b c).v * (r0 + 18446744073709551616 * r1) = a * r0 + 18446744073709551616 * (a * r1) + 18446744073709551616 * (b * r0) + 340282366920938463463374607431768211456 * (b * r1) + 340282366920938463463374607431768211456 * (c * r0) + 6277101735386680763835789423207666416102355444464034512896 * (c * r1) := by
  unfold Num.v
  simp only
  rw [Nat.mul_add, Nat.add_mul, Nat.add_mul, Nat.mul_left_comm _ 18446744073709551616 r1, Nat.add_mul, Nat.add_mul]
  rw [Nat.mul_assoc, Nat.mul_assoc, Nat.mul_assoc, Nat.mul_assoc]
  omega
 rw [e] at h ⊢
 have hl : all64 (Num.mk a b c).list := all64_list (by intro n hn; simp [Num.list] at hn; rcases hn with rfl | rfl | rfl; exact ha; exact hb; exact hc)
 have hr : all64 [r0, r1] := all64_list (by intro n hn; simp at hn; rcases hn with rfl | rfl; exact h0; exact h1)
 refine ⟨rowUp_ok _ _ hl hr 3, ?_⟩
 have z0 : ok4 [0, 0, 0, 0] := ⟨rfl, all64_list (l := [0, 0, 0, 0]) (by simp [lt64])⟩
 have zv : v4 [0, 0, 0, 0] = 0 := rfl
 have s1 := addL_ok _ 0 a r0 z0.1 z0.2 ha h0
 have e1 := addL_v [0, 0, 0, 0] 0 a r0 z0.1 z0.2 (by decide) ha h0 (by rw [zv]; omega)
 have s2 := addL_ok _ 1 a r1 s1.1 s1.2 ha h1
 have e2 := addL_v _ 1 a r1 s1.1 s1.2 (by decide) ha h1 (by rw [e1, zv]; omega)
 have s3 := addL_ok _ 1 b r0 s2.1 s2.2 hb h0
 have e3 := addL_v _ 1 b r0 s2.1 s2.2 (by decide) hb h0 (by rw [e2, e1, zv]; omega)
 have s4 := addL_ok _ 2 b r1 s3.1 s3.2 hb h1
 have e4 := addL_v _ 2 b r1 s3.1 s3.2 (by decide) hb h1 (by rw [e3, e2, e1, zv]; omega)
 have s5 := addL_ok _ 2 c r0 s4.1 s4.2 hc h0
 have e5 := addL_v _ 2 c r0 s4.1 s4.2 (by decide) hc h0 (by rw [e4, e3, e2, e1, zv]; omega)
 have s6 := addL_ok _ 3 c r1 s5.1 s5.2 hc h1
 have e6 := addL_v _ 3 c r1 s5.1 s5.2 (by decide) hc h1 (by rw [e5, e4, e3, e2, e1, zv]; omega)
 have hp : prodT (Num.mk a b c).list [r0, r1] = addL (addL (addL (addL (addL (addL [0, 0, 0, 0] 0 a r0) 1 a r1) 1 b r0) 2 b r1) 2 c r0) 3 c r1 := by
  rw [prodT, upTo, upTo, upTo, upTo, rowP, rowP, rowP, upTo, upTo, upTo, upTo, upTo, upTo, upTo, upTo, upTo]
  rfl
 rw [hp, e6, e5, e4, e3, e2, e1, zv]
 omega
theorem low_high (t : List Nat) (h : ok4 t) : (lowT t).v = v4 t % 1361129467683753853853498429727072845824 ∧ (highT t).v = v4 t / 1361129467683753853853498429727072845824 := by
 have h0 : t.getD 0 0 < 18446744073709551616 := h.2 0
 have h1 : t.getD 1 0 < 18446744073709551616 := h.2 1
 have h2 : t.getD 2 0 < 18446744073709551616 := h.2 2
 have h3 : t.getD 3 0 < 18446744073709551616 := h.2 3
 unfold lowT highT Num.v v4
 simp only
 omega
theorem sumT_v (t : List Nat) (h : ok4 t) : (sumT t).v = v4 t % 1361129467683753853853498429727072845824 + 5 * (v4 t / 1361129467683753853853498429727072845824) := by
 obtain ⟨hl, hh⟩ := low_high t h
 have hv : v4 t < 115792089237316195423570985008687907853269984665640564039457584007913129639936 := by
  have h0 : t.getD 0 0 < 18446744073709551616 := h.2 0
  have h1 : t.getD 1 0 < 18446744073709551616 := h.2 1
  have h2 : t.getD 2 0 < 18446744073709551616 := h.2 2
  have h3 : t.getD 3 0 < 18446744073709551616 := h.2 3
  unfold v4
  omega
 have key : ∀ k, k ≤ 5 → (upTo (fun _ o => Num.plus o (highT t)) k (lowT t)).v = (lowT t).v + k * (highT t).v := by
  intro k hk
  induction k with
  | zero => rw [upTo]; omega
  | succ k ih =>
   have i1 := ih (by omega)
   have hkm : k * (highT t).v ≤ 5 * (highT t).v := Nat.mul_le_mul_right _ (by omega)
   rw [upTo, Num.plus_v _ _ (by rw [i1]; omega), i1, Nat.add_mul]
   omega
 rw [sumT, key 5 (Nat.le_refl _), hl, hh]
theorem fold_v (x : Num) (h : x.lt) : x.fold.v = fold130 x.v := by
 have h1 : x.low.v = x.v % 1361129467683753853853498429727072845824 := by
  obtain ⟨ha, hb, hc⟩ := h
  unfold lt64 at *
  unfold Num.low Num.v
  simp only
  omega
 have h2 : x.hi5.v = 5 * (x.v / 1361129467683753853853498429727072845824) := by
  obtain ⟨ha, hb, hc⟩ := h
  unfold lt64 at *
  unfold Num.hi5 Num.v
  simp only
  omega
 have h3 : x.v < 6277101735386680763835789423207666416102355444464034512896 := by
  obtain ⟨ha, hb, hc⟩ := h
  unfold lt64 at *
  unfold Num.v
  omega
 rw [Num.fold, Num.plus_v _ _ (by omega), h1, h2, fold130]
theorem less5_v (x : Num) (h : x.lt) (hb : x.v < 1361129467683753853853498429727072845824) : x.less5.v = x.v % 1361129467683753853853498429727072845819 := by
 have h5 : n5.v = 5 := rfl
 have hp : (x.plus n5).v = x.v + 5 := by rw [Num.plus_v _ _ (by omega), h5]
 have hl := Num.plus_lt x n5
 unfold Num.less5
 obtain ⟨ha, hb2, hc⟩ := hl
 unfold lt64 at ha hb2 hc
 generalize x.plus n5 = y at *
 have hy : y.v = y.a + 18446744073709551616 * y.b + 340282366920938463463374607431768211456 * y.c := rfl
 split
 ·
  show y.a + 18446744073709551616 * y.b + 340282366920938463463374607431768211456 * (y.c - 4) = _
  omega
 ·
  omega
theorem rest_v (x : Num) (h : x.lt) (hb : x.v < 256 ^ 20) : x.rest.v = x.v % 1361129467683753853853498429727072845819 := by
 have f1 := fold_v x h
 have f2 := fold_v x.fold (Num.fold_lt x)
 have b1 : fold130 x.v < 1361129467683753853853498429727072845824 + 10737418240 := by unfold fold130; omega
 have b2 : fold130 (fold130 x.v) < 1361129467683753853853498429727072845824 := by
  generalize fold130 x.v = y at *
  unfold fold130
  omega
 have m1 : ∀ y, fold130 y % 1361129467683753853853498429727072845819 = y % 1361129467683753853853498429727072845819 := by
  intro y
  unfold fold130
  omega
 rw [Num.rest, less5_v _ (Num.fold_lt _) (by rw [f2, f1]; exact b2), f2, f1, m1, m1]
theorem times_v (x : Num) (r0 r1 : Nat) (hx : x.lt) (h0 : lt64 r0) (h1 : lt64 r1) (hxv : x.v < 2722258935367507707706996859454145691648) (hr : r0 + 18446744073709551616 * r1 < 21267647932558653966460912964485513216) :
  (x.times r0 r1).rest.v = x.v * (r0 + 18446744073709551616 * r1) % 1361129467683753853853498429727072845819 := by
 have hb : x.v * (r0 + 18446744073709551616 * r1) < 2722258935367507707706996859454145691648 * 21267647932558653966460912964485513216 := Nat.mul_lt_mul'' hxv hr
 obtain ⟨hp, hv⟩ := prodT_v x r0 r1 hx h0 h1 (Nat.lt_trans hb (by decide))
 have hs := sumT_v _ hp
 rw [hv] at hs
 have hl := Num.times_lt x r0 r1 hx h0 h1
 have e : (x.times r0 r1).v = (sumT (prodT x.list [r0, r1])).v := rfl
 rw [hs] at e
 generalize x.v * (r0 + 18446744073709551616 * r1) = z at *
 rw [rest_v _ hl (by rw [e]; omega), e]
 omega
end
section
open Go.RowKit
theorem leN_val (l : List UInt8) : leN l = valB (ints8 l) := by
 induction l with
 | nil => rfl
 | cons b l ih =>
  show b.toNat + 256 * leN l = b.toNat + 256 * valB (ints8 l)
  rw [ih]
theorem ints8_take (l : List UInt8) (n : Nat) : ints8 (l.take n) = (ints8 l).take n := by simp [ints8, List.map_take]
theorem ints8_drop (l : List UInt8) (n : Nat) : ints8 (l.drop n) = (ints8 l).drop n := by simp [ints8, List.map_drop]
theorem valB_parts' (l : List Nat) (n : Nat) : valB l = valB (l.take n) + 256 ^ n * valB (l.drop n) := by
 rcases Nat.le_total n l.length with h | h
 ·
  exact valB_parts l n h
 ·
  rw [List.take_of_length_le h, List.drop_eq_nil_of_le h]
  simp [valB]
theorem part8_val (t : List UInt8) (j : Nat) : part8 t j = valB (((ints8 t).drop (8 * j)).take 8) := by
 rw [part8, leN_val, ints8_take, ints8_drop]
theorem ofN_v (s : List UInt8) (hs : s.length ≤ 16) : (ofN s).v = valB (ints8 s ++ [1]) := by
 have e : ints8 s ++ [1] = ints8 (s ++ [1]) := by rw [ints8_append]; rfl
 have hl : (ints8 (s ++ [1])).length ≤ 24 := by rw [ints8_length]; simp; omega
 have h0 : part8 (s ++ [1]) 0 = valB ((ints8 (s ++ [1])).take 8) := by rw [part8_val]; rfl
 have h1 := part8_val (s ++ [1]) 1
 have h2 := part8_val (s ++ [1]) 2
 rw [e]
 show part8 (s ++ [1]) 0 + 18446744073709551616 * part8 (s ++ [1]) 1 + 340282366920938463463374607431768211456 * part8 (s ++ [1]) 2 = _
 rw [h0, h1, h2, valB_parts' (ints8 (s ++ [1])) 8, valB_parts' ((ints8 (s ++ [1])).drop 8) 8, List.drop_drop]
 rw [show 8 * 1 = 8 from rfl, show 8 * 2 = 16 from rfl, show 8 + 8 = 16 from rfl, List.take_of_length_le (l := (ints8 (s ++ [1])).drop 16) (by rw [List.length_drop]; omega)]
 omega
def pcB (i : Nat) (b : UInt8) : UInt8 := if i % 4 = 3 then b &&& 15 else if i % 4 = 0 ∧ 0 < i then b &&& 252 else b
theorem and15_nat (b : UInt8) : (b &&& 15).toNat = b.toNat % 16 := by
 refine all_u8 (p := fun b => (b &&& 15).toNat = b.toNat % 16) (by decide +kernel) b
theorem and252_nat (b : UInt8) : (b &&& 252).toNat = b.toNat / 4 * 4 := by
 refine all_u8 (p := fun b => (b &&& 252).toNat = b.toNat / 4 * 4) (by decide +kernel) b
theorem getD_set8 (l : List UInt8) (i j : Nat) (v : UInt8) (h : i < l.length) : (l.set i v).getD j 0 = if i = j then v else l.getD j 0 := by
 by_cases hij : i = j
 ·
  subst hij
  simp [List.getD_eq_getElem?_getD, h]
 ·
  simp [List.getD_eq_getElem?_getD, hij]
theorem pclF_set (i : Nat) (l : List UInt8) (h : i < l.length) : pclF i l = l.set i (pcB i (l.getD i 0)) := by
 unfold pclF pcB
 split
 ·
  rfl
 ·
  split
  ·
   rfl
  ·
   rw [getD_elem8 _ _ h, List.set_getElem_self]
theorem pcl_get (n : Nat) (l : List UInt8) (i : Nat) (hn : n ≤ l.length) : (upTo pclF n l).getD i 0 = if i < n then pcB i (l.getD i 0) else l.getD i 0 := by
 induction n with
 | zero => rw [upTo]; rfl
 | succ n ih =>
  have hl : (upTo pclF n l).length = l.length := upTo_len8 pclF_length n l
  have i1 := ih (by omega)
  have i2 : (upTo pclF n l).getD n 0 = l.getD n 0 := by
   have : ∀ m, m ≤ n → (upTo pclF m l).getD n 0 = l.getD n 0 := by
    intro m
    induction m with
    | zero => intro _; rw [upTo]
    | succ m ihm =>
     intro hm
     have hlm : (upTo pclF m l).length = l.length := upTo_len8 pclF_length m l
     rw [upTo, pclF_set _ _ (by omega), getD_set8 _ _ _ _ (by omega), if_neg (by omega)]
     exact ihm (by omega)
   exact this n (Nat.le_refl _)
  rw [upTo, pclF_set _ _ (by omega), getD_set8 _ _ _ _ (by omega), i2, i1]
  by_cases h : n = i
  ·
   subst h
   rw [if_pos rfl, if_pos (by omega)]
  ·
   rw [if_neg h]
   by_cases h2 : i < n
   ·
    rw [if_pos h2, if_pos (by omega)]
   ·
    rw [if_neg h2, if_neg (by omega)]
theorem pcB_nat (k : List UInt8) (i : Nat) : (pcB i (k.getD i 0)).toNat = clampD k i := by
 unfold pcB clampD
 split
 ·
  exact and15_nat _
 ·
  split
  ·
   exact and252_nat _
  ·
   rfl
theorem pcl_clamp (k : List UInt8) (hk : k.length = 32) : ints8 ((pclL k).take 16) = clampN k 16 := by
 have hl := pclL_length k
 refine List.ext_getElem (by rw [ints8_length, clampN_length, List.length_take]; omega) fun i h1 h2 => ?_
 rw [clampN_length] at h2
 have h3 : i < (pclL k).length := by omega
 rw [ints8_get _ _ (by rw [List.length_take]; omega), List.getElem_take, ← getD_elem8 _ _ h3, pclL, pcl_get 16 k i (by omega), if_pos h2, pcB_nat]
 simp [clampN]
theorem pr_val (k : List UInt8) (hk : k.length = 32) : pr0 k + 18446744073709551616 * pr1 k = valB (clampN k 16) := by
 have hl := pclL_length k
 rw [← pcl_clamp k hk, pr0, pr1, leN_val, leN_val, ints8_take, ints8_take, ints8_take, ints8_drop, valB_parts' ((ints8 (pclL k)).take 16) 8, List.take_take, List.drop_take]
 rw [show min 8 16 = 8 from rfl, show 16 - 8 = 8 from rfl]
 all_goals omega
theorem clamp_b (k : List UInt8) : valB (clampN k 16) < 21267647932558653966460912964485513216 := by
 rw [clampN_succ, valB_snoc, clampN_length]
 have h1 := valB_lt (clampN k 15) (clampN_dig k 15)
 rw [clampN_length] at h1
 have h2 : clampD k 15 < 16 := by
  rw [clampD, if_pos (by decide)]
  omega
 omega
theorem psF_v (k s : List UInt8) (j : Nat) (a : Num) (hk : k.length = 32) (ha : a.lt) (hb : a.v < 1361129467683753853853498429727072845819) :
  (psF k s j a).v = psV k s j a.v := by
 have ho : (ofN (pblk s j)).v = valB (ints8 ((s.drop (16 * j)).take 16) ++ [1]) := ofN_v (pblk s j) (by rw [pblk, List.length_take]; omega)
 have hob : valB (ints8 ((s.drop (16 * j)).take 16) ++ [1]) < 256 ^ 17 := by
  refine Nat.lt_of_lt_of_le (valB_lt _ ((ints8_dig _).snoc (by decide))) (Nat.pow_le_pow_right (by decide) ?_)
  simp [ints8_length]
  omega
 have hob2 : valB (ints8 ((s.drop (16 * j)).take 16) ++ [1]) < 1020847100762815390390123822295304634368 := by
  rw [valB_snoc]
  have h1 := valB_lt (ints8 ((s.drop (16 * j)).take 16)) (ints8_dig _)
  have h2 : 256 ^ (ints8 ((s.drop (16 * j)).take 16)).length ≤ 256 ^ 16 := Nat.pow_le_pow_right (by decide) (by rw [ints8_length, List.length_take]; omega)
  omega
 have hp : (a.plus (ofN (pblk s j))).v = a.v + valB (ints8 ((s.drop (16 * j)).take 16) ++ [1]) := by rw [Num.plus_v _ _ (by rw [ho]; omega), ho]
 have h0 : lt64 (pr0 k) := leN_lt64 _ (by simp; omega)
 have h1 : lt64 (pr1 k) := leN_lt64 _ (by simp; omega)
 rw [psF, times_v _ _ _ (Num.plus_lt _ _) h0 h1 (by rw [hp]; omega) (by rw [pr_val k hk]; exact clamp_b k), hp, pr_val k hk, psV]
theorem psUp_v (k s : List UInt8) (hk : k.length = 32) (m : Nat) : (upTo (psF k s) m ⟨0, 0, 0⟩).v = upTo (psV k s) m 0 ∧ upTo (psV k s) m 0 < 1361129467683753853853498429727072845819 := by
 induction m with
 | zero => rw [upTo, upTo]; exact ⟨rfl, by decide⟩
 | succ m ih =>
  rw [upTo, upTo, psF_v k s m _ hk (psUp_lt k s m) (by rw [ih.1]; exact ih.2), ih.1]
  refine ⟨rfl, ?_⟩
  rw [psV]
  exact Nat.mod_lt _ (by decide)
theorem polyN_v (k s : List UInt8) (hk : k.length = 32) : (polyN k s).v = sumV k s := by
 obtain ⟨h1, h2⟩ := psUp_v k s hk ((s.length + 15) / 16)
 have h3 : (pend k).v = valB (ints8 (k.drop 16)) := by
  show leN ((k.drop 16).take 8) + 18446744073709551616 * leN (k.drop 24) + 340282366920938463463374607431768211456 * 0 = _
  rw [leN_val, leN_val, ints8_take, valB_parts' (ints8 (k.drop 16)) 8, ints8_drop, ints8_drop, List.drop_drop, show 16 + 8 = 24 from rfl]
  omega
 have h4 : valB (ints8 (k.drop 16)) < 256 ^ 16 := by
  refine Nat.lt_of_lt_of_le (valB_lt _ (ints8_dig _)) (Nat.pow_le_pow_right (by decide) ?_)
  rw [ints8_length, List.length_drop]
  omega
 rw [polyN, Num.plus_v _ _ (by rw [h1, h3]; omega), h1, h3, sumV]
theorem pout_byte (x : Num) (hx : x.lt) (i : Nat) (hi : i < 16) : byteI ((x.list.getD (i / 8) 0 : Nat) / 2 ^ (8 * (i % 8))) = UInt8.ofNat (x.v / 256 ^ i % 256) := by
 obtain ⟨a, b, c⟩ := x
 obtain ⟨ha, hb, hc⟩ := hx
 replace ha : a < 18446744073709551616 := ha
 replace hb : b < 18446744073709551616 := hb
 have key : ∀ (n : Nat) (p : Nat), byteI ((n : Int) / 2 ^ p) = UInt8.ofNat (n / 2 ^ p % 256) := by
  intro n p
  rw [byteI]
  congr 1
 rw [key]
 congr 1
 have h16 : i = 0 ∨ i = 1 ∨ i = 2 ∨ i = 3 ∨ i = 4 ∨ i = 5 ∨ i = 6 ∨ i = 7 ∨ i = 8 ∨ i = 9 ∨ i = 10 ∨ i = 11 ∨ i = 12 ∨ i = 13 ∨ i = 14 ∨ i = 15 := by omega
 rcases h16 with rfl | rfl | rfl | rfl | rfl | rfl | rfl | rfl | rfl | rfl | rfl | rfl | rfl | rfl | rfl | rfl <;> simp [Num.list, Num.v] <;> omega
theorem poly_sum (k s : List UInt8) (hk : k.length = 32) : polyL k s = sumL k s := by
 have hpl : (polyN k s).lt := Num.plus_lt _ _
 have key : ∀ n, n ≤ 16 → upTo (poutF (polyN k s).list) n (List.replicate 16 0) = upTo (sumF k s) n (List.replicate 16 0) := by
  intro n hn
  induction n with
  | zero => rw [upTo, upTo]
  | succ n ih => rw [upTo, upTo, ih (by omega), poutF, sumF, pout_byte _ hpl n (by omega), polyN_v k s hk]
 rw [polyL, sumL, key 16 (Nat.le_refl _)]
end
end Go.Proofs.YtakkicppgkmokaaGreat
