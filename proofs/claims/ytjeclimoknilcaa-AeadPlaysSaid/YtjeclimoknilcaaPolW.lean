/- The sum of a text: the machine's is the reference's. No program in sight. -/
import Derived.Test.YtjeclimoknilcaaPolV
set_option linter.unusedSimpArgs false
set_option linter.unusedVariables false
namespace Go.Proofs.Ytjeclimoknilcaa
open Go.RowKit
theorem leN_val (l : List UInt8) : leN l = valN (ints8 l) := by
  induction l with
  | nil => rfl
  | cons b l ih =>
    show b.toNat + 256 * leN l = b.toNat + 256 * valN (ints8 l)
    rw [ih]
theorem ints8_take (l : List UInt8) (n : Nat) : ints8 (l.take n) = (ints8 l).take n := by simp [ints8, List.map_take]
theorem ints8_drop (l : List UInt8) (n : Nat) : ints8 (l.drop n) = (ints8 l).drop n := by simp [ints8, List.map_drop]
theorem valN_parts' (l : List Nat) (n : Nat) : valN l = valN (l.take n) + 256 ^ n * valN (l.drop n) := by
  rcases Nat.le_total n l.length with h | h
  · exact valN_parts l n h
  · rw [List.take_of_length_le h, List.drop_eq_nil_of_le h]
    simp [valN]
theorem part8_val (t : List UInt8) (j : Nat) : part8 t j = valN (((ints8 t).drop (8 * j)).take 8) := by
  rw [part8, leN_val, ints8_take, ints8_drop]
theorem ofN_v (s : List UInt8) (hs : s.length ≤ 16) : (ofN s).v = valN (ints8 s ++ [1]) := by
  have e : ints8 s ++ [1] = ints8 (s ++ [1]) := by rw [ints8_append]; rfl
  have hl : (ints8 (s ++ [1])).length ≤ 24 := by rw [ints8_length]; simp; omega
  have h0 : part8 (s ++ [1]) 0 = valN ((ints8 (s ++ [1])).take 8) := by rw [part8_val]; rfl
  have h1 := part8_val (s ++ [1]) 1
  have h2 := part8_val (s ++ [1]) 2
  rw [e]
  show part8 (s ++ [1]) 0 + 18446744073709551616 * part8 (s ++ [1]) 1 + 340282366920938463463374607431768211456 * part8 (s ++ [1]) 2 = _
  rw [h0, h1, h2, valN_parts' (ints8 (s ++ [1])) 8, valN_parts' ((ints8 (s ++ [1])).drop 8) 8, List.drop_drop]
  rw [show 8 * 1 = 8 from rfl, show 8 * 2 = 16 from rfl, show 8 + 8 = 16 from rfl, List.take_of_length_le (l := (ints8 (s ++ [1])).drop 16) (by rw [List.length_drop]; omega)]
  omega
theorem ofN_b (s : List UInt8) : (ofN s).v < 6277101735386680763835789423207666416102355444464034512896 := by
  obtain ⟨ha, hb, hc⟩ := ofN_lt s
  unfold lt64 at *
  unfold Num.v
  omega
/-- a byte clamped -/
def pcB (i : Nat) (b : UInt8) : UInt8 := if i % 4 = 3 then b &&& 15 else if i % 4 = 0 ∧ 0 < i then b &&& 252 else b
theorem and15_nat (b : UInt8) : (b &&& 15).toNat = b.toNat % 16 := by
  refine all_u8 (p := fun b => (b &&& 15).toNat = b.toNat % 16) (by decide +kernel) b
theorem and252_nat (b : UInt8) : (b &&& 252).toNat = b.toNat / 4 * 4 := by
  refine all_u8 (p := fun b => (b &&& 252).toNat = b.toNat / 4 * 4) (by decide +kernel) b
theorem getD_set8 (l : List UInt8) (i j : Nat) (v : UInt8) (h : i < l.length) : (l.set i v).getD j 0 = if i = j then v else l.getD j 0 := by
  by_cases hij : i = j
  · subst hij
    simp [List.getD_eq_getElem?_getD, h]
  · simp [List.getD_eq_getElem?_getD, hij]
theorem pclF_set (i : Nat) (l : List UInt8) (h : i < l.length) : pclF i l = l.set i (pcB i (l.getD i 0)) := by
  unfold pclF pcB
  split
  · rfl
  · split
    · rfl
    · rw [getD_elem8 _ _ h, List.set_getElem_self]
theorem pcl_get (n : Nat) (l : List UInt8) (i : Nat) (hn : n ≤ l.length) : (upTo pclF n l).getD i 0 = if i < n then pcB i (l.getD i 0) else l.getD i 0 := by
  induction n with
  | zero => rw [upTo]; rfl
  | succ n ih =>
    have hl : (upTo pclF n l).length = l.length := upTo_len8 pclF_length n l
    have i1 := ih (by omega)
    have i2 : (upTo pclF n l).getD n 0 = l.getD n 0 := by
      have : ∀ m, m ≤ n → (upTo pclF m l).getD n 0 = l.getD n 0 := by
        intro m
        induction m with
        | zero => intro _; rw [upTo]
        | succ m ihm =>
          intro hm
          have hlm : (upTo pclF m l).length = l.length := upTo_len8 pclF_length m l
          rw [upTo, pclF_set _ _ (by omega), getD_set8 _ _ _ _ (by omega), if_neg (by omega)]
          exact ihm (by omega)
      exact this n (Nat.le_refl _)
    rw [upTo, pclF_set _ _ (by omega), getD_set8 _ _ _ _ (by omega), i2, i1]
    by_cases h : n = i
    · subst h
      rw [if_pos rfl, if_pos (by omega)]
    · rw [if_neg h]
      by_cases h2 : i < n
      · rw [if_pos h2, if_pos (by omega)]
      · rw [if_neg h2, if_neg (by omega)]
theorem pcB_nat (k : List UInt8) (i : Nat) : (pcB i (k.getD i 0)).toNat = clampD k i := by
  unfold pcB clampD
  split
  · exact and15_nat _
  · split
    · exact and252_nat _
    · rfl
theorem pcl_clamp (k : List UInt8) (hk : k.length = 32) : ints8 ((pclL k).take 16) = clampN k 16 := by
  have hl := pclL_length k
  refine List.ext_getElem (by rw [ints8_length, clampN_length, List.length_take]; omega) fun i h1 h2 => ?_
  rw [clampN_length] at h2
  have h3 : i < (pclL k).length := by omega
  rw [ints8_get _ _ (by rw [List.length_take]; omega), List.getElem_take, ← getD_elem8 _ _ h3, pclL, pcl_get 16 k i (by omega), if_pos h2, pcB_nat]
  simp [clampN]
theorem pr_val (k : List UInt8) (hk : k.length = 32) : pr0 k + 18446744073709551616 * pr1 k = valN (clampN k 16) := by
  have hl := pclL_length k
  rw [← pcl_clamp k hk, pr0, pr1, leN_val, leN_val, ints8_take, ints8_take, ints8_take, ints8_drop, valN_parts' ((ints8 (pclL k)).take 16) 8, List.take_take, List.drop_take]
  rw [show min 8 16 = 8 from rfl, show 16 - 8 = 8 from rfl]
  all_goals omega
theorem clamp_b (k : List UInt8) : valN (clampN k 16) < 21267647932558653966460912964485513216 := by
  rw [clampN_succ, valN_snoc, clampN_length]
  have h1 := valN_lt (clampN k 15) (clampN_dig k 15)
  rw [clampN_length] at h1
  have h2 : clampD k 15 < 16 := by
    rw [clampD, if_pos (by decide)]
    omega
  omega
theorem psF_v (k s : List UInt8) (j : Nat) (a : Num) (hk : k.length = 32) (ha : a.lt) (hb : a.v < 1361129467683753853853498429727072845819) :
    (psF k s j a).v = psV k s j a.v := by
  have ho : (ofN (pblk s j)).v = valN (ints8 ((s.drop (16 * j)).take 16) ++ [1]) := ofN_v (pblk s j) (by rw [pblk, List.length_take]; omega)
  have hob : valN (ints8 ((s.drop (16 * j)).take 16) ++ [1]) < 256 ^ 17 := by
    refine Nat.lt_of_lt_of_le (valN_lt _ ((ints8_dig _).snoc (by decide))) (Nat.pow_le_pow_right (by decide) ?_)
    simp [ints8_length]
    omega
  have hob2 : valN (ints8 ((s.drop (16 * j)).take 16) ++ [1]) < 1020847100762815390390123822295304634368 := by
    rw [valN_snoc]
    have h1 := valN_lt (ints8 ((s.drop (16 * j)).take 16)) (ints8_dig _)
    have h2 : 256 ^ (ints8 ((s.drop (16 * j)).take 16)).length ≤ 256 ^ 16 := Nat.pow_le_pow_right (by decide) (by rw [ints8_length, List.length_take]; omega)
    omega
  have hp : (a.plus (ofN (pblk s j))).v = a.v + valN (ints8 ((s.drop (16 * j)).take 16) ++ [1]) := by rw [Num.plus_v _ _ (by rw [ho]; omega), ho]
  have h0 : lt64 (pr0 k) := leN_lt64 _ (by simp; omega)
  have h1 : lt64 (pr1 k) := leN_lt64 _ (by simp; omega)
  rw [psF, times_v _ _ _ (Num.plus_lt _ _) h0 h1 (by rw [hp]; omega) (by rw [pr_val k hk]; exact clamp_b k), hp, pr_val k hk, psV]
theorem psUp_v (k s : List UInt8) (hk : k.length = 32) (m : Nat) : (upTo (psF k s) m ⟨0, 0, 0⟩).v = upTo (psV k s) m 0 ∧ upTo (psV k s) m 0 < 1361129467683753853853498429727072845819 := by
  induction m with
  | zero => rw [upTo, upTo]; exact ⟨rfl, by decide⟩
  | succ m ih =>
    rw [upTo, upTo, psF_v k s m _ hk (psUp_lt k s m) (by rw [ih.1]; exact ih.2), ih.1]
    refine ⟨rfl, ?_⟩
    rw [psV]
    exact Nat.mod_lt _ (by decide)
theorem polyN_v (k s : List UInt8) (hk : k.length = 32) : (polyN k s).v = sumV k s := by
  obtain ⟨h1, h2⟩ := psUp_v k s hk ((s.length + 15) / 16)
  have h3 : (pend k).v = valN (ints8 (k.drop 16)) := by
    show leN ((k.drop 16).take 8) + 18446744073709551616 * leN (k.drop 24) + 340282366920938463463374607431768211456 * 0 = _
    rw [leN_val, leN_val, ints8_take, valN_parts' (ints8 (k.drop 16)) 8, ints8_drop, ints8_drop, List.drop_drop, show 16 + 8 = 24 from rfl]
    omega
  have h4 : valN (ints8 (k.drop 16)) < 256 ^ 16 := by
    refine Nat.lt_of_lt_of_le (valN_lt _ (ints8_dig _)) (Nat.pow_le_pow_right (by decide) ?_)
    rw [ints8_length, List.length_drop]
    omega
  rw [polyN, Num.plus_v _ _ (by rw [h1, h3]; omega), h1, h3, sumV]
theorem pout_byte (x : Num) (hx : x.lt) (i : Nat) (hi : i < 16) : byteI ((x.list.getD (i / 8) 0 : Nat) / 2 ^ (8 * (i % 8))) = UInt8.ofNat (x.v / 256 ^ i % 256) := by
  obtain ⟨a, b, c⟩ := x
  obtain ⟨ha, hb, hc⟩ := hx
  replace ha : a < 18446744073709551616 := ha
  replace hb : b < 18446744073709551616 := hb
  have key : ∀ (n : Nat) (p : Nat), byteI ((n : Int) / 2 ^ p) = UInt8.ofNat (n / 2 ^ p % 256) := by
    intro n p
    rw [byteI]
    congr 1
  rw [key]
  congr 1
  have h16 : i = 0 ∨ i = 1 ∨ i = 2 ∨ i = 3 ∨ i = 4 ∨ i = 5 ∨ i = 6 ∨ i = 7 ∨ i = 8 ∨ i = 9 ∨ i = 10 ∨ i = 11 ∨ i = 12 ∨ i = 13 ∨ i = 14 ∨ i = 15 := by omega
  rcases h16 with rfl | rfl | rfl | rfl | rfl | rfl | rfl | rfl | rfl | rfl | rfl | rfl | rfl | rfl | rfl | rfl <;> simp [Num.list, Num.v] <;> omega
theorem poly_sum (k s : List UInt8) (hk : k.length = 32) : polyL k s = sumL k s := by
  have hpl : (polyN k s).lt := Num.plus_lt _ _
  have key : ∀ n, n ≤ 16 → upTo (poutF (polyN k s).list) n (List.replicate 16 0) = upTo (sumF k s) n (List.replicate 16 0) := by
    intro n hn
    induction n with
    | zero => rw [upTo, upTo]
    | succ n ih => rw [upTo, upTo, ih (by omega), poutF, sumF, pout_byte _ hpl n (by omega), polyN_v k s hk]
  rw [polyL, sumL, key 16 (Nat.le_refl _)]
end Go.Proofs.Ytjeclimoknilcaa
