/- Texts of this proof, merged: CurQ, CurV, CurE. -/
import Derived.Test.YtakkicppgkmokaaGreatCurPJ
set_option linter.unusedSimpArgs false
set_option linter.unusedVariables false
namespace Go.Proofs.YtakkicppgkmokaaGreat
section
open Go.RowKit
theorem mul_abs (x y : Int) (h0 : -33554432 ≤ x) (h1 : x ≤ 33554432) (h2 : -33554432 ≤ y) (h3 : y ≤ 33554432) : -1125899906842624 ≤ x * y ∧ x * y ≤ 1125899906842624 := by
 have a1 := Int.mul_nonneg (show (0 : Int) ≤ 33554432 - x by omega) (show (0 : Int) ≤ 33554432 + y by omega)
 have a2 := Int.mul_nonneg (show (0 : Int) ≤ 33554432 + x by omega) (show (0 : Int) ≤ 33554432 - y by omega)
 have a3 := Int.mul_nonneg (show (0 : Int) ≤ 33554432 - x by omega) (show (0 : Int) ≤ 33554432 - y by omega)
 have a4 := Int.mul_nonneg (show (0 : Int) ≤ 33554432 + x by omega) (show (0 : Int) ≤ 33554432 + y by omega)
 have e1 : (33554432 - x) * (33554432 + y) = 1125899906842624 + 33554432 * y - 33554432 * x - x * y := by grind
 have e2 : (33554432 + x) * (33554432 - y) = 1125899906842624 - 33554432 * y + 33554432 * x - x * y := by grind
 have e3 : (33554432 - x) * (33554432 - y) = 1125899906842624 - 33554432 * y - 33554432 * x + x * y := by grind
 have e4 : (33554432 + x) * (33554432 + y) = 1125899906842624 + 33554432 * y + 33554432 * x + x * y := by grind
 omega
theorem valN_snoc (l : List Int) (x : Int) : valN (l ++ [x]) = valN l + 65536 ^ l.length * x := by
 induction l with
 | nil => simp [valN]
 | cons y l ih =>
  simp only [List.cons_append, valN, ih, List.length_cons, Int.pow_succ]
  grind
theorem row_inv (xs ys t : List Int) (i : Nat) (hi : i < 16) (hx : within 33554432 xs) (hy : within 33554432 ys) (ht : t.length = 31) (hb : ∀ n, n < 31 → -(1125899906842624 * i) ≤ t.getD n 0 ∧ t.getD n 0 ≤ 1125899906842624 * i) : ∀ j, j ≤ 16 →
  (upTo (mulF xs ys i) j t).length = 31 ∧ valN (upTo (mulF xs ys i) j t) = valN t + 65536 ^ i * xs.getD i 0 * valN (ys.take j) ∧
   (∀ n, n < i + j → n < 31 → -(1125899906842624 * (i + 1)) ≤ (upTo (mulF xs ys i) j t).getD n 0 ∧ (upTo (mulF xs ys i) j t).getD n 0 ≤ 1125899906842624 * (i + 1)) ∧
   (∀ n, i + j ≤ n → n < 31 → (upTo (mulF xs ys i) j t).getD n 0 = t.getD n 0) := by
 intro j
 induction j with
 | zero =>
  intro _
  refine ⟨ht, by simp [upTo, valN], fun n hn hn2 => ?_, fun n _ _ => rfl⟩
  have := hb n hn2
  simp only [upTo]
  omega
 | succ j ih =>
  intro hj
  obtain ⟨h1, h2, h3, h4⟩ := ih (by omega)
  rw [upTo]
  generalize upTo (mulF xs ys i) j t = L at *
  have hxy := mul_abs _ _ (hx.2 i hi).1 (hx.2 i hi).2 (hy.2 j (by omega)).1 (hy.2 j (by omega)).2
  have h7 := h4 (i + j) (by omega) (by omega)
  have hbn := hb (i + j) (by omega)
  have eL : L[i + j]'(by omega) = L.getD (i + j) 0 := getD_get L (i + j) (by omega)
  have ey : ys[j]'(by have := hy.1; omega) = ys.getD j 0 := getD_get ys j (by have := hy.1; omega)
  have heq : mulF xs ys i j L = L.set (i + j) (L.getD (i + j) 0 + xs.getD i 0 * ys.getD j 0) := by
   rw [mulF, wrap64_id (xs.getD i 0 * ys.getD j 0) (by omega) (by omega), wrap64_id _ (by omega) (by omega)]
  rw [heq]
  refine ⟨by simpa using h1, ?_, ?_, ?_⟩
  ·
   rw [valN_set _ _ _ (by omega), h2, eL, List.take_succ_eq_append_getElem (by have := hy.1; omega), ey]
   rw [valN_snoc, List.length_take, show min j ys.length = j by have := hy.1; omega, Int.pow_add]
   grind
  ·
   intro n hn hn2
   rw [getD_set _ _ _ _ (by omega)]
   by_cases h : i + j = n
   ·
    rw [if_pos h]
    omega
   ·
    rw [if_neg h]
    exact h3 n (by omega) hn2
  ·
   intro n hn hn2
   rw [getD_set _ _ _ _ (by omega), if_neg (by omega)]
   exact h4 n (by omega) hn2
theorem valN_zeros (n : Nat) : valN (List.replicate n 0) = 0 := by
 induction n with
 | zero => rfl
 | succ n ih => simp [List.replicate_succ, valN, ih]
theorem getD_zeros (n m : Nat) : (List.replicate m (0 : Int)).getD n 0 = 0 := by
 rw [List.getD_eq_getElem?_getD, List.getElem?_replicate]
 split <;> rfl
theorem prod_inv (xs ys : List Int) (hx : within 33554432 xs) (hy : within 33554432 ys) : ∀ k, k ≤ 16 →
  (upTo (rowF xs ys) k (List.replicate 31 0)).length = 31 ∧ valN (upTo (rowF xs ys) k (List.replicate 31 0)) = valN (xs.take k) * valN ys ∧
   (∀ n, n < 31 → -(1125899906842624 * k) ≤ (upTo (rowF xs ys) k (List.replicate 31 0)).getD n 0 ∧ (upTo (rowF xs ys) k (List.replicate 31 0)).getD n 0 ≤ 1125899906842624 * k) := by
 intro k
 induction k with
 | zero =>
  intro _
  refine ⟨by simp [upTo], by simp only [upTo, valN_zeros, List.take_zero, valN]; omega, fun n hn => ?_⟩
  have := getD_zeros n 31
  simp only [upTo, this]
  omega
 | succ k ih =>
  intro hk
  obtain ⟨h1, h2, h3⟩ := ih (by omega)
  rw [upTo]
  generalize upTo (rowF xs ys) k (List.replicate 31 0) = L at *
  obtain ⟨g1, g2, g3, g4⟩ := row_inv xs ys L k (by omega) hx hy h1 h3 16 (by omega)
  have ex : xs[k]'(by have := hx.1; omega) = xs.getD k 0 := getD_get xs k (by have := hx.1; omega)
  have hy1 : ys.take 16 = ys := List.take_of_length_le (by have := hy.1; omega)
  refine ⟨g1, ?_, fun n hn => ?_⟩
  ·
   rw [rowF, g2, h2, hy1, List.take_succ_eq_append_getElem (by have := hx.1; omega), ex, valN_snoc, List.length_take, show min k xs.length = k by have := hx.1; omega]
   grind
  ·
   rw [rowF]
   by_cases h : n < k + 16
   ·
    exact g3 n h hn
   ·
    rw [g4 n (by omega) hn]
    have := h3 n hn
    omega
theorem prodL_spec (xs ys : List Int) (hx : within 33554432 xs) (hy : within 33554432 ys) :
  (prodL xs ys).length = 31 ∧ valN (prodL xs ys) = valN xs * valN ys ∧ ∀ n, n < 31 → -18014398509481984 ≤ (prodL xs ys).getD n 0 ∧ (prodL xs ys).getD n 0 ≤ 18014398509481984 := by
 obtain ⟨h1, h2, h3⟩ := prod_inv xs ys hx hy 16 (by omega)
 refine ⟨h1, by rw [prodL, h2, List.take_of_length_le (by have := hx.1; omega)], fun n hn => ?_⟩
 have := h3 n hn
 rw [prodL]
 omega
def foldE (t : List Int) (i : Nat) : Int := if i + 16 < 31 then t.getD i 0 + 38 * t.getD (i + 16) 0 else t.getD i 0
theorem foldL_eq (t : List Int) (ht : ∀ n, n < 31 → -18014398509481984 ≤ t.getD n 0 ∧ t.getD n 0 ≤ 18014398509481984) : foldL t = (List.range 16).map (foldE t) := by
 have := upTo_set (foldE t) (foldF t) (List.replicate 16 0) 16 (by simp) (fun k l hk hl hd => by
  have hk1 := ht k (by omega)
  rw [foldF, foldE]
  by_cases h : k + 16 < 31
  ·
   have hk2 := ht (k + 16) (by omega)
   rw [if_pos h, if_pos h, wrap64_id (38 * t.getD (k + 16) 0) (by omega) (by omega), wrap64_id _ (by omega) (by omega)]
  ·
   rw [if_neg h, if_neg h]) 16 (Nat.le_refl _)
 rw [foldL, this]
 simp
theorem foldL_within (t : List Int) (ht : ∀ n, n < 31 → -18014398509481984 ≤ t.getD n 0 ∧ t.getD n 0 ≤ 18014398509481984) : within 1152921504606846976 (foldL t) := by
 refine ⟨foldL_length t, fun i hi => ?_⟩
 have hk1 := ht i (by omega)
 have e : (foldL t).getD i 0 = foldE t i := by
  rw [foldL_eq t ht]
  simp [List.getD_eq_getElem?_getD, List.getElem?_map, List.getElem?_range, hi]
 rw [e, foldE]
 by_cases h : i + 16 < 31
 ·
  have hk2 := ht (i + 16) (by omega)
  rw [if_pos h]
  omega
 ·
  rw [if_neg h]
  omega
theorem foldL_val (t : List Int) (hl : t.length = 31) (ht : ∀ n, n < 31 → -18014398509481984 ≤ t.getD n 0 ∧ t.getD n 0 ≤ 18014398509481984) : ∃ c, valN (foldL t) = valN t - ((65536 : Int) ^ 16 - (38 : Int)) * c := by
 rw [foldL_eq t ht]
 match t, hl with
 | [a0, a1, a2, a3, a4, a5, a6, a7, a8, a9, a10, a11, a12, a13, a14, a15, a16, a17, a18, a19, a20, a21, a22, a23, a24, a25, a26, a27, a28, a29, a30], _ =>
  refine ⟨valN [a16, a17, a18, a19, a20, a21, a22, a23, a24, a25, a26, a27, a28, a29, a30], ?_⟩
  simp only [show List.range 16 = [0, 1, 2, 3, 4, 5, 6, 7, 8, 9, 10, 11, 12, 13, 14, 15] from rfl, List.map_cons, List.map_nil, foldE, valN]
  simp
  grind
def red (l : List Int) : Prop := l.length = 16 ∧ ∀ i, i < 16 → -76 ≤ l.getD i 0 ∧ l.getD i 0 ≤ 65611
theorem red_within (l : List Int) (h : red l) : within 33554432 l := ⟨h.1, fun i hi => by have := h.2 i hi; omega⟩
def bA (k : Nat) : Int := if k = 0 then 0 else 35184372088832
def mB (k : Nat) : Int := if k = 0 then 2251799813685248 else 65535
def bB (k : Nat) : Int := if k = 0 then 0 else if k = 1 then 68719476736 else if k = 2 then 2097152 else if k = 3 then 64 else 2
theorem twice_spec (xs : List Int) (hx : within 1152921504606846976 xs) : red (carriedL (carriedL xs)) ∧ ∃ c, valN (carriedL (carriedL xs)) = valN xs - ((65536 : Int) ^ 16 - (38 : Int)) * c := by
 obtain ⟨h1, ⟨c1, h2⟩, h3, h4, h5⟩ := carriedL_spec xs hx (fun _ => 1152921504606846976) bA (fun i hi => hx.2 i hi) rfl (fun i hi => by
  have e1 : bA (i + 1) = 35184372088832 := by simp [bA]
  have e2 : bA i ≤ 35184372088832 := by unfold bA; split <;> decide
  show (1152921504606846976 + bA i) / 65536 + 1 ≤ bA (i + 1)
  omega)
 simp only [bA] at h4 h5
 rw [if_neg (by decide)] at h4 h5
 have hw : within 1152921504606846976 (carriedL xs) := ⟨h1, fun i hi => by
  by_cases h : i = 0
  ·
   subst h
   omega
  ·
   have := h3 i (by omega) hi
   omega⟩
 obtain ⟨g1, ⟨c2, g2⟩, g3, g4, g5⟩ := carriedL_spec (carriedL xs) hw mB bB (fun i hi => by
  by_cases h : i = 0
  ·
   subst h
   simp only [mB, if_true]
   omega
  ·
   have := h3 i (by omega) hi
   simp only [mB, if_neg h]
   omega) rfl (fun i hi => by
  simp only [mB, bB]
  repeat' split
  all_goals omega)
 simp only [bB] at g4 g5
 rw [if_neg (by decide), if_neg (by decide), if_neg (by decide), if_neg (by decide)] at g4 g5
 refine ⟨⟨g1, fun i hi => ?_⟩, c1 + c2, ?_⟩
 ·
  by_cases h : i = 0
  ·
   subst h
   omega
  ·
   have := g3 i (by omega) hi
   omega
 ·
  rw [g2, h2]
  grind
theorem timesL_spec (xs ys : List Int) (hx : within 33554432 xs) (hy : within 33554432 ys) : red (timesL xs ys) ∧ ∃ c, valN (timesL xs ys) = valN xs * valN ys - ((65536 : Int) ^ 16 - (38 : Int)) * c := by
 obtain ⟨h1, h2, h3⟩ := prodL_spec xs ys hx hy
 obtain ⟨c1, h4⟩ := foldL_val _ h1 h3
 obtain ⟨h5, c2, h6⟩ := twice_spec _ (foldL_within _ h3)
 exact ⟨h5, c1 + c2, by rw [timesL, h6, h4, h2]; grind⟩
end
section
open Go.RowKit
def pN : Int := 57896044618658097711785492504343953926634992332820282019728792003956564819949
theorem two_p : (65536 : Int) ^ 16 - (38 : Int) = 2 * pN := by decide +kernel
theorem digit (l : List Int) (h : ∀ i, i < l.length → 0 ≤ l.getD i 0 ∧ l.getD i 0 < 65536) : ∀ i, i < l.length → l.getD i 0 = valN l / 65536 ^ i % 65536 := by
 induction l with
 | nil => intro i hi; simp at hi
 | cons x l ih =>
  intro i hi
  have hx := h 0 (by simp)
  simp at hx
  have hl : ∀ i, i < l.length → 0 ≤ l.getD i 0 ∧ l.getD i 0 < 65536 := fun i hi => by
   have := h (i + 1) (by simp; omega)
   simpa using this
  cases i with
  | zero =>
   simp [valN]
   omega
  | succ i =>
   have hi2 : i < l.length := by simpa using hi
   have := ih hl i hi2
   have e : valN (x :: l) / 65536 ^ (i + 1) = valN l / 65536 ^ i := by
    rw [valN, Int.pow_succ, Int.mul_comm (65536 ^ i) 65536, ← Int.ediv_ediv_of_nonneg (by omega)]
    congr 1
    omega
   rw [e]
   simpa using this
theorem valN_bound (l : List Int) (h : ∀ i, i < l.length → 0 ≤ l.getD i 0 ∧ l.getD i 0 < 65536) : 0 ≤ valN l ∧ valN l < 65536 ^ l.length := by
 induction l with
 | nil => simp [valN]
 | cons x l ih =>
  have hx := h 0 (by simp)
  simp at hx
  have := ih (fun i hi => by
   have := h (i + 1) (by simp; omega)
   simpa using this)
  simp only [valN, List.length_cons, Int.pow_succ]
  omega
theorem last_part (l : List Int) (hl : l.length = 16) (h : ∀ i, i < 15 → 0 ≤ l.getD i 0 ∧ l.getD i 0 < 65536) : 65536 ^ 15 * l.getD 15 0 ≤ valN l ∧ valN l < 65536 ^ 15 * l.getD 15 0 + 65536 ^ 15 := by
 have e : l = l.take 15 ++ [l.getD 15 0] := by
  have h15 : 15 < l.length := by omega
  conv => lhs; rw [← List.take_append_drop 15 l, List.drop_eq_getElem_cons h15, List.drop_of_length_le (by omega)]
  rw [getD_get l 15 h15]
 have hb := valN_bound (l.take 15) (fun i hi => by
  have hi2 : i < 15 := by simp at hi; omega
  have := h i hi2
  have e : (l.take 15).getD i 0 = l.getD i 0 := by simp [List.getD_eq_getElem?_getD, List.getElem?_take, hi2]
  omega)
 have ht : (l.take 15).length = 15 := by simp; omega
 rw [ht] at hb
 have ev : valN l = valN (l.take 15) + 65536 ^ 15 * l.getD 15 0 := by
  conv => lhs; rw [e, valN_snoc, ht]
 omega
def norm (l : List Int) : Prop := l.length = 16 ∧ (∀ i, i < 15 → 0 ≤ l.getD i 0 ∧ l.getD i 0 < 65536) ∧ -1099511627776 ≤ l.getD 15 0 ∧ l.getD 15 0 ≤ 1099511627776
theorem high_eq (l : List Int) (h : norm l) : l.getD 15 0 / 32768 = valN l / 57896044618658097711785492504343953926634992332820282019728792003956564819968 := by
 have := last_part l h.1 h.2.1
 have e : (65536 : Int) ^ 15 = 1766847064778384329583297500742918515827483896875618958121606201292619776 := by decide +kernel
 rw [e] at this
 omega
theorem topF_eq (k : Nat) (l : List Int) (h : norm l) : topF k l = wholeL ((l.set 15 (l.getD 15 0 % 32768)).set 0 (l.getD 0 0 + 19 * (l.getD 15 0 / 32768))) := by
 obtain ⟨h1, h2, h3, h4⟩ := h
 have h0 := h2 0 (by omega)
 have w1 : wrap64 (l.getD 15 0 / 32768 * 32768) = l.getD 15 0 / 32768 * 32768 := wrap64_id _ (by omega) (by omega)
 have w2 : wrap64 (l.getD 15 0 - l.getD 15 0 / 32768 * 32768) = l.getD 15 0 % 32768 := by rw [wrap64_id _ (by omega) (by omega)]; omega
 have w3 : wrap64 (19 * (l.getD 15 0 / 32768)) = 19 * (l.getD 15 0 / 32768) := wrap64_id _ (by omega) (by omega)
 have w4 : wrap64 (l.getD 0 0 + 19 * (l.getD 15 0 / 32768)) = l.getD 0 0 + 19 * (l.getD 15 0 / 32768) := wrap64_id _ (by omega) (by omega)
 have g : (l.set 15 (l.getD 15 0 % 32768)).getD 0 0 = l.getD 0 0 := by rw [getD_set _ _ _ _ (by omega), if_neg (by omega)]
 simp only [topF, w1, w2, w3, g, w4]
theorem topF_spec (k : Nat) (l : List Int) (h : norm l) : norm (topF k l) ∧ valN (topF k l) = valN l - pN * (valN l / 57896044618658097711785492504343953926634992332820282019728792003956564819968) := by
 rw [topF_eq k l h, ← high_eq l h]
 obtain ⟨h1, h2, h3, h4⟩ := h
 have h0 := h2 0 (by omega)
 have hg : ∀ i, i < 16 → ((l.set 15 (l.getD 15 0 % 32768)).set 0 (l.getD 0 0 + 19 * (l.getD 15 0 / 32768))).getD i 0 = if 0 = i then l.getD 0 0 + 19 * (l.getD 15 0 / 32768) else if 15 = i then l.getD 15 0 % 32768 else l.getD i 0 := fun i hi => by
  rw [getD_set _ _ _ _ (by simp; omega), getD_set _ _ _ _ (by omega)]
 have hw : within 1152921504606846976 ((l.set 15 (l.getD 15 0 % 32768)).set 0 (l.getD 0 0 + 19 * (l.getD 15 0 / 32768))) := ⟨by simpa using h1, fun i hi => by
  rw [hg i hi]
  by_cases a : 0 = i
  ·
   rw [if_pos a]; omega
  ·
   rw [if_neg a]
   by_cases b : 15 = i
   ·
    rw [if_pos b]; omega
   ·
    rw [if_neg b]
    have := h2 i (by omega)
    omega⟩
 obtain ⟨g1, g2, g3⟩ := wholeL_spec _ hw
 have hbd := whole_bound _ hw (fun i => if i = 0 then 1073741824 else 65536) (fun i => if i = 0 then 0 else 32768) (fun i hi => by
  rw [hg i hi]
  by_cases a : 0 = i
  ·
   subst a; simp only [if_true]; omega
  ·
   rw [if_neg a, if_neg (by omega)]
   by_cases b : 15 = i
   ·
    rw [if_pos b]; omega
   ·
    rw [if_neg b]
    have := h2 i (by omega)
    omega) rfl (fun i hi => by
  show ((if i = 0 then 1073741824 else 65536) + (if i = 0 then 0 else 32768) : Int) / 65536 + 1 ≤ if i + 1 = 0 then 0 else 32768
  rw [if_neg (show ¬ i + 1 = 0 by omega)]
  by_cases a : i = 0
  ·
   rw [if_pos a, if_pos a]; decide
  ·
   rw [if_neg a, if_neg a]; decide) 15 (by omega)
 simp only [show ¬ (15 : Nat) = 0 by omega, if_false] at hbd
 have h15 : 15 < l.length := by omega
 have e0 : (l.set 15 (l.getD 15 0 % 32768))[0]'(by simp; omega) = l.getD 0 0 := by rw [getD_get _ _ (by simp; omega), getD_set _ _ _ _ h15, if_neg (by omega)]
 have e15 : l[15]'h15 = l.getD 15 0 := getD_get l 15 h15
 have hv := wholeL_spec _ hw
 generalize hW : wholeL ((l.set 15 (l.getD 15 0 % 32768)).set 0 (l.getD 0 0 + 19 * (l.getD 15 0 / 32768))) = Y at *
 have hY : upTo wholeF 15 ((l.set 15 (l.getD 15 0 % 32768)).set 0 (l.getD 0 0 + 19 * (l.getD 15 0 / 32768))) = Y := hW
 rw [hY] at hbd
 refine ⟨⟨g1, g3, by omega, by omega⟩, ?_⟩
 rw [g2, valN_set _ _ _ (by simp; omega), valN_set _ _ _ h15, e0, e15, show (65536 : Int) ^ 15 = 1766847064778384329583297500742918515827483896875618958121606201292619776 by decide +kernel, show (65536 : Int) ^ 0 = 1 from rfl, pN]
 omega
theorem red_norm3 (l : List Int) (h : red l) : norm (wholeL (carriedL (carriedL (carriedL l)))) ∧ (-65613 ≤ (wholeL (carriedL (carriedL (carriedL l)))).getD 15 0 ∧ (wholeL (carriedL (carriedL (carriedL l)))).getD 15 0 ≤ 65613) ∧ ∃ c, valN (wholeL (carriedL (carriedL (carriedL l)))) = valN l - 2 * pN * c := by
 have step : ∀ l, red l → red (carriedL l) ∧ ∃ c, valN (carriedL l) = valN l - ((65536 : Int) ^ 16 - (38 : Int)) * c := fun l h => by
  have hw : within 1152921504606846976 l := ⟨h.1, fun i hi => by have := h.2 i hi; omega⟩
  obtain ⟨h1, h2, h3, h4, h5⟩ := carriedL_spec l hw (fun _ => 65611) (fun k => if k = 0 then 0 else 2) (fun i hi => by have := h.2 i hi; omega) rfl (fun i hi => by
   show (65611 + (if i = 0 then 0 else 2) : Int) / 65536 + 1 ≤ if i + 1 = 0 then 0 else 2
   rw [if_neg (show ¬ i + 1 = 0 by omega)]
   by_cases a : i = 0
   ·
    rw [if_pos a]; decide
   ·
    rw [if_neg a]; decide)
  simp only [show ¬ (16 : Nat) = 0 by omega, if_false] at h4 h5
  refine ⟨⟨h1, fun i hi => ?_⟩, h2⟩
  by_cases a : i = 0
  ·
   subst a; omega
  ·
   have := h3 i (by omega) hi; omega
 obtain ⟨a1, c1, b1⟩ := step l h
 obtain ⟨a2, c2, b2⟩ := step _ a1
 obtain ⟨a3, c3, b3⟩ := step _ a2
 have hw : within 1152921504606846976 (carriedL (carriedL (carriedL l))) := ⟨a3.1, fun i hi => by have := a3.2 i hi; omega⟩
 obtain ⟨g1, g2, g3⟩ := wholeL_spec _ hw
 obtain ⟨_, _, _, _, g5, g6⟩ := whole_inv _ hw 15 (by omega)
 have hbd := whole_bound _ hw (fun _ => 65611) (fun k => if k = 0 then 0 else 2) (fun i hi => by have := a3.2 i hi; omega) rfl (fun i hi => by
   show (65611 + (if i = 0 then 0 else 2) : Int) / 65536 + 1 ≤ if i + 1 = 0 then 0 else 2
   rw [if_neg (show ¬ i + 1 = 0 by omega)]
   by_cases a : i = 0
   ·
    rw [if_pos a]; decide
   ·
    rw [if_neg a]; decide) 15 (by omega)
 rw [show upTo wholeF 15 (carriedL (carriedL (carriedL l))) = wholeL (carriedL (carriedL (carriedL l))) from rfl] at hbd
 simp only [show ¬ (15 : Nat) = 0 by omega, if_false] at hbd
 refine ⟨⟨g1, g3, by omega, by omega⟩, ⟨by omega, by omega⟩, c1 + c2 + c3, ?_⟩
 rw [g2, b3, b2, b1, two_p]
 grind
theorem norm_val (l : List Int) (h : norm l) : 65536 ^ 15 * l.getD 15 0 ≤ valN l ∧ valN l < 65536 ^ 15 * l.getD 15 0 + 65536 ^ 15 := last_part l h.1 h.2.1
theorem topL_spec (xs : List Int) (h : red xs) : norm (topL xs) ∧ 0 ≤ valN (topL xs) ∧ valN (topL xs) < 57896044618658097711785492504343953926634992332820282019728792003956564819968 ∧ ∃ c, valN (topL xs) = valN xs - pN * c := by
 obtain ⟨n0, ⟨q1, q2⟩, c, hc⟩ := red_norm3 xs h
 have hb0 := last_part _ n0.1 n0.2.1
 obtain ⟨n1, v1⟩ := topF_spec 0 _ n0
 obtain ⟨n2, v2⟩ := topF_spec 1 _ n1
 have et : topL xs = topF 1 (topF 0 (wholeL (carriedL (carriedL (carriedL xs))))) := by unfold topL; rw [upTo, upTo, upTo]
 rw [et]
 generalize wholeL (carriedL (carriedL (carriedL xs))) = A at *
 rw [show (65536 : Int) ^ 15 = 1766847064778384329583297500742918515827483896875618958121606201292619776 by decide +kernel] at hb0
 generalize valN (topF 1 (topF 0 A)) = V2 at *
 generalize valN (topF 0 A) = V1 at *
 obtain ⟨h0, hh0⟩ : ∃ k, valN A / 57896044618658097711785492504343953926634992332820282019728792003956564819968 = k := ⟨_, rfl⟩
 obtain ⟨h1, hh1⟩ : ∃ k, V1 / 57896044618658097711785492504343953926634992332820282019728792003956564819968 = k := ⟨_, rfl⟩
 rw [hh0] at v1
 rw [hh1] at v2
 refine ⟨n2, ?_, ?_, 2 * c + h0 + h1, ?_⟩
 ·
  simp only [pN] at v1 v2
  omega
 ·
  simp only [pN] at v1 v2
  omega
 ·
  rw [v2, v1, hc]
  grind
end
section
open Go.RowKit
def digs (l : List Int) : Prop := l.length = 16 ∧ ∀ i, i < 16 → 0 ≤ l.getD i 0 ∧ l.getD i 0 < 65536
def dig (v : Int) : List Int := (List.range 16).map fun i => v / 65536 ^ i % 65536
theorem dig_length (v : Int) : (dig v).length = 16 := by simp [dig]
theorem dig_get (v : Int) (i : Nat) (h : i < 16) : (dig v).getD i 0 = v / 65536 ^ i % 65536 := by
 simp [dig, List.getD_eq_getElem?_getD, h]
theorem digs_dig (l : List Int) (h : digs l) : l = dig (valN l) := by
 apply List.ext_getElem (by rw [h.1, dig_length])
 intro i h1 h2
 have hi : i < 16 := by rw [h.1] at h1; exact h1
 have h3 := digit l (fun j hj => h.2 j (by rw [h.1] at hj; exact hj)) i h1
 have h4 := dig_get (valN l) i hi
 rw [getD_get _ _ h1, getD_get _ _ h2, h3, h4]
theorem p15 : (65536 : Int) ^ 15 = 1766847064778384329583297500742918515827483896875618958121606201292619776 := by decide +kernel
theorem endL_spec (xs : List Int) (h : red xs) : digs (endL xs) ∧ valN (endL xs) = valN xs % pN := by
 obtain ⟨hn, h0, h1, c, hc⟩ := topL_spec xs h
 generalize hT : topL xs = T at *
 have hl := hn.1
 have hv := norm_val T hn
 rw [p15] at hv
 have h15 : 0 ≤ T.getD 15 0 ∧ T.getD 15 0 < 32768 := by omega
 have hd : digs T := ⟨hl, fun i hi => by
  by_cases e : i = 15
  ·
   subst e; omega
  ·
   exact hn.2.1 i (by omega)⟩
 have hT0 := hd.2 0 (by omega)
 have hw : within 1152921504606846976 (T.set 0 (T.getD 0 0 + 19)) := ⟨by simpa using hl, fun i hi => by
  rw [getD_set _ _ _ _ (by omega)]
  have := hd.2 i hi
  split <;> omega⟩
 obtain ⟨g1, g2, g3⟩ := wholeL_spec _ hw
 have hY : lessPY T = wholeL (T.set 0 (T.getD 0 0 + 19)) := by rw [lessPY, wrap64_id _ (by omega) (by omega)]
 have gv : valN (T.set 0 (T.getD 0 0 + 19)) = valN T + 19 := by
  rw [valN_set _ _ _ (by omega), getD_get _ _ (by omega)]
  simp
  omega
 rw [← hY] at g1 g2 g3
 rw [gv] at g2
 have hlp := last_part (lessPY T) g1 g3
 rw [p15] at hlp
 have hE : endL xs = if lessPB T then lessPL T else T := by rw [endL, hT]
 have hmod : valN T % pN = valN xs % pN := by rw [hc, Int.sub_mul_emod_self_left]
 rw [hE, ← hmod]
 have hB : lessPB T = !((lessPY T).getD 15 0 / 32768 == 0) := rfl
 have hL : lessPL T = if (lessPY T).getD 15 0 / 32768 = 0 then lessPY T else (lessPY T).set 15 (wrap64 ((lessPY T).getD 15 0 - 32768)) := rfl
 rw [hB, hL]
 clear hB hL hE
 generalize lessPY T = Y at *
 by_cases hb : Y.getD 15 0 / 32768 = 0
 ·
  rw [hb]
  simp only [beq_self_eq_true, Bool.not_true, Bool.false_eq_true, if_false]
  refine ⟨hd, ?_⟩
  rw [Int.emod_eq_of_lt h0]
  unfold pN
  omega
 ·
  have h32 : Y.getD 15 0 = 32768 := by omega
  rw [if_neg hb, h32]
  rw [show (!((32768 : Int) / 32768 == 0)) = true by decide, if_pos rfl, show wrap64 ((32768 : Int) - 32768) = 0 by decide +kernel]
  refine ⟨⟨by simpa using g1, fun i hi => ?_⟩, ?_⟩
  ·
   rw [getD_set _ _ _ _ (by omega)]
   by_cases e : 15 = i
   ·
    rw [if_pos e]; omega
   ·
    rw [if_neg e]; exact g3 i (by omega)
  ·
   rw [valN_set _ _ _ (by omega), getD_get _ _ (by omega), h32, p15, g2]
   have : valN T % pN = valN T - pN := by
    rw [← Int.sub_emod_right, Int.emod_eq_of_lt (by unfold pN; omega) (by unfold pN; omega)]
   rw [this]
   unfold pN
   omega
def keyV (v : Int) : List UInt8 := upTo (keyF (dig v)) 16 (List.replicate 32 0)
theorem keyL_eq (xs : List Int) (h : red xs) : keyL xs = keyV (valN xs % pN) := by
 obtain ⟨h1, h2⟩ := endL_spec xs h
 rw [keyL, keyV, ← h2, ← digs_dig _ h1]
theorem keyV_length (v : Int) : (keyV v).length = 32 := by rw [keyV, upTo_len8 (keyF_length _)]; simp
theorem keyV_at (ys : List Int) : ∀ k, k ≤ 16 → ∀ j, j < k → (upTo (keyF ys) k (List.replicate 32 0)).getD (2 * j) 0 = byteI (ys.getD j 0) ∧ (upTo (keyF ys) k (List.replicate 32 0)).getD (2 * j + 1) 0 = byteI (ys.getD j 0 / 256) := by
 intro k
 induction k with
 | zero => intro _ j h; omega
 | succ k ih =>
  intro hk j hj
  have hl : (upTo (keyF ys) k (List.replicate 32 0)).length = 32 := by rw [upTo_len8 (keyF_length _)]; simp
  rw [upTo]
  have hih := ih (by omega) j
  generalize upTo (keyF ys) k (List.replicate 32 0) = M at *
  by_cases e : j = k
  ·
   subst e
   simp only [keyF, List.getD_eq_getElem?_getD, List.getElem?_set, List.length_set, hl]
   simp [show 2 * j < 32 by omega, show 2 * j + 1 < 32 by omega]
  ·
   have := hih (by omega)
   simp only [List.getD_eq_getElem?_getD] at this
   simp only [keyF, List.getD_eq_getElem?_getD, List.getElem?_set, List.length_set, hl]
   simp [show ¬ 2 * k = 2 * j by omega, show ¬ 2 * k + 1 = 2 * j by omega, show ¬ 2 * k = 2 * j + 1 by omega, show ¬ 2 * k + 1 = 2 * j + 1 by omega, show ¬ k = j by omega, this]
theorem ofL_eq (l : List UInt8) : ofL l = (List.range 16).map fun i => if i = 15 then (byteAt l 30 + byteAt l 31 * 256) % 32768 else byteAt l (2 * i) + byteAt l (2 * i + 1) * 256 := by
 have := upTo_set (fun i => byteAt l (2 * i) + byteAt l (2 * i + 1) * 256) (ofF l) (List.replicate 16 0) 16 (by simp) (fun k x _ _ _ => rfl) 16 (Nat.le_refl _)
 unfold ofL
 simp only [this]
 apply List.ext_getElem (by simp)
 intro i h1 h2
 simp only [List.getElem_set]
 have hi : i < 16 := by simpa using h2
 by_cases e : i = 15
 ·
  subst e
  simp [List.getD_eq_getElem?_getD]
 ·
  simp [show ¬ 15 = i by omega, e, List.getElem_append, hi]
theorem byteAt_bd (l : List UInt8) (i : Nat) : 0 ≤ byteAt l i ∧ byteAt l i < 256 := by
 unfold byteAt
 have := (l.getD i 0).toNat_lt
 omega
theorem ofL_get (l : List UInt8) (i : Nat) (hi : i < 16) : (ofL l).getD i 0 = if i = 15 then (byteAt l 30 + byteAt l 31 * 256) % 32768 else byteAt l (2 * i) + byteAt l (2 * i + 1) * 256 := by
 rw [ofL_eq]
 simp [List.getD_eq_getElem?_getD, hi]
theorem ofL_digs (l : List UInt8) : digs (ofL l) := ⟨ofL_length l, fun i hi => by
 rw [ofL_get l i hi]
 have h1 := byteAt_bd l (2 * i)
 have h2 := byteAt_bd l (2 * i + 1)
 split <;> omega⟩
theorem red_digs {l : List Int} (h : digs l) : red l := ⟨h.1, fun i hi => by have := h.2 i hi; omega⟩
theorem ofL_red (l : List UInt8) : red (ofL l) := red_digs (ofL_digs l)
def numK (l : List UInt8) : Int := valN (ofL l)
end
end Go.Proofs.YtakkicppgkmokaaGreat
