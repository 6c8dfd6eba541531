/- Plain laws of elements: products, modulo 2 to the 256 less 38. -/
import Derived.Test.YtohhiibgjcbpiaaCurP
set_option linter.unusedSimpArgs false
set_option linter.unusedVariables false
namespace Go.Proofs.Ytohhiibgjcbpiaa
open Go.RowKit
theorem mul_abs (x y : Int) (h0 : -33554432 ≤ x) (h1 : x ≤ 33554432) (h2 : -33554432 ≤ y) (h3 : y ≤ 33554432) : -1125899906842624 ≤ x * y ∧ x * y ≤ 1125899906842624 := by
  have a1 := Int.mul_nonneg (show (0 : Int) ≤ 33554432 - x by omega) (show (0 : Int) ≤ 33554432 + y by omega)
  have a2 := Int.mul_nonneg (show (0 : Int) ≤ 33554432 + x by omega) (show (0 : Int) ≤ 33554432 - y by omega)
  have a3 := Int.mul_nonneg (show (0 : Int) ≤ 33554432 - x by omega) (show (0 : Int) ≤ 33554432 - y by omega)
  have a4 := Int.mul_nonneg (show (0 : Int) ≤ 33554432 + x by omega) (show (0 : Int) ≤ 33554432 + y by omega)
  have e1 : (33554432 - x) * (33554432 + y) = 1125899906842624 + 33554432 * y - 33554432 * x - x * y := by grind
  have e2 : (33554432 + x) * (33554432 - y) = 1125899906842624 - 33554432 * y + 33554432 * x - x * y := by grind
  have e3 : (33554432 - x) * (33554432 - y) = 1125899906842624 - 33554432 * y - 33554432 * x + x * y := by grind
  have e4 : (33554432 + x) * (33554432 + y) = 1125899906842624 + 33554432 * y + 33554432 * x + x * y := by grind
  omega
theorem valN_snoc (l : List Int) (x : Int) : valN (l ++ [x]) = valN l + 65536 ^ l.length * x := by
  induction l with
  | nil => simp [valN]
  | cons y l ih =>
    simp only [List.cons_append, valN, ih, List.length_cons, Int.pow_succ]
    grind
theorem row_inv (xs ys t : List Int) (i : Nat) (hi : i < 16) (hx : within 33554432 xs) (hy : within 33554432 ys) (ht : t.length = 31) (hb : ∀ n, n < 31 → -(1125899906842624 * i) ≤ t.getD n 0 ∧ t.getD n 0 ≤ 1125899906842624 * i) : ∀ j, j ≤ 16 →
    (upTo (mulF xs ys i) j t).length = 31 ∧ valN (upTo (mulF xs ys i) j t) = valN t + 65536 ^ i * xs.getD i 0 * valN (ys.take j) ∧
      (∀ n, n < i + j → n < 31 → -(1125899906842624 * (i + 1)) ≤ (upTo (mulF xs ys i) j t).getD n 0 ∧ (upTo (mulF xs ys i) j t).getD n 0 ≤ 1125899906842624 * (i + 1)) ∧
      (∀ n, i + j ≤ n → n < 31 → (upTo (mulF xs ys i) j t).getD n 0 = t.getD n 0) := by
  intro j
  induction j with
  | zero =>
    intro _
    refine ⟨ht, by simp [upTo, valN], fun n hn hn2 => ?_, fun n _ _ => rfl⟩
    have := hb n hn2
    simp only [upTo]
    omega
  | succ j ih =>
    intro hj
    obtain ⟨h1, h2, h3, h4⟩ := ih (by omega)
    rw [upTo]
    generalize upTo (mulF xs ys i) j t = L at *
    have hxy := mul_abs _ _ (hx.2 i hi).1 (hx.2 i hi).2 (hy.2 j (by omega)).1 (hy.2 j (by omega)).2
    have h7 := h4 (i + j) (by omega) (by omega)
    have hbn := hb (i + j) (by omega)
    have eL : L[i + j]'(by omega) = L.getD (i + j) 0 := getD_get L (i + j) (by omega)
    have ey : ys[j]'(by have := hy.1; omega) = ys.getD j 0 := getD_get ys j (by have := hy.1; omega)
    have heq : mulF xs ys i j L = L.set (i + j) (L.getD (i + j) 0 + xs.getD i 0 * ys.getD j 0) := by
      rw [mulF, wrap64_id (xs.getD i 0 * ys.getD j 0) (by omega) (by omega), wrap64_id _ (by omega) (by omega)]
    rw [heq]
    refine ⟨by simpa using h1, ?_, ?_, ?_⟩
    · rw [valN_set _ _ _ (by omega), h2, eL, List.take_succ_eq_append_getElem (by have := hy.1; omega), ey]
      rw [valN_snoc, List.length_take, show min j ys.length = j by have := hy.1; omega, Int.pow_add]
      grind
    · intro n hn hn2
      rw [getD_set _ _ _ _ (by omega)]
      by_cases h : i + j = n
      · rw [if_pos h]
        omega
      · rw [if_neg h]
        exact h3 n (by omega) hn2
    · intro n hn hn2
      rw [getD_set _ _ _ _ (by omega), if_neg (by omega)]
      exact h4 n (by omega) hn2
theorem valN_zeros (n : Nat) : valN (List.replicate n 0) = 0 := by
  induction n with
  | zero => rfl
  | succ n ih => simp [List.replicate_succ, valN, ih]
theorem getD_zeros (n m : Nat) : (List.replicate m (0 : Int)).getD n 0 = 0 := by
  rw [List.getD_eq_getElem?_getD, List.getElem?_replicate]
  split <;> rfl
theorem prod_inv (xs ys : List Int) (hx : within 33554432 xs) (hy : within 33554432 ys) : ∀ k, k ≤ 16 →
    (upTo (rowF xs ys) k (List.replicate 31 0)).length = 31 ∧ valN (upTo (rowF xs ys) k (List.replicate 31 0)) = valN (xs.take k) * valN ys ∧
      (∀ n, n < 31 → -(1125899906842624 * k) ≤ (upTo (rowF xs ys) k (List.replicate 31 0)).getD n 0 ∧ (upTo (rowF xs ys) k (List.replicate 31 0)).getD n 0 ≤ 1125899906842624 * k) := by
  intro k
  induction k with
  | zero =>
    intro _
    refine ⟨by simp [upTo], by simp only [upTo, valN_zeros, List.take_zero, valN]; omega, fun n hn => ?_⟩
    have := getD_zeros n 31
    simp only [upTo, this]
    omega
  | succ k ih =>
    intro hk
    obtain ⟨h1, h2, h3⟩ := ih (by omega)
    rw [upTo]
    generalize upTo (rowF xs ys) k (List.replicate 31 0) = L at *
    obtain ⟨g1, g2, g3, g4⟩ := row_inv xs ys L k (by omega) hx hy h1 h3 16 (by omega)
    have ex : xs[k]'(by have := hx.1; omega) = xs.getD k 0 := getD_get xs k (by have := hx.1; omega)
    have hy1 : ys.take 16 = ys := List.take_of_length_le (by have := hy.1; omega)
    refine ⟨g1, ?_, fun n hn => ?_⟩
    · rw [rowF, g2, h2, hy1, List.take_succ_eq_append_getElem (by have := hx.1; omega), ex, valN_snoc, List.length_take, show min k xs.length = k by have := hx.1; omega]
      grind
    · rw [rowF]
      by_cases h : n < k + 16
      · exact g3 n h hn
      · rw [g4 n (by omega) hn]
        have := h3 n hn
        omega
theorem prodL_spec (xs ys : List Int) (hx : within 33554432 xs) (hy : within 33554432 ys) :
    (prodL xs ys).length = 31 ∧ valN (prodL xs ys) = valN xs * valN ys ∧ ∀ n, n < 31 → -18014398509481984 ≤ (prodL xs ys).getD n 0 ∧ (prodL xs ys).getD n 0 ≤ 18014398509481984 := by
  obtain ⟨h1, h2, h3⟩ := prod_inv xs ys hx hy 16 (by omega)
  refine ⟨h1, by rw [prodL, h2, List.take_of_length_le (by have := hx.1; omega)], fun n hn => ?_⟩
  have := h3 n hn
  rw [prodL]
  omega
def foldE (t : List Int) (i : Nat) : Int := if i + 16 < 31 then t.getD i 0 + 38 * t.getD (i + 16) 0 else t.getD i 0
theorem foldL_eq (t : List Int) (ht : ∀ n, n < 31 → -18014398509481984 ≤ t.getD n 0 ∧ t.getD n 0 ≤ 18014398509481984) : foldL t = (List.range 16).map (foldE t) := by
  have := upTo_set (foldE t) (foldF t) (List.replicate 16 0) 16 (by simp) (fun k l hk hl hd => by
    have hk1 := ht k (by omega)
    rw [foldF, foldE]
    by_cases h : k + 16 < 31
    · have hk2 := ht (k + 16) (by omega)
      rw [if_pos h, if_pos h, wrap64_id (38 * t.getD (k + 16) 0) (by omega) (by omega), wrap64_id _ (by omega) (by omega)]
    · rw [if_neg h, if_neg h]) 16 (Nat.le_refl _)
  rw [foldL, this]
  simp
theorem foldL_within (t : List Int) (ht : ∀ n, n < 31 → -18014398509481984 ≤ t.getD n 0 ∧ t.getD n 0 ≤ 18014398509481984) : within 1152921504606846976 (foldL t) := by
  refine ⟨foldL_length t, fun i hi => ?_⟩
  have hk1 := ht i (by omega)
  have e : (foldL t).getD i 0 = foldE t i := by
    rw [foldL_eq t ht]
    simp [List.getD_eq_getElem?_getD, List.getElem?_map, List.getElem?_range, hi]
  rw [e, foldE]
  by_cases h : i + 16 < 31
  · have hk2 := ht (i + 16) (by omega)
    rw [if_pos h]
    omega
  · rw [if_neg h]
    omega
theorem foldL_val (t : List Int) (hl : t.length = 31) (ht : ∀ n, n < 31 → -18014398509481984 ≤ t.getD n 0 ∧ t.getD n 0 ≤ 18014398509481984) : ∃ c, valN (foldL t) = valN t - ((65536 : Int) ^ 16 - (38 : Int)) * c := by
  rw [foldL_eq t ht]
  match t, hl with
  | [a0, a1, a2, a3, a4, a5, a6, a7, a8, a9, a10, a11, a12, a13, a14, a15, a16, a17, a18, a19, a20, a21, a22, a23, a24, a25, a26, a27, a28, a29, a30], _ =>
    refine ⟨valN [a16, a17, a18, a19, a20, a21, a22, a23, a24, a25, a26, a27, a28, a29, a30], ?_⟩
    simp only [show List.range 16 = [0, 1, 2, 3, 4, 5, 6, 7, 8, 9, 10, 11, 12, 13, 14, 15] from rfl, List.map_cons, List.map_nil, foldE, valN]
    simp
    grind
/-- parts as a product leaves them -/
def red (l : List Int) : Prop := l.length = 16 ∧ ∀ i, i < 16 → -76 ≤ l.getD i 0 ∧ l.getD i 0 ≤ 65611
theorem red_within (l : List Int) (h : red l) : within 33554432 l := ⟨h.1, fun i hi => by have := h.2 i hi; omega⟩
def bA (k : Nat) : Int := if k = 0 then 0 else 35184372088832
def mB (k : Nat) : Int := if k = 0 then 2251799813685248 else 65535
def bB (k : Nat) : Int := if k = 0 then 0 else if k = 1 then 68719476736 else if k = 2 then 2097152 else if k = 3 then 64 else 2
theorem twice_spec (xs : List Int) (hx : within 1152921504606846976 xs) : red (carriedL (carriedL xs)) ∧ ∃ c, valN (carriedL (carriedL xs)) = valN xs - ((65536 : Int) ^ 16 - (38 : Int)) * c := by
  obtain ⟨h1, ⟨c1, h2⟩, h3, h4, h5⟩ := carriedL_spec xs hx (fun _ => 1152921504606846976) bA (fun i hi => hx.2 i hi) rfl (fun i hi => by
    have e1 : bA (i + 1) = 35184372088832 := by simp [bA]
    have e2 : bA i ≤ 35184372088832 := by unfold bA; split <;> decide
    show (1152921504606846976 + bA i) / 65536 + 1 ≤ bA (i + 1)
    omega)
  simp only [bA] at h4 h5
  rw [if_neg (by decide)] at h4 h5
  have hw : within 1152921504606846976 (carriedL xs) := ⟨h1, fun i hi => by
    by_cases h : i = 0
    · subst h
      omega
    · have := h3 i (by omega) hi
      omega⟩
  obtain ⟨g1, ⟨c2, g2⟩, g3, g4, g5⟩ := carriedL_spec (carriedL xs) hw mB bB (fun i hi => by
    by_cases h : i = 0
    · subst h
      simp only [mB, if_true]
      omega
    · have := h3 i (by omega) hi
      simp only [mB, if_neg h]
      omega) rfl (fun i hi => by
    simp only [mB, bB]
    repeat' split
    all_goals omega)
  simp only [bB] at g4 g5
  rw [if_neg (by decide), if_neg (by decide), if_neg (by decide), if_neg (by decide)] at g4 g5
  refine ⟨⟨g1, fun i hi => ?_⟩, c1 + c2, ?_⟩
  · by_cases h : i = 0
    · subst h
      omega
    · have := g3 i (by omega) hi
      omega
  · rw [g2, h2]
    grind
theorem timesL_spec (xs ys : List Int) (hx : within 33554432 xs) (hy : within 33554432 ys) : red (timesL xs ys) ∧ ∃ c, valN (timesL xs ys) = valN xs * valN ys - ((65536 : Int) ^ 16 - (38 : Int)) * c := by
  obtain ⟨h1, h2, h3⟩ := prodL_spec xs ys hx hy
  obtain ⟨c1, h4⟩ := foldL_val _ h1 h3
  obtain ⟨h5, c2, h6⟩ := twice_spec _ (foldL_within _ h3)
  exact ⟨h5, c1 + c2, by rw [timesL, h6, h4, h2]; grind⟩
end Go.Proofs.Ytohhiibgjcbpiaa
