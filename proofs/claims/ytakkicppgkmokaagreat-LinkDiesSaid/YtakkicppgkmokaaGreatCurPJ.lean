/- Plain laws of elements: under bounds the machine's sums and differences are those of integers. -/
import Derived.Test.YtakkicppgkmokaaGreatJ27
set_option linter.unusedSimpArgs false
set_option linter.unusedVariables false
namespace Go.Proofs.YtakkicppgkmokaaGreat
open Go.RowKit
theorem wrap64_id (n : Int) (h0 : -9223372036854775808 ≤ n) (h1 : n < 9223372036854775808) : wrap64 n = n := by
 unfold wrap64
 omega
theorem upTo_set (g : Nat → Int) (F : Nat → List Int → List Int) (xs : List Int) (n : Nat) (hn : n ≤ xs.length)
  (hF : ∀ k l, k < n → l.length = xs.length → l.drop k = xs.drop k → F k l = l.set k (g k)) :
  ∀ k, k ≤ n → upTo F k xs = (List.range k).map g ++ xs.drop k := by
 intro k
 induction k with
 | zero => intro _; simp [upTo]
 | succ k ih =>
  intro hk
  have hi := ih (by omega)
  rw [upTo, hi, hF k _ (by omega) (by simp; omega) (by rw [List.drop_left' (by simp)])]
  rw [List.set_append_right _ _ (by simp), List.range_succ, List.map_append]
  have h2 : k < xs.length := by omega
  have h3 : (xs.drop k).set 0 (g k) = g k :: xs.drop (k + 1) := by rw [List.drop_eq_getElem_cons h2]; rfl
  simp [h3]
theorem plusL_eq (xs ys : List Int) (hx : xs.length = 16) (hb : ∀ i, i < 16 → -9223372036854775808 ≤ xs.getD i 0 + ys.getD i 0 ∧ xs.getD i 0 + ys.getD i 0 < 9223372036854775808) :
  plusL xs ys = (List.range 16).map fun i => xs.getD i 0 + ys.getD i 0 := by
 have := upTo_set (fun i => xs.getD i 0 + ys.getD i 0) (plusF ys) xs 16 (by omega) (fun k l hk hl hd => by
  have hg : l.getD k 0 = xs.getD k 0 := by
   have := congrArg (fun q => q.getD 0 0) hd
   simpa [List.getD_eq_getElem?_getD] using this
  rw [plusF, hg, wrap64_id _ (hb k hk).1 (hb k hk).2]) 16 (Nat.le_refl _)
 rw [plusL, this, List.drop_of_length_le (by omega), List.append_nil]
theorem lessL_eq (xs ys : List Int) (hx : xs.length = 16) (hb : ∀ i, i < 16 → -9223372036854775808 ≤ xs.getD i 0 - ys.getD i 0 ∧ xs.getD i 0 - ys.getD i 0 < 9223372036854775808) :
  lessL xs ys = (List.range 16).map fun i => xs.getD i 0 - ys.getD i 0 := by
 have := upTo_set (fun i => xs.getD i 0 - ys.getD i 0) (lessF ys) xs 16 (by omega) (fun k l hk hl hd => by
  have hg : l.getD k 0 = xs.getD k 0 := by
   have := congrArg (fun q => q.getD 0 0) hd
   simpa [List.getD_eq_getElem?_getD] using this
  rw [lessF, hg, wrap64_id _ (hb k hk).1 (hb k hk).2]) 16 (Nat.le_refl _)
 rw [lessL, this, List.drop_of_length_le (by omega), List.append_nil]
def valN : List Int → Int
 | [] => 0
 | x :: l => x + 65536 * valN l
theorem valN_set (l : List Int) (i : Nat) (v : Int) (h : i < l.length) : valN (l.set i v) = valN l + 65536 ^ i * (v - l[i]) := by
 induction l generalizing i with
 | nil => simp at h
 | cons x l ih =>
  cases i with
  | zero => simp [valN]; omega
  | succ i =>
   simp only [List.set_cons_succ, valN, List.getElem_cons_succ]
   rw [ih i (by simpa using h), Int.pow_succ]
   grind
theorem wholeF_eq (i : Nat) (l : List Int) (hi : i + 1 < l.length) (h0 : -4611686018427387904 ≤ l[i]) (h1 : l[i] < 4611686018427387904) (h2 : -4611686018427387904 ≤ l[i + 1]) (h3 : l[i + 1] < 4611686018427387904) :
  wholeF i l = (l.set i (l[i] % 65536)).set (i + 1) (l[i + 1] + l[i] / 65536) := by
 have g1 : l.getD i 0 = l[i] := by simp [List.getD_eq_getElem?_getD, show i < l.length by omega]
 have g2 : l.getD (i + 1) 0 = l[i + 1] := by simp [List.getD_eq_getElem?_getD, hi]
 rw [wholeF, g1, g2, wrap64_id (l[i] / 65536 * 65536) (by omega) (by omega), wrap64_id (l[i] - l[i] / 65536 * 65536) (by omega) (by omega), wrap64_id (l[i + 1] + l[i] / 65536) (by omega) (by omega)]
 congr 2
 omega
theorem wholeF_val (i : Nat) (l : List Int) (hi : i + 1 < l.length) : valN ((l.set i (l[i] % 65536)).set (i + 1) (l[i + 1] + l[i] / 65536)) = valN l := by
 rw [valN_set _ _ _ (by simpa using hi), valN_set _ _ _ (by omega)]
 have h : (l.set i (l[i] % 65536))[i + 1]'(by simpa using hi) = l[i + 1] := by simp
 rw [h, Int.pow_succ]
 have h2 : l[i] % 65536 = l[i] - 65536 * (l[i] / 65536) := by omega
 rw [h2]
 grind
theorem lastF_val (l : List Int) (hl : l.length = 16) : valN ((l.set 15 (l[15] % (65536 : Int))).set 0 (l[0] + (38 : Int) * (l[15] / (65536 : Int)))) = valN l - ((65536 : Int) ^ 16 - (38 : Int)) * (l[15] / (65536 : Int)) := by
 rw [valN_set _ _ _ (by simp; omega), valN_set _ _ _ (by omega)]
 have h : (l.set 15 (l[15] % (65536 : Int)))[0]'(by simp; omega) = l[0] := by simp
 rw [h]
 have h2 : l[15] % (65536 : Int) = l[15] - (65536 : Int) * (l[15] / (65536 : Int)) := by omega
 rw [h2]
 grind
theorem getD_set (l : List Int) (i j : Nat) (v : Int) (h : i < l.length) : (l.set i v).getD j 0 = if i = j then v else l.getD j 0 := by
 simp only [List.getD_eq_getElem?_getD, List.getElem?_set]
 by_cases hij : i = j
 ·
  subst hij
  simp [h]
 ·
  simp [hij]
theorem getD_get (l : List Int) (i : Nat) (h : i < l.length) : l[i] = l.getD i 0 := by simp [List.getD_eq_getElem?_getD, h]
def within (B : Int) (l : List Int) : Prop := l.length = 16 ∧ ∀ i, i < 16 → -B ≤ l.getD i 0 ∧ l.getD i 0 ≤ B
theorem whole_inv (xs : List Int) (hx : within 1152921504606846976 xs) : ∀ k, k ≤ 15 →
  (upTo wholeF k xs).length = 16 ∧ valN (upTo wholeF k xs) = valN xs ∧ (∀ i, i < k → 0 ≤ (upTo wholeF k xs).getD i 0 ∧ (upTo wholeF k xs).getD i 0 < 65536) ∧
   (∀ i, k < i → i < 16 → (upTo wholeF k xs).getD i 0 = xs.getD i 0) ∧ -2305843009213693952 ≤ (upTo wholeF k xs).getD k 0 ∧ (upTo wholeF k xs).getD k 0 ≤ 2305843009213693952 := by
 intro k
 induction k with
 | zero =>
  intro _
  have := hx.2 0 (by omega)
  exact ⟨hx.1, rfl, by intro i hi; omega, fun i _ _ => rfl, by simp only [upTo]; omega, by simp only [upTo]; omega⟩
 | succ k ih =>
  intro hk
  obtain ⟨h1, h2, h3, h4, h5, h6⟩ := ih (by omega)
  rw [upTo]
  generalize upTo wholeF k xs = L at *
  have hn := hx.2 (k + 1) (by omega)
  have h7 := h4 (k + 1) (by omega) (by omega)
  have ek : L[k]'(by omega) = L.getD k 0 := getD_get L k (by omega)
  have ek1 : L[k + 1]'(by omega) = L.getD (k + 1) 0 := getD_get L (k + 1) (by omega)
  rw [wholeF_eq k L (by omega) (by omega) (by omega) (by omega) (by omega)]
  refine ⟨by simpa using h1, by rw [wholeF_val k L (by omega), h2], ?_, ?_, ?_, ?_⟩
  ·
   intro i hi
   rw [getD_set _ _ _ _ (by simp; omega), getD_set _ _ _ _ (by omega), if_neg (by omega)]
   by_cases hik : k = i
   ·
    rw [if_pos hik]
    omega
   ·
    rw [if_neg hik]
    exact h3 i (by omega)
  ·
   intro i hi hi2
   rw [getD_set _ _ _ _ (by simp; omega), getD_set _ _ _ _ (by omega), if_neg (by omega), if_neg (by omega)]
   exact h4 i (by omega) hi2
  ·
   rw [getD_set _ _ _ _ (by simp; omega), if_pos rfl]
   omega
  ·
   rw [getD_set _ _ _ _ (by simp; omega), if_pos rfl]
   omega
theorem wholeL_spec (xs : List Int) (hx : within 1152921504606846976 xs) : (wholeL xs).length = 16 ∧ valN (wholeL xs) = valN xs ∧ ∀ i, i < 15 → 0 ≤ (wholeL xs).getD i 0 ∧ (wholeL xs).getD i 0 < 65536 := by
 obtain ⟨h1, h2, h3, _⟩ := whole_inv xs hx 15 (by omega)
 exact ⟨h1, h2, h3⟩
theorem upTo_congr {α : Type} {f g : Nat → α → α} {n : Nat} (h : ∀ k x, k < n → f k x = g k x) (x : α) : ∀ k, k ≤ n → upTo f k x = upTo g k x := by
 intro k
 induction k with
 | zero => intro _; rfl
 | succ k ih => intro hk; rw [upTo, upTo, ih (by omega), h k _ (by omega)]
theorem carried_whole (xs : List Int) : upTo carriedF 15 xs = wholeL xs := by
 refine upTo_congr (n := 15) (fun k l hk => ?_) xs 15 (Nat.le_refl _)
 rw [carriedF, if_pos (by omega), wholeF]
theorem whole_bound (xs : List Int) (hx : within 1152921504606846976 xs) (M b : Nat → Int) (hM : ∀ i, i < 16 → -(M i) ≤ xs.getD i 0 ∧ xs.getD i 0 ≤ M i) (hb0 : b 0 = 0) (hb : ∀ i, i < 15 → (M i + b i) / 65536 + 1 ≤ b (i + 1)) :
  ∀ k, k ≤ 15 → -(M k + b k) ≤ (upTo wholeF k xs).getD k 0 ∧ (upTo wholeF k xs).getD k 0 ≤ M k + b k := by
 intro k
 induction k with
 | zero =>
  intro _
  have := hM 0 (by omega)
  simp only [upTo]
  omega
 | succ k ih =>
  intro hk
  obtain ⟨h1, h2, h3, h4, h5, h6⟩ := whole_inv xs hx k (by omega)
  have hi := ih (by omega)
  have hbk := hb k (by omega)
  have hn := hM (k + 1) (by omega)
  have hn2 := hx.2 (k + 1) (by omega)
  rw [upTo]
  generalize upTo wholeF k xs = L at *
  have h7 := h4 (k + 1) (by omega) (by omega)
  have ek : L[k]'(by omega) = L.getD k 0 := getD_get L k (by omega)
  have ek1 : L[k + 1]'(by omega) = L.getD (k + 1) 0 := getD_get L (k + 1) (by omega)
  rw [wholeF_eq k L (by omega) (by omega) (by omega) (by omega) (by omega), getD_set _ _ _ _ (by simp; omega), if_pos rfl]
  omega
theorem carriedL_spec (xs : List Int) (hx : within 1152921504606846976 xs) (M b : Nat → Int) (hM : ∀ i, i < 16 → -(M i) ≤ xs.getD i 0 ∧ xs.getD i 0 ≤ M i) (hb0 : b 0 = 0) (hb : ∀ i, i < 16 → (M i + b i) / 65536 + 1 ≤ b (i + 1)) :
  (carriedL xs).length = 16 ∧ (∃ c, valN (carriedL xs) = valN xs - ((65536 : Int) ^ 16 - (38 : Int)) * c) ∧ (∀ i, 0 < i → i < 16 → 0 ≤ (carriedL xs).getD i 0 ∧ (carriedL xs).getD i 0 < 65536) ∧
   -(38 * b 16) ≤ (carriedL xs).getD 0 0 ∧ (carriedL xs).getD 0 0 ≤ 65535 + 38 * b 16 := by
 obtain ⟨h1, h2, h3, h4, h5, h6⟩ := whole_inv xs hx 15 (by omega)
 have hbd := whole_bound xs hx M b hM hb0 (fun i hi => hb i (by omega)) 15 (by omega)
 have hb15 : (M 15 + b 15) / 65536 + 1 ≤ b 16 := hb 15 (by omega)
 have hw : carriedL xs = carriedF 15 (wholeL xs) := by rw [carriedL, upTo, carried_whole]
 rw [hw]
 rw [show upTo wholeF 15 xs = wholeL xs from rfl] at h1 h2 h3 h4 h5 h6 hbd
 generalize wholeL xs = L at *
 have e15 : L[15]'(by omega) = L.getD 15 0 := getD_get L 15 (by omega)
 have e0 : L[0]'(by omega) = L.getD 0 0 := getD_get L 0 (by omega)
 have h30 := h3 0 (by omega)
 have w1 : wrap64 (L.getD 15 0 / 65536 * 65536) = L.getD 15 0 / 65536 * 65536 := wrap64_id _ (by omega) (by omega)
 have w2 : wrap64 (L.getD 15 0 - L.getD 15 0 / 65536 * 65536) = L.getD 15 0 % 65536 := by rw [wrap64_id _ (by omega) (by omega)]; omega
 have w3 : wrap64 (38 * (L.getD 15 0 / 65536)) = 38 * (L.getD 15 0 / 65536) := wrap64_id _ (by omega) (by omega)
 have w4 : wrap64 (L.getD 0 0 + 38 * (L.getD 15 0 / 65536)) = L.getD 0 0 + 38 * (L.getD 15 0 / 65536) := wrap64_id _ (by omega) (by omega)
 have heq : carriedF 15 L = (L.set 15 (L[15]'(by omega) % (65536 : Int))).set 0 (L[0]'(by omega) + (38 : Int) * (L[15]'(by omega) / (65536 : Int))) := by
  rw [carriedF, if_neg (by omega), w1, w2, w3, w4, e15, e0]
 clear w1 w2 w3 w4
 rw [heq]
 refine ⟨by simpa using h1, ⟨_, by rw [lastF_val L h1, h2]⟩, ?_, ?_, ?_⟩
 ·
  intro i hi hi2
  rw [getD_set _ _ _ _ (by simp; omega), if_neg (by omega), getD_set _ _ _ _ (by omega)]
  by_cases h : 15 = i
  ·
   rw [if_pos h]
   omega
  ·
   rw [if_neg h]
   exact h3 i (by omega)
 ·
  rw [getD_set _ _ _ _ (by simp; omega), if_pos rfl]
  omega
 ·
  rw [getD_set _ _ _ _ (by simp; omega), if_pos rfl]
  omega
end Go.Proofs.YtakkicppgkmokaaGreat
