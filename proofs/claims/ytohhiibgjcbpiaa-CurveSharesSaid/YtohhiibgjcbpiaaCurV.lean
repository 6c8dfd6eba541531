/- Plain laws of elements: the key of an element is its value's bytes, modulo p. -/
import Derived.Test.YtohhiibgjcbpiaaCurQ
set_option linter.unusedSimpArgs false
set_option linter.unusedVariables false
namespace Go.Proofs.Ytohhiibgjcbpiaa
open Go.RowKit
def pN : Int := 57896044618658097711785492504343953926634992332820282019728792003956564819949
theorem pN_eq : pN = 2 ^ 255 - 19 := by decide +kernel
theorem two_p : (65536 : Int) ^ 16 - (38 : Int) = 2 * pN := by decide +kernel
/-- parts that lie within 16 bits are the value's -/
theorem digit (l : List Int) (h : ∀ i, i < l.length → 0 ≤ l.getD i 0 ∧ l.getD i 0 < 65536) : ∀ i, i < l.length → l.getD i 0 = valN l / 65536 ^ i % 65536 := by
  induction l with
  | nil => intro i hi; simp at hi
  | cons x l ih =>
    intro i hi
    have hx := h 0 (by simp)
    simp at hx
    have hl : ∀ i, i < l.length → 0 ≤ l.getD i 0 ∧ l.getD i 0 < 65536 := fun i hi => by
      have := h (i + 1) (by simp; omega)
      simpa using this
    cases i with
    | zero =>
      simp [valN]
      omega
    | succ i =>
      have hi2 : i < l.length := by simpa using hi
      have := ih hl i hi2
      have e : valN (x :: l) / 65536 ^ (i + 1) = valN l / 65536 ^ i := by
        rw [valN, Int.pow_succ, Int.mul_comm (65536 ^ i) 65536, ← Int.ediv_ediv_of_nonneg (by omega)]
        congr 1
        omega
      rw [e]
      simpa using this
theorem valN_bound (l : List Int) (h : ∀ i, i < l.length → 0 ≤ l.getD i 0 ∧ l.getD i 0 < 65536) : 0 ≤ valN l ∧ valN l < 65536 ^ l.length := by
  induction l with
  | nil => simp [valN]
  | cons x l ih =>
    have hx := h 0 (by simp)
    simp at hx
    have := ih (fun i hi => by
      have := h (i + 1) (by simp; omega)
      simpa using this)
    simp only [valN, List.length_cons, Int.pow_succ]
    omega
/-- the last part, where the others lie within 16 bits -/
theorem last_part (l : List Int) (hl : l.length = 16) (h : ∀ i, i < 15 → 0 ≤ l.getD i 0 ∧ l.getD i 0 < 65536) : 65536 ^ 15 * l.getD 15 0 ≤ valN l ∧ valN l < 65536 ^ 15 * l.getD 15 0 + 65536 ^ 15 := by
  have e : l = l.take 15 ++ [l.getD 15 0] := by
    have h15 : 15 < l.length := by omega
    conv => lhs; rw [← List.take_append_drop 15 l, List.drop_eq_getElem_cons h15, List.drop_of_length_le (by omega)]
    rw [getD_get l 15 h15]
  have hb := valN_bound (l.take 15) (fun i hi => by
    have hi2 : i < 15 := by simp at hi; omega
    have := h i hi2
    have e : (l.take 15).getD i 0 = l.getD i 0 := by simp [List.getD_eq_getElem?_getD, List.getElem?_take, hi2]
    omega)
  have ht : (l.take 15).length = 15 := by simp; omega
  rw [ht] at hb
  have ev : valN l = valN (l.take 15) + 65536 ^ 15 * l.getD 15 0 := by
    conv => lhs; rw [e, valN_snoc, ht]
  omega
/-- parts within 16 bits, but the last, which is small -/
def norm (l : List Int) : Prop := l.length = 16 ∧ (∀ i, i < 15 → 0 ≤ l.getD i 0 ∧ l.getD i 0 < 65536) ∧ -1099511627776 ≤ l.getD 15 0 ∧ l.getD 15 0 ≤ 1099511627776
theorem high_eq (l : List Int) (h : norm l) : l.getD 15 0 / 32768 = valN l / 57896044618658097711785492504343953926634992332820282019728792003956564819968 := by
  have := last_part l h.1 h.2.1
  have e : (65536 : Int) ^ 15 = 1766847064778384329583297500742918515827483896875618958121606201292619776 := by decide +kernel
  rw [e] at this
  omega
theorem topF_eq (k : Nat) (l : List Int) (h : norm l) : topF k l = wholeL ((l.set 15 (l.getD 15 0 % 32768)).set 0 (l.getD 0 0 + 19 * (l.getD 15 0 / 32768))) := by
  obtain ⟨h1, h2, h3, h4⟩ := h
  have h0 := h2 0 (by omega)
  have w1 : wrap64 (l.getD 15 0 / 32768 * 32768) = l.getD 15 0 / 32768 * 32768 := wrap64_id _ (by omega) (by omega)
  have w2 : wrap64 (l.getD 15 0 - l.getD 15 0 / 32768 * 32768) = l.getD 15 0 % 32768 := by rw [wrap64_id _ (by omega) (by omega)]; omega
  have w3 : wrap64 (19 * (l.getD 15 0 / 32768)) = 19 * (l.getD 15 0 / 32768) := wrap64_id _ (by omega) (by omega)
  have w4 : wrap64 (l.getD 0 0 + 19 * (l.getD 15 0 / 32768)) = l.getD 0 0 + 19 * (l.getD 15 0 / 32768) := wrap64_id _ (by omega) (by omega)
  have g : (l.set 15 (l.getD 15 0 % 32768)).getD 0 0 = l.getD 0 0 := by rw [getD_set _ _ _ _ (by omega), if_neg (by omega)]
  simp only [topF, w1, w2, w3, g, w4]
theorem topF_spec (k : Nat) (l : List Int) (h : norm l) : norm (topF k l) ∧ valN (topF k l) = valN l - pN * (valN l / 57896044618658097711785492504343953926634992332820282019728792003956564819968) := by
  rw [topF_eq k l h, ← high_eq l h]
  obtain ⟨h1, h2, h3, h4⟩ := h
  have h0 := h2 0 (by omega)
  have hg : ∀ i, i < 16 → ((l.set 15 (l.getD 15 0 % 32768)).set 0 (l.getD 0 0 + 19 * (l.getD 15 0 / 32768))).getD i 0 = if 0 = i then l.getD 0 0 + 19 * (l.getD 15 0 / 32768) else if 15 = i then l.getD 15 0 % 32768 else l.getD i 0 := fun i hi => by
    rw [getD_set _ _ _ _ (by simp; omega), getD_set _ _ _ _ (by omega)]
  have hw : within 1152921504606846976 ((l.set 15 (l.getD 15 0 % 32768)).set 0 (l.getD 0 0 + 19 * (l.getD 15 0 / 32768))) := ⟨by simpa using h1, fun i hi => by
    rw [hg i hi]
    by_cases a : 0 = i
    · rw [if_pos a]; omega
    · rw [if_neg a]
      by_cases b : 15 = i
      · rw [if_pos b]; omega
      · rw [if_neg b]
        have := h2 i (by omega)
        omega⟩
  obtain ⟨g1, g2, g3⟩ := wholeL_spec _ hw
  have hbd := whole_bound _ hw (fun i => if i = 0 then 1073741824 else 65536) (fun i => if i = 0 then 0 else 32768) (fun i hi => by
    rw [hg i hi]
    by_cases a : 0 = i
    · subst a; simp only [if_true]; omega
    · rw [if_neg a, if_neg (by omega)]
      by_cases b : 15 = i
      · rw [if_pos b]; omega
      · rw [if_neg b]
        have := h2 i (by omega)
        omega) rfl (fun i hi => by
    show ((if i = 0 then 1073741824 else 65536) + (if i = 0 then 0 else 32768) : Int) / 65536 + 1 ≤ if i + 1 = 0 then 0 else 32768
    rw [if_neg (show ¬ i + 1 = 0 by omega)]
    by_cases a : i = 0
    · rw [if_pos a, if_pos a]; decide
    · rw [if_neg a, if_neg a]; decide) 15 (by omega)
  simp only [show ¬ (15 : Nat) = 0 by omega, if_false] at hbd
  have h15 : 15 < l.length := by omega
  have e0 : (l.set 15 (l.getD 15 0 % 32768))[0]'(by simp; omega) = l.getD 0 0 := by rw [getD_get _ _ (by simp; omega), getD_set _ _ _ _ h15, if_neg (by omega)]
  have e15 : l[15]'h15 = l.getD 15 0 := getD_get l 15 h15
  have hv := wholeL_spec _ hw
  generalize hW : wholeL ((l.set 15 (l.getD 15 0 % 32768)).set 0 (l.getD 0 0 + 19 * (l.getD 15 0 / 32768))) = Y at *
  have hY : upTo wholeF 15 ((l.set 15 (l.getD 15 0 % 32768)).set 0 (l.getD 0 0 + 19 * (l.getD 15 0 / 32768))) = Y := hW
  rw [hY] at hbd
  refine ⟨⟨g1, g3, by omega, by omega⟩, ?_⟩
  rw [g2, valN_set _ _ _ (by simp; omega), valN_set _ _ _ h15, e0, e15, show (65536 : Int) ^ 15 = 1766847064778384329583297500742918515827483896875618958121606201292619776 by decide +kernel, show (65536 : Int) ^ 0 = 1 from rfl, pN]
  omega
theorem red_norm3 (l : List Int) (h : red l) : norm (wholeL (carriedL (carriedL (carriedL l)))) ∧ (-65613 ≤ (wholeL (carriedL (carriedL (carriedL l)))).getD 15 0 ∧ (wholeL (carriedL (carriedL (carriedL l)))).getD 15 0 ≤ 65613) ∧ ∃ c, valN (wholeL (carriedL (carriedL (carriedL l)))) = valN l - 2 * pN * c := by
  have step : ∀ l, red l → red (carriedL l) ∧ ∃ c, valN (carriedL l) = valN l - ((65536 : Int) ^ 16 - (38 : Int)) * c := fun l h => by
    have hw : within 1152921504606846976 l := ⟨h.1, fun i hi => by have := h.2 i hi; omega⟩
    obtain ⟨h1, h2, h3, h4, h5⟩ := carriedL_spec l hw (fun _ => 65611) (fun k => if k = 0 then 0 else 2) (fun i hi => by have := h.2 i hi; omega) rfl (fun i hi => by
      show (65611 + (if i = 0 then 0 else 2) : Int) / 65536 + 1 ≤ if i + 1 = 0 then 0 else 2
      rw [if_neg (show ¬ i + 1 = 0 by omega)]
      by_cases a : i = 0
      · rw [if_pos a]; decide
      · rw [if_neg a]; decide)
    simp only [show ¬ (16 : Nat) = 0 by omega, if_false] at h4 h5
    refine ⟨⟨h1, fun i hi => ?_⟩, h2⟩
    by_cases a : i = 0
    · subst a; omega
    · have := h3 i (by omega) hi; omega
  obtain ⟨a1, c1, b1⟩ := step l h
  obtain ⟨a2, c2, b2⟩ := step _ a1
  obtain ⟨a3, c3, b3⟩ := step _ a2
  have hw : within 1152921504606846976 (carriedL (carriedL (carriedL l))) := ⟨a3.1, fun i hi => by have := a3.2 i hi; omega⟩
  obtain ⟨g1, g2, g3⟩ := wholeL_spec _ hw
  obtain ⟨_, _, _, _, g5, g6⟩ := whole_inv _ hw 15 (by omega)
  have hbd := whole_bound _ hw (fun _ => 65611) (fun k => if k = 0 then 0 else 2) (fun i hi => by have := a3.2 i hi; omega) rfl (fun i hi => by
      show (65611 + (if i = 0 then 0 else 2) : Int) / 65536 + 1 ≤ if i + 1 = 0 then 0 else 2
      rw [if_neg (show ¬ i + 1 = 0 by omega)]
      by_cases a : i = 0
      · rw [if_pos a]; decide
      · rw [if_neg a]; decide) 15 (by omega)
  rw [show upTo wholeF 15 (carriedL (carriedL (carriedL l))) = wholeL (carriedL (carriedL (carriedL l))) from rfl] at hbd
  simp only [show ¬ (15 : Nat) = 0 by omega, if_false] at hbd
  refine ⟨⟨g1, g3, by omega, by omega⟩, ⟨by omega, by omega⟩, c1 + c2 + c3, ?_⟩
  rw [g2, b3, b2, b1, two_p]
  grind
theorem norm_val (l : List Int) (h : norm l) : 65536 ^ 15 * l.getD 15 0 ≤ valN l ∧ valN l < 65536 ^ 15 * l.getD 15 0 + 65536 ^ 15 := last_part l h.1 h.2.1
theorem topL_spec (xs : List Int) (h : red xs) : norm (topL xs) ∧ 0 ≤ valN (topL xs) ∧ valN (topL xs) < 57896044618658097711785492504343953926634992332820282019728792003956564819968 ∧ ∃ c, valN (topL xs) = valN xs - pN * c := by
  obtain ⟨n0, ⟨q1, q2⟩, c, hc⟩ := red_norm3 xs h
  have hb0 := last_part _ n0.1 n0.2.1
  obtain ⟨n1, v1⟩ := topF_spec 0 _ n0
  obtain ⟨n2, v2⟩ := topF_spec 1 _ n1
  have et : topL xs = topF 1 (topF 0 (wholeL (carriedL (carriedL (carriedL xs))))) := by unfold topL; rw [upTo, upTo, upTo]
  rw [et]
  generalize wholeL (carriedL (carriedL (carriedL xs))) = A at *
  rw [show (65536 : Int) ^ 15 = 1766847064778384329583297500742918515827483896875618958121606201292619776 by decide +kernel] at hb0
  generalize valN (topF 1 (topF 0 A)) = V2 at *
  generalize valN (topF 0 A) = V1 at *
  obtain ⟨h0, hh0⟩ : ∃ k, valN A / 57896044618658097711785492504343953926634992332820282019728792003956564819968 = k := ⟨_, rfl⟩
  obtain ⟨h1, hh1⟩ : ∃ k, V1 / 57896044618658097711785492504343953926634992332820282019728792003956564819968 = k := ⟨_, rfl⟩
  rw [hh0] at v1
  rw [hh1] at v2
  refine ⟨n2, ?_, ?_, 2 * c + h0 + h1, ?_⟩
  · simp only [pN] at v1 v2
    omega
  · simp only [pN] at v1 v2
    omega
  · rw [v2, v1, hc]
    grind
end Go.Proofs.Ytohhiibgjcbpiaa
