/- Plain laws of package curve: an element's key is that of its number modulo p; a key's element is its number. -/
import Derived.Test.YtohhiibgjcbpiaaCurV
set_option linter.unusedSimpArgs false
set_option linter.unusedVariables false
namespace Go.Proofs.Ytohhiibgjcbpiaa
open Go.RowKit
/-- all parts from 0 to below 2^16 -/
def digs (l : List Int) : Prop := l.length = 16 ∧ ∀ i, i < 16 → 0 ≤ l.getD i 0 ∧ l.getD i 0 < 65536
def dig (v : Int) : List Int := (List.range 16).map fun i => v / 65536 ^ i % 65536
theorem dig_length (v : Int) : (dig v).length = 16 := by simp [dig]
theorem dig_get (v : Int) (i : Nat) (h : i < 16) : (dig v).getD i 0 = v / 65536 ^ i % 65536 := by
  simp [dig, List.getD_eq_getElem?_getD, h]
theorem digs_dig (l : List Int) (h : digs l) : l = dig (valN l) := by
  apply List.ext_getElem (by rw [h.1, dig_length])
  intro i h1 h2
  have hi : i < 16 := by rw [h.1] at h1; exact h1
  have h3 := digit l (fun j hj => h.2 j (by rw [h.1] at hj; exact hj)) i h1
  have h4 := dig_get (valN l) i hi
  rw [getD_get _ _ h1, getD_get _ _ h2, h3, h4]
theorem p15 : (65536 : Int) ^ 15 = 1766847064778384329583297500742918515827483896875618958121606201292619776 := by decide +kernel
theorem endL_spec (xs : List Int) (h : red xs) : digs (endL xs) ∧ valN (endL xs) = valN xs % pN := by
  obtain ⟨hn, h0, h1, c, hc⟩ := topL_spec xs h
  generalize hT : topL xs = T at *
  have hl := hn.1
  have hv := norm_val T hn
  rw [p15] at hv
  have h15 : 0 ≤ T.getD 15 0 ∧ T.getD 15 0 < 32768 := by omega
  have hd : digs T := ⟨hl, fun i hi => by
    by_cases e : i = 15
    · subst e; omega
    · exact hn.2.1 i (by omega)⟩
  have hT0 := hd.2 0 (by omega)
  have hw : within 1152921504606846976 (T.set 0 (T.getD 0 0 + 19)) := ⟨by simpa using hl, fun i hi => by
    rw [getD_set _ _ _ _ (by omega)]
    have := hd.2 i hi
    split <;> omega⟩
  obtain ⟨g1, g2, g3⟩ := wholeL_spec _ hw
  have hY : lessPY T = wholeL (T.set 0 (T.getD 0 0 + 19)) := by rw [lessPY, wrap64_id _ (by omega) (by omega)]
  have gv : valN (T.set 0 (T.getD 0 0 + 19)) = valN T + 19 := by
    rw [valN_set _ _ _ (by omega), getD_get _ _ (by omega)]
    simp
    omega
  rw [← hY] at g1 g2 g3
  rw [gv] at g2
  have hlp := last_part (lessPY T) g1 g3
  rw [p15] at hlp
  have hE : endL xs = if lessPB T then lessPL T else T := by rw [endL, hT]
  have hmod : valN T % pN = valN xs % pN := by rw [hc, Int.sub_mul_emod_self_left]
  rw [hE, ← hmod]
  have hB : lessPB T = !((lessPY T).getD 15 0 / 32768 == 0) := rfl
  have hL : lessPL T = if (lessPY T).getD 15 0 / 32768 = 0 then lessPY T else (lessPY T).set 15 (wrap64 ((lessPY T).getD 15 0 - 32768)) := rfl
  rw [hB, hL]
  clear hB hL hE
  generalize lessPY T = Y at *
  by_cases hb : Y.getD 15 0 / 32768 = 0
  · rw [hb]
    simp only [beq_self_eq_true, Bool.not_true, Bool.false_eq_true, if_false]
    refine ⟨hd, ?_⟩
    rw [Int.emod_eq_of_lt h0]
    unfold pN
    omega
  · have h32 : Y.getD 15 0 = 32768 := by omega
    rw [if_neg hb, h32]
    rw [show (!((32768 : Int) / 32768 == 0)) = true by decide, if_pos rfl, show wrap64 ((32768 : Int) - 32768) = 0 by decide +kernel]
    refine ⟨⟨by simpa using g1, fun i hi => ?_⟩, ?_⟩
    · rw [getD_set _ _ _ _ (by omega)]
      by_cases e : 15 = i
      · rw [if_pos e]; omega
      · rw [if_neg e]; exact g3 i (by omega)
    · rw [valN_set _ _ _ (by omega), getD_get _ _ (by omega), h32, p15, g2]
      have : valN T % pN = valN T - pN := by
        rw [← Int.sub_emod_right, Int.emod_eq_of_lt (by unfold pN; omega) (by unfold pN; omega)]
      rw [this]
      unfold pN
      omega
/-- a number's key -/
def keyV (v : Int) : List UInt8 := upTo (keyF (dig v)) 16 (List.replicate 32 0)
theorem keyL_eq (xs : List Int) (h : red xs) : keyL xs = keyV (valN xs % pN) := by
  obtain ⟨h1, h2⟩ := endL_spec xs h
  rw [keyL, keyV, ← h2, ← digs_dig _ h1]
theorem keyV_length (v : Int) : (keyV v).length = 32 := by rw [keyV, upTo_len8 (keyF_length _)]; simp
theorem keyV_at (ys : List Int) : ∀ k, k ≤ 16 → ∀ j, j < k → (upTo (keyF ys) k (List.replicate 32 0)).getD (2 * j) 0 = byteI (ys.getD j 0) ∧ (upTo (keyF ys) k (List.replicate 32 0)).getD (2 * j + 1) 0 = byteI (ys.getD j 0 / 256) := by
  intro k
  induction k with
  | zero => intro _ j h; omega
  | succ k ih =>
    intro hk j hj
    have hl : (upTo (keyF ys) k (List.replicate 32 0)).length = 32 := by rw [upTo_len8 (keyF_length _)]; simp
    rw [upTo]
    have hih := ih (by omega) j
    generalize upTo (keyF ys) k (List.replicate 32 0) = M at *
    by_cases e : j = k
    · subst e
      simp only [keyF, List.getD_eq_getElem?_getD, List.getElem?_set, List.length_set, hl]
      simp [show 2 * j < 32 by omega, show 2 * j + 1 < 32 by omega]
    · have := hih (by omega)
      simp only [List.getD_eq_getElem?_getD] at this
      simp only [keyF, List.getD_eq_getElem?_getD, List.getElem?_set, List.length_set, hl]
      simp [show ¬ 2 * k = 2 * j by omega, show ¬ 2 * k + 1 = 2 * j by omega, show ¬ 2 * k = 2 * j + 1 by omega, show ¬ 2 * k + 1 = 2 * j + 1 by omega, show ¬ k = j by omega, this]
theorem ofL_eq (l : List UInt8) : ofL l = (List.range 16).map fun i => if i = 15 then (byteAt l 30 + byteAt l 31 * 256) % 32768 else byteAt l (2 * i) + byteAt l (2 * i + 1) * 256 := by
  have := upTo_set (fun i => byteAt l (2 * i) + byteAt l (2 * i + 1) * 256) (ofF l) (List.replicate 16 0) 16 (by simp) (fun k x _ _ _ => rfl) 16 (Nat.le_refl _)
  unfold ofL
  simp only [this]
  apply List.ext_getElem (by simp)
  intro i h1 h2
  simp only [List.getElem_set]
  have hi : i < 16 := by simpa using h2
  by_cases e : i = 15
  · subst e
    simp [List.getD_eq_getElem?_getD]
  · simp [show ¬ 15 = i by omega, e, List.getElem_append, hi]
theorem byteAt_bd (l : List UInt8) (i : Nat) : 0 ≤ byteAt l i ∧ byteAt l i < 256 := by
  unfold byteAt
  have := (l.getD i 0).toNat_lt
  omega
theorem ofL_get (l : List UInt8) (i : Nat) (hi : i < 16) : (ofL l).getD i 0 = if i = 15 then (byteAt l 30 + byteAt l 31 * 256) % 32768 else byteAt l (2 * i) + byteAt l (2 * i + 1) * 256 := by
  rw [ofL_eq]
  simp [List.getD_eq_getElem?_getD, hi]
theorem ofL_digs (l : List UInt8) : digs (ofL l) := ⟨ofL_length l, fun i hi => by
  rw [ofL_get l i hi]
  have h1 := byteAt_bd l (2 * i)
  have h2 := byteAt_bd l (2 * i + 1)
  split <;> omega⟩
theorem red_digs {l : List Int} (h : digs l) : red l := ⟨h.1, fun i hi => by have := h.2 i hi; omega⟩
theorem ofL_red (l : List UInt8) : red (ofL l) := red_digs (ofL_digs l)
theorem ofL_keyV (v : Int) (h0 : 0 ≤ v) (h1 : v < 57896044618658097711785492504343953926634992332820282019728792003956564819968) : ofL (keyV v) = dig v := by
  apply List.ext_getElem (by rw [ofL_length, dig_length])
  intro i h2 h3
  have hi : i < 16 := by rw [dig_length] at h3; exact h3
  rw [getD_get _ _ h2, getD_get _ _ h3, ofL_get _ _ hi, dig_get _ _ hi]
  have hk := fun j (hj : j < 16) => keyV_at (dig v) 16 (Nat.le_refl _) j hj
  have hb : ∀ j, j < 16 → byteAt (keyV v) (2 * j) + byteAt (keyV v) (2 * j + 1) * 256 = v / 65536 ^ j % 65536 := by
    intro j hj
    obtain ⟨a1, a2⟩ := hk j hj
    unfold byteAt
    rw [keyV, a1, a2, byteI_toNat, byteI_toNat, dig_get _ _ hj]
    omega
  by_cases e : i = 15
  · subst e
    rw [if_pos rfl]
    have := hb 15 (by omega)
    simp only [Nat.reduceMul, Nat.reduceAdd] at this
    rw [this, p15]
    omega
  · rw [if_neg e, hb i hi]
theorem valN_dig (v : Int) (h0 : 0 ≤ v) (h1 : v < 57896044618658097711785492504343953926634992332820282019728792003956564819968) : valN (dig v) = v := by
  have : ∀ n : Nat, ∀ u : Int, 0 ≤ u → u < 65536 ^ n → valN ((List.range n).map fun i => u / 65536 ^ i % 65536) = u := by
    intro n
    induction n with
    | zero => intro u a b; simp [valN] at *; omega
    | succ n ih =>
      intro u a b
      rw [List.range_succ_eq_map, List.map_cons, List.map_map, valN]
      have e : ((fun i => u / 65536 ^ i % 65536) ∘ Nat.succ) = fun i => u / 65536 / 65536 ^ i % 65536 := by
        funext i
        simp only [Function.comp, Nat.succ_eq_add_one]
        rw [Int.pow_succ, Int.mul_comm, Int.ediv_ediv_of_nonneg (by decide)]
      rw [e, ih (u / 65536) (by omega) (by rw [Int.pow_succ] at b; omega)]
      simp
      omega
  exact this 16 v h0 (by rw [show (65536 : Int) ^ 16 = 115792089237316195423570985008687907853269984665640564039457584007913129639936 by decide +kernel]; omega)
/-- the number of a key -/
def numK (l : List UInt8) : Int := valN (ofL l)
theorem numK_keyV (v : Int) (h0 : 0 ≤ v) (h1 : v < pN) : numK (keyV v) = v := by
  have h2 : v < 57896044618658097711785492504343953926634992332820282019728792003956564819968 := by unfold pN at h1; omega
  rw [numK, ofL_keyV v h0 h2, valN_dig v h0 h2]
theorem mod_bd (v : Int) : 0 ≤ v % pN ∧ v % pN < pN := ⟨Int.emod_nonneg _ (by decide +kernel), Int.emod_lt_of_pos _ (by decide +kernel)⟩
theorem mulK_eq (a b : List UInt8) : mulK a b = keyV (numK a * numK b % pN) := by
  obtain ⟨h1, c, h2⟩ := timesL_spec _ _ (red_within _ (ofL_red a)) (red_within _ (ofL_red b))
  rw [mulK, keyL_eq _ h1, h2, two_p, Int.mul_assoc, Int.mul_comm, Int.mul_comm pN, ← Int.mul_assoc]
  rw [Int.sub_mul_emod_self_right]
  rw [numK, numK, Int.mul_comm]
end Go.Proofs.Ytohhiibgjcbpiaa
