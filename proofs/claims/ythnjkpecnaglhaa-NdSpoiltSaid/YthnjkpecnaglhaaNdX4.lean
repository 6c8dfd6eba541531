/- Plain facts: a message with one byte changed; its sum is another. No walk here. -/
import Derived.Test.YthnjkpecnaglhaaNdX3
import Derived.Test.YthnjkpecnaglhaaNdF
set_option linter.unusedSimpArgs false
set_option linter.unusedVariables false
namespace Go.Proofs.Ythnjkpecnaglhaa
open Go.RowKit
def sumW (i : Nat) : Nat := if i % 2 = 0 then 256 else 1
def totS (l : List UInt8) : Nat → Nat
  | 0 => 0
  | k + 1 => totS l k + (l.getD k 0).toNat * sumW k
theorem sumStep_mod (n b i : Nat) : sumStep n b i % 65535 = (n + b * sumW i) % 65535 := by
  unfold sumStep sumW
  generalize n + b * (if i % 2 = 0 then 256 else 1) = x
  omega
theorem sumUp_mod (l : List UInt8) (k : Nat) : sumUp l k % 65535 = totS l k % 65535 := by
  induction k with
  | zero => rfl
  | succ k ih =>
    rw [sumUp, sumStep_mod, totS, Nat.add_mod, ih, ← Nat.add_mod]
theorem totS_low (l : List UInt8) (p : Nat) (v : UInt8) (k : Nat) (h : k ≤ p) : totS (l.set p v) k = totS l k := by
  induction k with
  | zero => rfl
  | succ k ih =>
    rw [totS, totS, ih (by omega)]
    congr 3
    rw [List.getD_eq_getElem?_getD, List.getD_eq_getElem?_getD, List.getElem?_set_ne (by omega)]
theorem totS_set (l : List UInt8) (p : Nat) (v : UInt8) (hp : p < l.length) (k : Nat) (h : p < k) : totS (l.set p v) k + l[p].toNat * sumW p = totS l k + v.toNat * sumW p := by
  induction k with
  | zero => omega
  | succ k ih =>
    rw [totS, totS]
    by_cases e : p = k
    · subst e
      rw [totS_low _ _ _ _ (Nat.le_refl _)]
      have e1 : (l.set p v).getD p 0 = v := by rw [List.getD_eq_getElem?_getD, List.getElem?_set_self hp]; rfl
      have e2 : l.getD p 0 = l[p] := by rw [List.getD_eq_getElem?_getD, List.getElem?_eq_getElem hp]; rfl
      rw [e1, e2]
      omega
    · have := ih (by omega)
      have e1 : (l.set p v).getD k 0 = l.getD k 0 := by rw [List.getD_eq_getElem?_getD, List.getD_eq_getElem?_getD, List.getElem?_set_ne e]
      rw [e1]
      omega
theorem sum16_set (l : List UInt8) (p : Nat) (v : UInt8) (hp : p < l.length) (hv : v ≠ l[p]) : sum16 (l.set p v) ≠ sum16 l := by
  intro h
  apply hv
  have h1 := sumUp_le l l.length
  have h2 := sumUp_le (l.set p v) l.length
  have h3 := sumUp_mod l l.length
  have h4 := sumUp_mod (l.set p v) l.length
  have h5 := totS_set l p v hp l.length hp
  unfold sum16 at h
  rw [List.length_set] at h
  have b1 : l[p].toNat < 256 := l[p].toNat_lt
  have b2 : v.toNat < 256 := v.toNat_lt
  apply UInt8.toNat_inj.1
  unfold sumW at h5
  split at h5 <;> omega
theorem vecAt_list (m : List UInt8) (k n : Nat) (h : k + n ≤ m.length) : (vecAt m k n).toList = (m.drop k).take n := vecAt_toList m k n h
theorem msg_zero24 (op : Nat) (mac : Vector UInt8 6) (m : List UInt8) (hl : m.length = 24) (h0 : m[0] = UInt8.ofNat (134 + op)) (h1 : m[1] = 0) :
    msgS op [0, 0] (vecAt m 8 16) mac false (vecAt m 4 4) = (m.set 2 0).set 3 0 := by
  have e8 := vecAt_list m 8 16 (by omega)
  have e4 := vecAt_list m 4 4 (by omega)

  unfold msgS
  rw [e8, e4, ← h0]
  rw [if_neg (by decide)]
  clear e8 e4 h0 
  match m, hl with
  | [a0, a1, a2, a3, a4, a5, a6, a7, a8, a9, a10, a11, a12, a13, a14, a15, a16, a17, a18, a19, a20, a21, a22, a23], _ =>
    have h1 : a1 = 0 := h1
    subst h1
    rfl
theorem msg_zero32 (op : Nat) (mac : Vector UInt8 6) (m : List UInt8) (hl : m.length = 32) (h0 : m[0] = UInt8.ofNat (134 + op)) (h1 : m[1] = 0) (h24 : m[24] = UInt8.ofNat op) (h25 : m[25] = 1) :
    msgS op [0, 0] (vecAt m 8 16) (vecAt m 26 6) true (vecAt m 4 4) = (m.set 2 0).set 3 0 := by
  have e8 := vecAt_list m 8 16 (by omega)
  have e4 := vecAt_list m 4 4 (by omega)
  have e26 := vecAt_list m 26 6 (by omega)
  unfold msgS
  rw [e8, e4, e26, ← h0]
  rw [if_pos rfl, ← h24, ← h25]
  clear e8 e4 h0 e26 h24 h25
  match m, hl with
  | [a0, a1, a2, a3, a4, a5, a6, a7, a8, a9, a10, a11, a12, a13, a14, a15, a16, a17, a18, a19, a20, a21, a22, a23, a24, a25, a26, a27, a28, a29, a30, a31], _ =>
    have h1 : a1 = 0 := h1
    subst h1
    rfl
def zeroed (m : List UInt8) : List UInt8 := (m.set 2 0).set 3 0
theorem zeroed_set (m : List UInt8) (p : Nat) (v : UInt8) (h2 : p ≠ 2) (h3 : p ≠ 3) : zeroed (m.set p v) = (zeroed m).set p v := by
  unfold zeroed
  rw [List.set_comm _ _ h2, List.set_comm _ _ h3]
theorem zeroed_2 (m : List UInt8) (v : UInt8) : zeroed (m.set 2 v) = zeroed m := by
  unfold zeroed
  rw [List.set_set]
theorem zeroed_3 (m : List UInt8) (v : UInt8) : zeroed (m.set 3 v) = zeroed m := by
  unfold zeroed
  rw [List.set_comm _ _ (show 3 ≠ 2 by omega), List.set_set]
theorem zeroed_length (m : List UInt8) : (zeroed m).length = m.length := by simp [zeroed]
theorem zeroed_get (m : List UInt8) (p : Nat) (h2 : p ≠ 2) (h3 : p ≠ 3) : (zeroed m)[p]? = m[p]? := by
  unfold zeroed
  rw [List.getElem?_set_ne (by omega), List.getElem?_set_ne (by omega)]
theorem numAt_two (m : List UInt8) (h : 4 ≤ m.length) : numAt m 2 = m[2].toNat * 256 + m[3].toNat := by
  match m, h with
  | a :: b :: c :: d :: l, _ => simp [numAt, numN]
theorem numAt_other (m : List UInt8) (p : Nat) (v : UInt8) (h : 4 ≤ m.length) (h2 : p ≠ 2) (h3 : p ≠ 3) : numAt (m.set p v) 2 = numAt m 2 := by
  rw [numAt_two _ (by simpa using h), numAt_two _ h, List.getElem_set_ne h2, List.getElem_set_ne h3]
theorem numAt_2 (m : List UInt8) (v : UInt8) (h : 4 ≤ m.length) (hv : v ≠ m[2]) : numAt (m.set 2 v) 2 ≠ numAt m 2 := by
  rw [numAt_two _ (by simpa using h), numAt_two _ h, List.getElem_set_self, List.getElem_set_ne (by omega)]
  intro e
  exact hv (UInt8.toNat_inj.1 (by omega))
theorem numAt_3 (m : List UInt8) (v : UInt8) (h : 4 ≤ m.length) (hv : v ≠ m[3]) : numAt (m.set 3 v) 2 ≠ numAt m 2 := by
  rw [numAt_two _ (by simpa using h), numAt_two _ h, List.getElem_set_self, List.getElem_set_ne (by omega)]
  intro e
  exact hv (UInt8.toNat_inj.1 (by omega))
def preS (fr to : Vector UInt8 16) (n : Nat) : List UInt8 := fr.toList ++ (to.toList ++ (bytesN n 4 ++ [0, 0, 0, 58]))
theorem preS_length (fr to : Vector UInt8 16) (n : Nat) : (preS fr to n).length = 40 := by simp [preS]
/-- one byte changed: what is told is another sum than what is -/
theorem spoilt_sum (fr to : Vector UInt8 16) (n : Nat) (m : List UInt8) (p : Nat) (v : UInt8) (h4 : 4 ≤ m.length) (hp : p < m.length) (hv : v ≠ m[p]) (hs : numAt m 2 = sum16 (preS fr to n ++ zeroed m)) :
    numAt (m.set p v) 2 ≠ sum16 (preS fr to n ++ zeroed (m.set p v)) := by
  by_cases h2 : p = 2
  · subst h2
    rw [zeroed_2, ← hs]
    exact numAt_2 m v h4 hv
  by_cases h3 : p = 3
  · subst h3
    rw [zeroed_3, ← hs]
    exact numAt_3 m v h4 hv
  rw [numAt_other m p v h4 h2 h3, zeroed_set m p v h2 h3, hs]
  have hl := preS_length fr to n
  have hz : p < (zeroed m).length := by rw [zeroed_length]; exact hp
  have e : preS fr to n ++ (zeroed m).set p v = (preS fr to n ++ zeroed m).set (40 + p) v := by
    rw [List.set_append_right _ _ (by omega), hl]
    congr 2
    omega
  rw [e]
  have hb : 40 + p < (preS fr to n ++ zeroed m).length := by rw [List.length_append]; omega
  refine (sum16_set _ _ v hb ?_).symm
  have e2 : (preS fr to n ++ zeroed m)[40 + p]? = some m[p] := by
    rw [List.getElem?_append_right (by omega), hl, show 40 + p - 40 = p by omega, zeroed_get m p h2 h3, List.getElem?_eq_getElem hp]
  rw [List.getElem?_eq_getElem hb] at e2
  rw [Option.some.inj e2]
  exact hv
end Go.Proofs.Ythnjkpecnaglhaa
