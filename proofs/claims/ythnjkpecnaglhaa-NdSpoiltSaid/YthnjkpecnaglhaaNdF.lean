/- Plain facts on printed questions and answers: where their parts lie. No walk here. -/
import Derived.Test.YthnjkpecnaglhaaNdO
set_option linter.unusedSimpArgs false
set_option linter.unusedVariables false
namespace Go.Proofs.Ythnjkpecnaglhaa
open Go.RowKit
section
variable (op : Nat) (fr to ab : Vector UInt8 16) (mac : Vector UInt8 6) (has : Bool) (fl : Vector UInt8 4) (s : List UInt8) (hs : s.length = 2)
def szN (has : Bool) : Nat := if has then 32 else 24
theorem msgS_len2 (hs : s.length = 2) : (msgS op s ab mac has fl).length = szN has := by
  rw [msgS_length, hs, szN]
  cases has <;> rfl
theorem ndS_eq : ndS op fr to ab mac has fl = [96, 0, 0, 0] ++ (bytesN (szN has) 2 ++ ([58, 255] ++ (fr.toList ++ (to.toList ++ msgS op (bytesN (sumN op fr to ab mac has fl) 2) ab mac has fl)))) := by
  rw [ndS, printS, msgS_len2 op ab mac has fl [0, 0] rfl]
  simp [msgS]
theorem ndS_length : (ndS op fr to ab mac has fl).length = 40 + szN has := by
  rw [ndS_eq]
  simp [msgS_len2]
  omega
theorem vecAt_part {n : Nat} (a c : List UInt8) (v : Vector UInt8 n) (k : Nat) (h : a.length = k) : vecAt (a ++ (v.toList ++ c)) k n = v := vecAt_mid a c v k h
theorem msgS_fl (hs : s.length = 2) : vecAt (msgS op s ab mac has fl) 4 4 = fl := by
  have := vecAt_mid ([UInt8.ofNat (134 + op), 0] ++ s) (ab.toList ++ (if has then [UInt8.ofNat op, 1] ++ mac.toList else [])) fl 4 (by simp [hs])
  rwa [List.append_assoc] at this
theorem msgS_ab (hs : s.length = 2) : vecAt (msgS op s ab mac has fl) 8 16 = ab := by
  have := vecAt_mid ([UInt8.ofNat (134 + op), 0] ++ (s ++ fl.toList)) (if has then [UInt8.ofNat op, 1] ++ mac.toList else []) ab 8 (by simp [hs])
  rwa [List.append_assoc, List.append_assoc] at this
theorem msgS_mac (hs : s.length = 2) : vecAt (msgS op s ab mac true fl) 26 6 = mac := by
  have := vecAt_mid ([UInt8.ofNat (134 + op), 0] ++ (s ++ (fl.toList ++ (ab.toList ++ [UInt8.ofNat op, 1])))) [] mac 26 (by simp [hs])
  simpa [msgS] using this
theorem msgS_sum (n : Nat) (hn : n ≤ 65535) : numAt (msgS op (bytesN n 2) ab mac has fl) 2 = n := by
  have := numAt_mid [UInt8.ofNat (134 + op), 0] (bytesN n 2) (fl.toList ++ (ab.toList ++ (if has then [UInt8.ofNat op, 1] ++ mac.toList else []))) 2 rfl (by simp)
  rw [numN_bytesN] at this
  rw [msgS, this]
  omega
theorem sumN_le : sumN op fr to ab mac has fl ≤ 65535 := by unfold sumN sum16; omega
variable (more : List UInt8)
theorem nd_fr : vecAt (ndS op fr to ab mac has fl ++ more) 8 16 = fr := by
  have := vecAt_mid ([96, 0, 0, 0] ++ (bytesN (szN has) 2 ++ [58, 255])) (to.toList ++ (msgS op (bytesN (sumN op fr to ab mac has fl) 2) ab mac has fl ++ more)) fr 8 (by simp)
  rw [ndS_eq]
  simpa using this
theorem nd_to : vecAt (ndS op fr to ab mac has fl ++ more) 24 16 = to := by
  have := vecAt_mid ([96, 0, 0, 0] ++ (bytesN (szN has) 2 ++ ([58, 255] ++ fr.toList))) (msgS op (bytesN (sumN op fr to ab mac has fl) 2) ab mac has fl ++ more) to 24 (by simp)
  rw [ndS_eq]
  simpa using this
theorem nd_sz : numAt (ndS op fr to ab mac has fl ++ more) 4 = szN has := by
  have := numAt_mid [96, 0, 0, 0] (bytesN (szN has) 2) ([58, 255] ++ (fr.toList ++ (to.toList ++ (msgS op (bytesN (sumN op fr to ab mac has fl) 2) ab mac has fl ++ more)))) 4 rfl (by simp)
  rw [numN_bytesN] at this
  rw [ndS_eq]
  simp only [List.append_assoc] at this ⊢
  rw [this]
  cases has <;> rfl
theorem nd_msg : ((ndS op fr to ab mac has fl ++ more).drop 40).take (szN has) = msgS op (bytesN (sumN op fr to ab mac has fl) 2) ab mac has fl := by
  have h : ndS op fr to ab mac has fl ++ more = ([96, 0, 0, 0] ++ (bytesN (szN has) 2 ++ ([58, 255] ++ (fr.toList ++ to.toList)))) ++ (msgS op (bytesN (sumN op fr to ab mac has fl) 2) ab mac has fl ++ more) := by
    rw [ndS_eq]
    simp
  rw [h, List.drop_left' (by simp), List.take_left' (msgS_len2 op ab mac has fl _ (by simp))]
theorem nd_0 (h : 0 < (ndS op fr to ab mac has fl ++ more).length) : (ndS op fr to ab mac has fl ++ more)[0] = 96 := by
  simp [ndS_eq]
theorem nd_6 (h : 6 < (ndS op fr to ab mac has fl ++ more).length) : (ndS op fr to ab mac has fl ++ more)[6] = 58 := by
  have e : (ndS op fr to ab mac has fl ++ more)[6]? = some 58 := by
    rw [ndS_eq]
    simp [List.getElem?_append]
  simpa [List.getElem?_eq_getElem h] using e
theorem nd_7 (h : 7 < (ndS op fr to ab mac has fl ++ more).length) : (ndS op fr to ab mac has fl ++ more)[7] = 255 := by
  have e : (ndS op fr to ab mac has fl ++ more)[7]? = some 255 := by
    rw [ndS_eq]
    simp [List.getElem?_append]
  simpa [List.getElem?_eq_getElem h] using e
theorem msg_24 (hs : s.length = 2) (h : 24 < (msgS op s ab mac true fl).length) : (msgS op s ab mac true fl)[24] = UInt8.ofNat op := by
  have e : (msgS op s ab mac true fl)[24]? = some (UInt8.ofNat op) := by
    simp [msgS, List.getElem?_append, hs]
  simpa [List.getElem?_eq_getElem h] using e
theorem msg_25 (hs : s.length = 2) (h : 25 < (msgS op s ab mac true fl).length) : (msgS op s ab mac true fl)[25] = 1 := by
  have e : (msgS op s ab mac true fl)[25]? = some 1 := by
    simp [msgS, List.getElem?_append, hs]
  simpa [List.getElem?_eq_getElem h] using e
end
theorem ndParse_print_op1 (fr to ab : Vector UInt8 16) (mac : Vector UInt8 6) (fl : Vector UInt8 4) (more : List UInt8) (w : World) (hm : more.length ≤ 2000) :
    Calls Try.prog 29 #[.string ⟨(ndS 1 fr to ab mac true fl ++ more).toArray⟩] w fun e w' => e = .returned (.tuple #[.agg (ndV 1 fr to ab mac true fl).toArray, .int .i64 0]) ∧ Below w.heap.size w w' := by
  have hl : (ndS 1 fr to ab mac true fl ++ more).length = 72 + more.length := by rw [List.length_append, ndS_length]; rfl
  have hb : (bytesN (sumN 1 fr to ab mac true fl) 2).length = 2 := by simp
  have hml := msgS_len2 1 ab mac true fl _ hb
  have := ndParse_large_op1 (ndS 1 fr to ab mac true fl ++ more) _ w (by omega) (by omega) (nd_sz 1 fr to ab mac true fl more) (by omega) (nd_0 _ _ _ _ _ _ _ _ _) (nd_6 _ _ _ _ _ _ _ _ _) (nd_7 _ _ _ _ _ _ _ _ _)
    (nd_msg 1 fr to ab mac true fl more) hml rfl rfl (msg_24 _ _ _ _ _ hb _) (msg_25 _ _ _ _ _ hb _) (by rw [nd_fr, nd_to, msgS_ab _ _ _ _ _ _ hb, msgS_mac _ _ _ _ _ hb, msgS_fl _ _ _ _ _ _ hb, msgS_sum _ _ _ _ _ _ (sumN_le _ _ _ _ _ _ _)])
  rwa [nd_fr, nd_to, msgS_ab _ _ _ _ _ _ hb, msgS_mac _ _ _ _ _ hb, msgS_fl _ _ _ _ _ _ hb] at this
theorem ndParse_printS_op1 (fr to ab : Vector UInt8 16) (fl : Vector UInt8 4) (more : List UInt8) (w : World) (hm : more.length ≤ 2000) :
    Calls Try.prog 29 #[.string ⟨(ndS 1 fr to ab mac0 false fl ++ more).toArray⟩] w fun e w' => e = .returned (.tuple #[.agg (ndV 1 fr to ab mac0 false fl).toArray, .int .i64 0]) ∧ Below w.heap.size w w' := by
  have hl : (ndS 1 fr to ab mac0 false fl ++ more).length = 64 + more.length := by rw [List.length_append, ndS_length]; rfl
  have hb : (bytesN (sumN 1 fr to ab mac0 false fl) 2).length = 2 := by simp
  have hml := msgS_len2 1 ab mac0 false fl _ hb
  have := ndParse_small_op1 (ndS 1 fr to ab mac0 false fl ++ more) _ w (by omega) (by omega) (nd_sz 1 fr to ab mac0 false fl more) (by omega) (nd_0 _ _ _ _ _ _ _ _ _) (nd_6 _ _ _ _ _ _ _ _ _) (nd_7 _ _ _ _ _ _ _ _ _)
    (nd_msg 1 fr to ab mac0 false fl more) hml rfl rfl (by rw [nd_fr, nd_to, msgS_ab _ _ _ _ _ _ hb, msgS_fl _ _ _ _ _ _ hb, msgS_sum _ _ _ _ _ _ (sumN_le _ _ _ _ _ _ _)])
  rwa [nd_fr, nd_to, msgS_ab _ _ _ _ _ _ hb, msgS_fl _ _ _ _ _ _ hb] at this
theorem ndParse_print_op2 (fr to ab : Vector UInt8 16) (mac : Vector UInt8 6) (fl : Vector UInt8 4) (more : List UInt8) (w : World) (hm : more.length ≤ 2000) :
    Calls Try.prog 29 #[.string ⟨(ndS 2 fr to ab mac true fl ++ more).toArray⟩] w fun e w' => e = .returned (.tuple #[.agg (ndV 2 fr to ab mac true fl).toArray, .int .i64 0]) ∧ Below w.heap.size w w' := by
  have hl : (ndS 2 fr to ab mac true fl ++ more).length = 72 + more.length := by rw [List.length_append, ndS_length]; rfl
  have hb : (bytesN (sumN 2 fr to ab mac true fl) 2).length = 2 := by simp
  have hml := msgS_len2 2 ab mac true fl _ hb
  have := ndParse_large_op2 (ndS 2 fr to ab mac true fl ++ more) _ w (by omega) (by omega) (nd_sz 2 fr to ab mac true fl more) (by omega) (nd_0 _ _ _ _ _ _ _ _ _) (nd_6 _ _ _ _ _ _ _ _ _) (nd_7 _ _ _ _ _ _ _ _ _)
    (nd_msg 2 fr to ab mac true fl more) hml rfl rfl (msg_24 _ _ _ _ _ hb _) (msg_25 _ _ _ _ _ hb _) (by rw [nd_fr, nd_to, msgS_ab _ _ _ _ _ _ hb, msgS_mac _ _ _ _ _ hb, msgS_fl _ _ _ _ _ _ hb, msgS_sum _ _ _ _ _ _ (sumN_le _ _ _ _ _ _ _)])
  rwa [nd_fr, nd_to, msgS_ab _ _ _ _ _ _ hb, msgS_mac _ _ _ _ _ hb, msgS_fl _ _ _ _ _ _ hb] at this
theorem ndParse_printS_op2 (fr to ab : Vector UInt8 16) (fl : Vector UInt8 4) (more : List UInt8) (w : World) (hm : more.length ≤ 2000) :
    Calls Try.prog 29 #[.string ⟨(ndS 2 fr to ab mac0 false fl ++ more).toArray⟩] w fun e w' => e = .returned (.tuple #[.agg (ndV 2 fr to ab mac0 false fl).toArray, .int .i64 0]) ∧ Below w.heap.size w w' := by
  have hl : (ndS 2 fr to ab mac0 false fl ++ more).length = 64 + more.length := by rw [List.length_append, ndS_length]; rfl
  have hb : (bytesN (sumN 2 fr to ab mac0 false fl) 2).length = 2 := by simp
  have hml := msgS_len2 2 ab mac0 false fl _ hb
  have := ndParse_small_op2 (ndS 2 fr to ab mac0 false fl ++ more) _ w (by omega) (by omega) (nd_sz 2 fr to ab mac0 false fl more) (by omega) (nd_0 _ _ _ _ _ _ _ _ _) (nd_6 _ _ _ _ _ _ _ _ _) (nd_7 _ _ _ _ _ _ _ _ _)
    (nd_msg 2 fr to ab mac0 false fl more) hml rfl rfl (by rw [nd_fr, nd_to, msgS_ab _ _ _ _ _ _ hb, msgS_fl _ _ _ _ _ _ hb, msgS_sum _ _ _ _ _ _ (sumN_le _ _ _ _ _ _ _)])
  rwa [nd_fr, nd_to, msgS_ab _ _ _ _ _ _ hb, msgS_fl _ _ _ _ _ _ hb] at this
end Go.Proofs.Ythnjkpecnaglhaa
