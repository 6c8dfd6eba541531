/- Parsing of a message with one byte changed: refused. -/
import Derived.Test.YthnjkpecnaglhaaNdX4
import Derived.Test.YthnjkpecnaglhaaNdX2
import Derived.Test.YthnjkpecnaglhaaNdL
set_option linter.unusedSimpArgs false
set_option linter.unusedVariables false
namespace Go.Proofs.Ythnjkpecnaglhaa
open Go.RowKit
theorem sumS_pre (op : Nat) (fr to ab : Vector UInt8 16) (mac : Vector UInt8 6) (has : Bool) (fl : Vector UInt8 4) : sumS op fr to ab mac has fl = preS fr to (szN has) ++ msgS op [0, 0] ab mac has fl := by
  unfold sumS preS szN
  simp
theorem zeroed_msg (op : Nat) (s : List UInt8) (hs : s.length = 2) (ab : Vector UInt8 16) (mac : Vector UInt8 6) (has : Bool) (fl : Vector UInt8 4) : zeroed (msgS op s ab mac has fl) = msgS op [0, 0] ab mac has fl := by
  match s, hs with
  | [a, b], _ => rfl
theorem refused_small (m : List UInt8) (fr to ab : Vector UInt8 16) (mac : Vector UInt8 6) (fl : Vector UInt8 4) (op0 : Int) (hl : m.length = 24) (h : numAt m 2 ≠ sum16 (preS fr to 24 ++ zeroed m)) :
    ∃ n : Int, (n = 3 ∨ n = 4) ∧ refused m n fr to ab mac fl op0 := by
  have key : ∀ op : Nat, m[0] = UInt8.ofNat (134 + op) → m[1] = 0 → numAt m 2 ≠ sumN op fr to (vecAt m 8 16) mac false (vecAt m 4 4) := by
    intro op h0 h1
    rw [sumN, sumS_pre, msg_zero24 op mac m hl h0 h1]
    exact h
  by_cases a1 : m[0] = 135
  · by_cases b : m[1] = 0
    · exact ⟨4, .inr rfl, told_sum_small_op1 m fr to ab mac fl op0 hl a1 b (key 1 a1 b)⟩
    · exact ⟨3, .inl rfl, told_bad1_op1 m fr to ab mac fl op0 (by omega) a1 b⟩
  by_cases a2 : m[0] = 136
  · by_cases b : m[1] = 0
    · exact ⟨4, .inr rfl, told_sum_small_op2 m fr to ab mac fl op0 hl a2 b (key 2 a2 b)⟩
    · exact ⟨3, .inl rfl, told_bad1_op2 m fr to ab mac fl op0 (by omega) a2 b⟩
  exact ⟨3, .inl rfl, told_badop m fr to ab mac fl op0 (by omega) a1 a2⟩
theorem refused_large (m : List UInt8) (fr to ab : Vector UInt8 16) (mac : Vector UInt8 6) (fl : Vector UInt8 4) (op0 : Int) (hl : m.length = 32) (h : numAt m 2 ≠ sum16 (preS fr to 32 ++ zeroed m)) :
    ∃ n : Int, (n = 3 ∨ n = 4) ∧ refused m n fr to ab mac fl op0 := by
  have key : ∀ op : Nat, m[0] = UInt8.ofNat (134 + op) → m[1] = 0 → m[24] = UInt8.ofNat op → m[25] = 1 → numAt m 2 ≠ sumN op fr to (vecAt m 8 16) (vecAt m 26 6) true (vecAt m 4 4) := by
    intro op h0 h1 h24 h25
    rw [sumN, sumS_pre, msg_zero32 op mac m hl h0 h1 h24 h25]
    exact h
  by_cases a1 : m[0] = 135
  · by_cases b : m[1] = 0
    · by_cases c : m[24] = 1
      · by_cases d : m[25] = 1
        · exact ⟨4, .inr rfl, told_sum_large_op1 m fr to ab mac fl op0 hl a1 b c d (key 1 a1 b c d)⟩
        · exact ⟨3, .inl rfl, told_bad25_op1 m fr to ab mac fl op0 hl a1 b c d⟩
      · exact ⟨3, .inl rfl, told_bad24_op1 m fr to ab mac fl op0 hl a1 b c⟩
    · exact ⟨3, .inl rfl, told_bad1_op1 m fr to ab mac fl op0 (by omega) a1 b⟩
  by_cases a2 : m[0] = 136
  · by_cases b : m[1] = 0
    · by_cases c : m[24] = 2
      · by_cases d : m[25] = 1
        · exact ⟨4, .inr rfl, told_sum_large_op2 m fr to ab mac fl op0 hl a2 b c d (key 2 a2 b c d)⟩
        · exact ⟨3, .inl rfl, told_bad25_op2 m fr to ab mac fl op0 hl a2 b c d⟩
      · exact ⟨3, .inl rfl, told_bad24_op2 m fr to ab mac fl op0 hl a2 b c⟩
    · exact ⟨3, .inl rfl, told_bad1_op2 m fr to ab mac fl op0 (by omega) a2 b⟩
  exact ⟨3, .inl rfl, told_badop m fr to ab mac fl op0 (by omega) a1 a2⟩
set_option maxRecDepth 20000 in
set_option maxHeartbeats 2000000 in
theorem ndParse_refused (l m : List UInt8) (n : Int) (w : World) (hl : 64 ≤ l.length) (hl2 : l.length ≤ 10000) (sz : Nat) (hsz : numAt l 4 = sz) (hs2 : sz = 24 ∨ sz = 32) (hls : 40 + sz ≤ l.length) (h0 : l[0] = 96) (h6 : l[6] = 58) (h7 : l[7] = 255)
    (hm : (l.drop 40).take sz = m) (H : refused m n (vecAt l 8 16) (vecAt l 24 16) ip0 mac0 four0 0) :
    Calls Try.prog 29 #[.string ⟨l.toArray⟩] w fun e w' => e = .returned (.tuple #[.agg (ndV 0 ip0 ip0 ip0 mac0 false four0).toArray, .int .i64 n]) ∧ Below w.heap.size w w' := by
  have hmf : ∀ (fn : Fn) (first cap : Array Value) (w : World), (Instr.makeFunc fn first cap).run Try.prog w = .ok (.func fn first cap) w := fun _ _ _ _ => rfl
  go_enter_defers Try.func29, Try.ntmps29
  go_wp2_with fail
  have st0 := ndSt_start w
  refine (headed_ok l w.heap.size 0 ip0 ip0 ip0 mac0 false four0 _ hl hl2 sz hsz hs2 h0 h6 h7 hls st0.rX (by have := st0.hs; omega)).mono ?_
  rintro e w1 ⟨rfl, hb1⟩
  have st1 := (st0.setX (ndV 0 (vecAt l 8 16) (vecAt l 24 16) ip0 mac0 false four0) (by simp [ndV])).below (by simpa [ndV] using hb1)
  rw [hm]
  go_wp2_with fail
  refine (H w.heap.size _ st1.rX (by have := st1.hs; omega)).mono ?_
  rintro e w2 ⟨rfl, xs, hxs, hb2⟩
  have st2 := (st1.setX xs hxs).below (by simpa using hb2)
  exact st2.fail _ _ n rfl rfl rfl
/-- what is printed, with one byte of its message changed, is parsed as nothing -/
theorem ndParse_spoilt (op : Nat) (fr to ab : Vector UInt8 16) (mac : Vector UInt8 6) (has : Bool) (fl : Vector UInt8 4) (p : Nat) (v : UInt8) (hp : p < szN has) (hv : ∀ h, v ≠ (ndS op fr to ab mac has fl)[40 + p]'h) :
    ∃ n : Int, (n = 3 ∨ n = 4) ∧ ∀ w, Calls Try.prog 29 #[.string ⟨((ndS op fr to ab mac has fl).set (40 + p) v).toArray⟩] w fun e w' => e = .returned (.tuple #[.agg (ndV 0 ip0 ip0 ip0 mac0 false four0).toArray, .int .i64 n]) ∧ Below w.heap.size w w' := by
  have hlen := ndS_length op fr to ab mac has fl
  have e0 := nd_0 op fr to ab mac has fl [] (by simp; omega)
  have e6 := nd_6 op fr to ab mac has fl [] (by simp; omega)
  have e7 := nd_7 op fr to ab mac has fl [] (by simp; omega)
  have es := nd_sz op fr to ab mac has fl []
  have ef := nd_fr op fr to ab mac has fl []
  have et := nd_to op fr to ab mac has fl []
  have em := nd_msg op fr to ab mac has fl []
  simp only [List.append_nil] at e0 e6 e7 es ef et em
  have hml := msgS_len2 op ab mac has fl (bytesN (sumN op fr to ab mac has fl) 2) (by simp)
  have hsum : numAt (msgS op (bytesN (sumN op fr to ab mac has fl) 2) ab mac has fl) 2 = sum16 (preS fr to (szN has) ++ zeroed (msgS op (bytesN (sumN op fr to ab mac has fl) 2) ab mac has fl)) := by
    rw [msgS_sum op ab mac has fl _ (sumN_le op fr to ab mac has fl), zeroed_msg op _ (by simp), ← sumS_pre]
    rfl
  obtain ⟨m, hm⟩ : ∃ m, msgS op (bytesN (sumN op fr to ab mac has fl) 2) ab mac has fl = m := ⟨_, rfl⟩
  obtain ⟨l, hl⟩ : ∃ l, ndS op fr to ab mac has fl = l := ⟨_, rfl⟩
  rw [hm] at hml hsum em
  simp only [hl] at hlen e0 e6 e7 es ef et em hv ⊢
  have hsz : szN has = 24 ∨ szN has = 32 := by cases has <;> simp [szN]
  have hvm : v ≠ m[p] := by
    have h40 : 40 + p < l.length := by omega
    have : m[p]? = some l[40 + p] := by
      rw [← em, List.getElem?_take_of_lt hp, List.getElem?_drop, List.getElem?_eq_getElem h40]
    rw [List.getElem?_eq_getElem (by omega)] at this
    rw [Option.some.inj this]
    exact hv h40
  have hne := spoilt_sum fr to (szN has) m p v (by omega) (by omega) hvm hsum
  have htk : (l.set (40 + p) v).take 40 = l.take 40 := by rw [List.take_set_of_le (by omega)]
  have s4 : numAt (l.set (40 + p) v) 4 = szN has := by
    rw [← numAt_take (l.set (40 + p) v) 4 40 (by omega), htk, numAt_take _ _ _ (by omega), es]
  have s8 : vecAt (l.set (40 + p) v) 8 16 = fr := by
    rw [← vecAt_take (l.set (40 + p) v) 8 16 40 (by omega) (by rw [List.length_set]; omega), htk, vecAt_take _ _ _ _ (by omega) (by omega), ef]
  have s24 : vecAt (l.set (40 + p) v) 24 16 = to := by
    rw [← vecAt_take (l.set (40 + p) v) 24 16 40 (by omega) (by rw [List.length_set]; omega), htk, vecAt_take _ _ _ _ (by omega) (by omega), et]
  have sm : ((l.set (40 + p) v).drop 40).take (szN has) = m.set p v := by
    rw [List.drop_set, if_neg (by omega), show 40 + p - 40 = p by omega, List.take_set, em]
  have fin : ∃ n : Int, (n = 3 ∨ n = 4) ∧ refused (m.set p v) n fr to ip0 mac0 four0 0 := by
    cases has with
    | false => exact refused_small (m.set p v) fr to ip0 mac0 four0 0 (by rw [List.length_set]; exact hml) hne
    | true => exact refused_large (m.set p v) fr to ip0 mac0 four0 0 (by rw [List.length_set]; exact hml) hne
  obtain ⟨n, hn, HR⟩ := fin
  refine ⟨n, hn, fun w => ndParse_refused _ (m.set p v) n w (by rw [List.length_set]; omega) (by rw [List.length_set]; omega) (szN has) s4 hsz (by rw [List.length_set]; omega) ?_ ?_ ?_ sm (by rw [s8, s24]; exact HR)⟩
  · rw [List.getElem_set_ne (by omega)]; exact e0
  · rw [List.getElem_set_ne (by omega)]; exact e6
  · rw [List.getElem_set_ne (by omega)]; exact e7
end Go.Proofs.Ythnjkpecnaglhaa
