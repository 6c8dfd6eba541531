/- The walk of the law NdCut. -/
import Derived.Test.YthnjkpecnaglhaaNdL
set_option linter.unusedSimpArgs false
set_option linter.unusedVariables false
namespace Go.Proofs.Ythnjkpecnaglhaa
open Go.ChangeShapes Go.WideShapes Go.ChangeAt Go.RowKit
set_option maxRecDepth 20000 in
set_option maxHeartbeats 2000000 in
theorem headed_short2 (l : List UInt8) (X : Nat) (w : World) (hl : 64 ≤ l.length) (hl3 : l.length < 72) (hsz : numAt l 4 = 32) (h0 : l[0] = 96) (h6 : l[6] = 58) (h7 : l[7] = 255) :
    Calls Try.prog 44 #[.string ⟨l.toArray⟩, .pointer (some ⟨X, 0, none⟩)] w fun e w' => e = .panicked (errP 2) ∧ w = w' := by
  have h1 : (64 : Int) ≤ l.length := by omega
  have h2 : (l.length : Int) < 72 := by omega
  go_enter Try.func44, Try.ntmps44
  go_wp2_with fail
  refine (nmust_ok _ _).mono ?_
  rintro e w1 ⟨rfl, rfl⟩
  go_wp2_with fail
  refine (number_any _ _ (by simp [ByteArray.size]; omega)).mono ?_
  rintro e w1 ⟨rfl, rfl⟩
  rw [show numN (ByteArray.mk (List.take 2 (List.drop 4 l)).toArray).data.toList = 32 from hsz]
  have g0 : l[0].toNat = 96 := by rw [h0]; rfl
  have g6 : l[6].toNat = 58 := by rw [h6]; rfl
  have g7 : l[7].toNat = 255 := by rw [h7]; rfl
  clear hsz h0 h6 h7
  go_wp2_with fail
  refine (nmust_ok _ _).mono ?_
  rintro e w1 ⟨rfl, rfl⟩
  go_wp2_with fail
  (try rw [decide_eq_false (show ¬ (72 : Int) ≤ l.length by omega)])
  refine (nmust_no _ _).mono ?_
  rintro e w1 ⟨rfl, rfl⟩
  exact ⟨rfl, rfl, rfl⟩
set_option maxRecDepth 20000 in
set_option maxHeartbeats 2000000 in
theorem ndParse_none (l : List UInt8) (w : World) (H : ∀ X w, Calls Try.prog 44 #[.string ⟨l.toArray⟩, .pointer (some ⟨X, 0, none⟩)] w fun e w' => e = .panicked (errP 2) ∧ w = w') :
    Calls Try.prog 29 #[.string ⟨l.toArray⟩] w fun e w' => e = .returned (.tuple #[.agg (ndV 0 ip0 ip0 ip0 mac0 false four0).toArray, .int .i64 2]) ∧ Below w.heap.size w w' := by
  have hmf : ∀ (fn : Fn) (first cap : Array Value) (w : World), (Instr.makeFunc fn first cap).run Try.prog w = .ok (.func fn first cap) w := fun _ _ _ _ => rfl
  go_enter_defers Try.func29, Try.ntmps29
  go_wp2_with fail
  have st0 := ndSt_start w
  refine (H w.heap.size _).mono ?_
  rintro e w1 ⟨rfl, rfl⟩
  exact st0.fail _ _ 2 rfl rfl rfl
theorem ndParse_cut (op : Nat) (fr to ab : Vector UInt8 16) (mac : Vector UInt8 6) (has : Bool) (fl : Vector UInt8 4) (n : Nat) (w : World) (hn : n < (ndS op fr to ab mac has fl).length) :
    Calls Try.prog 29 #[.string ⟨((ndS op fr to ab mac has fl).take n).toArray⟩] w fun e w' => e = .returned (.tuple #[.agg (ndV 0 ip0 ip0 ip0 mac0 false four0).toArray, .int .i64 2]) ∧ Below w.heap.size w w' := by
  have hlen := ndS_length op fr to ab mac has fl
  have hl : ((ndS op fr to ab mac has fl).take n).length = n := by simp; omega
  refine ndParse_none _ w fun X w => ?_
  by_cases h64 : n < 64
  · exact headed_short _ X w (by omega)
  · cases has with
    | false =>
      simp [szN] at hlen
      omega
    | true =>
      simp [szN] at hlen
      have e0 := nd_0 op fr to ab mac true fl [] (by simp; omega)
      have e6 := nd_6 op fr to ab mac true fl [] (by simp; omega)
      have e7 := nd_7 op fr to ab mac true fl [] (by simp; omega)
      have es := nd_sz op fr to ab mac true fl []
      simp only [List.append_nil] at e0 e6 e7 es
      refine headed_short2 _ X w (by omega) (by omega) ?_ ?_ ?_ ?_
      · rw [numAt_take _ _ _ (by omega), es]
        rfl
      · rw [List.getElem_take]
        exact e0
      · rw [List.getElem_take]
        exact e6
      · rw [List.getElem_take]
        exact e7
@[simp, go_sem] theorem zeroNd_cells : Value.int .i64 0 :: (zeros 54 (Value.int .u8 0) ++ Value.bool false :: zeros 4 (Value.int .u8 0)) = Value.int .i64 0 :: (u8v ip0 ++ (u8v ip0 ++ (u8v ip0 ++ (u8v mac0 ++ (.bool false :: u8v four0))))) := rfl
set_option maxRecDepth 20000 in
set_option maxHeartbeats 2000000 in
theorem ndCut_large_op1 (fr to ab : Vector UInt8 16) (mac : Vector UInt8 6) (fl : Vector UInt8 4) (cut : Nat) (w : World) (hc : cut ≤ 255) :
    Calls Try.prog 9 #[.agg (ndV 1 fr to ab mac true fl).toArray, .int .u8 cut] w fun e W' => e = .returned (.bool true) ∧ Below w.heap.size w W' := by
  have Hp : ∀ w, Calls Try.prog 26 #[.agg (ndV 1 fr to ab mac true fl).toArray] w _ := fun w => ndPrint_op1 fr to ab mac fl w
  have hl : (ndS 1 fr to ab mac true fl).length = 72 := by rw [ndS_length]; rfl
  have hc1 : (cut : Int) ≤ 255 := by omega
  obtain ⟨n, hn⟩ : ∃ n, cut % 72 = n := ⟨_, rfl⟩
  have hnl : n < 72 := by rw [← hn]; exact Nat.mod_lt _ (by decide)
  have Hq : ∀ w, Calls Try.prog 29 #[.string ⟨((ndS 1 fr to ab mac true fl).take n).toArray⟩] w _ := fun w => ndParse_cut 1 fr to ab mac true fl n w (by rw [hl]; exact hnl)
  obtain ⟨s, hs⟩ : ∃ s, ndS 1 fr to ab mac true fl = s := ⟨_, rfl⟩
  simp only [hs] at Hp Hq hl
  have hl1 : (s.length : Int) = 72 := by omega
  have hn1 : (cut : Int) % 72 = n := by rw [← hn]; rfl
  have hn2 : (n : Int) ≤ 72 := by omega
  have HP := Lib.hid Hp
  have HQ := Lib.hid Hq
  clear Hp Hq hs hn
  unfold ndV at HP HQ
  unfold ndV
  go_enter Try.func9, Try.ntmps9
  go_wp2_with fail
  refine (of10_any 1 fr to ab mac true fl _).mono ?_
  rintro e w2 ⟨rfl, hb2⟩
  have z2 := (hb2).size
  try simp at z2
  have ra : row w2 (w.heap.size) = (Value.int .i64 1 :: (u8v fr ++ (u8v to ++ (u8v ab ++ (u8v mac ++ (.bool true :: u8v fl)))))).toArray := by rw [row_below hb2 (by first | (simp; done) | (simp; omega) | omega)]; simp [go_sem]; (try rfl)
  replace hb2 := below_of hb2 (show Below (w).heap.size w _ from by (repeat (first | exact Below.refl _ _ | refine Below.alloc ?_ (by first | (simp; done) | (simp; omega) | omega) _ | refine Below.drew ?_ | refine Below.setRow ?_ (by first | (simp; done) | (simp; omega) | omega) _ | refine Below.setCell ?_ (by first | (simp; done) | (simp; omega) | omega) _))) (by first | (simp; done) | (simp; omega) | omega)
  unfold ndV
  go_wp2_with fail
  refine (HP.out _).mono ?_
  rintro e w3 ⟨rfl, hb3⟩
  have z3 := (hb3).size
  try simp at z3
  replace ra := (row_below hb3 (by omega)).trans ra
  go_wp2_with fail
  refine (awake10_any _).mono ?_
  rintro e w4 ⟨rfl, hb4⟩
  have z4 := (hb4).size
  try simp at z4
  replace ra := (row_below hb4 (by omega)).trans ra
  go_wp2_with fail
  refine (HQ.out _).mono ?_
  rintro e w5 ⟨rfl, hb5⟩
  have z5 := (hb5).size
  try simp at z5
  replace ra := (row_below hb5 (by omega)).trans ra
  have q5 : w.heap.size < w5.heap.size := by omega
  go_wp2_with fail
  go_ret
  refine ⟨by simp, ?_⟩
  (repeat (first | refine Below.alloc ?_ (by first | (simp; done) | (simp; omega) | omega) _ | refine Below.drew ?_ | refine Below.setRow ?_ (by first | (simp; done) | (simp; omega) | omega) _ | refine Below.setCell ?_ (by first | (simp; done) | (simp; omega) | omega) _))
  refine Below.trans ?_ (Below.mono hb5 (by first | (simp; done) | (simp; omega) | omega))
  refine Below.trans ?_ (Below.mono hb4 (by first | (simp; done) | (simp; omega) | omega))
  refine Below.trans ?_ (Below.mono hb3 (by first | (simp; done) | (simp; omega) | omega))
  exact hb2
set_option maxRecDepth 20000 in
set_option maxHeartbeats 2000000 in
theorem ndCut_large_op2 (fr to ab : Vector UInt8 16) (mac : Vector UInt8 6) (fl : Vector UInt8 4) (cut : Nat) (w : World) (hc : cut ≤ 255) :
    Calls Try.prog 9 #[.agg (ndV 2 fr to ab mac true fl).toArray, .int .u8 cut] w fun e W' => e = .returned (.bool true) ∧ Below w.heap.size w W' := by
  have Hp : ∀ w, Calls Try.prog 26 #[.agg (ndV 2 fr to ab mac true fl).toArray] w _ := fun w => ndPrint_op2 fr to ab mac fl w
  have hl : (ndS 2 fr to ab mac true fl).length = 72 := by rw [ndS_length]; rfl
  have hc1 : (cut : Int) ≤ 255 := by omega
  obtain ⟨n, hn⟩ : ∃ n, cut % 72 = n := ⟨_, rfl⟩
  have hnl : n < 72 := by rw [← hn]; exact Nat.mod_lt _ (by decide)
  have Hq : ∀ w, Calls Try.prog 29 #[.string ⟨((ndS 2 fr to ab mac true fl).take n).toArray⟩] w _ := fun w => ndParse_cut 2 fr to ab mac true fl n w (by rw [hl]; exact hnl)
  obtain ⟨s, hs⟩ : ∃ s, ndS 2 fr to ab mac true fl = s := ⟨_, rfl⟩
  simp only [hs] at Hp Hq hl
  have hl1 : (s.length : Int) = 72 := by omega
  have hn1 : (cut : Int) % 72 = n := by rw [← hn]; rfl
  have hn2 : (n : Int) ≤ 72 := by omega
  have HP := Lib.hid Hp
  have HQ := Lib.hid Hq
  clear Hp Hq hs hn
  unfold ndV at HP HQ
  unfold ndV
  go_enter Try.func9, Try.ntmps9
  go_wp2_with fail
  refine (of10_any 2 fr to ab mac true fl _).mono ?_
  rintro e w2 ⟨rfl, hb2⟩
  have z2 := (hb2).size
  try simp at z2
  have ra : row w2 (w.heap.size) = (Value.int .i64 2 :: (u8v fr ++ (u8v to ++ (u8v ab ++ (u8v mac ++ (.bool true :: u8v fl)))))).toArray := by rw [row_below hb2 (by first | (simp; done) | (simp; omega) | omega)]; simp [go_sem]; (try rfl)
  replace hb2 := below_of hb2 (show Below (w).heap.size w _ from by (repeat (first | exact Below.refl _ _ | refine Below.alloc ?_ (by first | (simp; done) | (simp; omega) | omega) _ | refine Below.drew ?_ | refine Below.setRow ?_ (by first | (simp; done) | (simp; omega) | omega) _ | refine Below.setCell ?_ (by first | (simp; done) | (simp; omega) | omega) _))) (by first | (simp; done) | (simp; omega) | omega)
  unfold ndV
  go_wp2_with fail
  refine (HP.out _).mono ?_
  rintro e w3 ⟨rfl, hb3⟩
  have z3 := (hb3).size
  try simp at z3
  replace ra := (row_below hb3 (by omega)).trans ra
  go_wp2_with fail
  refine (awake10_any _).mono ?_
  rintro e w4 ⟨rfl, hb4⟩
  have z4 := (hb4).size
  try simp at z4
  replace ra := (row_below hb4 (by omega)).trans ra
  go_wp2_with fail
  refine (HQ.out _).mono ?_
  rintro e w5 ⟨rfl, hb5⟩
  have z5 := (hb5).size
  try simp at z5
  replace ra := (row_below hb5 (by omega)).trans ra
  have q5 : w.heap.size < w5.heap.size := by omega
  go_wp2_with fail
  go_ret
  refine ⟨by simp, ?_⟩
  (repeat (first | refine Below.alloc ?_ (by first | (simp; done) | (simp; omega) | omega) _ | refine Below.drew ?_ | refine Below.setRow ?_ (by first | (simp; done) | (simp; omega) | omega) _ | refine Below.setCell ?_ (by first | (simp; done) | (simp; omega) | omega) _))
  refine Below.trans ?_ (Below.mono hb5 (by first | (simp; done) | (simp; omega) | omega))
  refine Below.trans ?_ (Below.mono hb4 (by first | (simp; done) | (simp; omega) | omega))
  refine Below.trans ?_ (Below.mono hb3 (by first | (simp; done) | (simp; omega) | omega))
  exact hb2
set_option maxRecDepth 20000 in
set_option maxHeartbeats 2000000 in
theorem ndCut_small_op1 (fr to ab : Vector UInt8 16) (mac : Vector UInt8 6) (fl : Vector UInt8 4) (cut : Nat) (w : World) (hc : cut ≤ 255) :
    Calls Try.prog 9 #[.agg (ndV 1 fr to ab mac0 false fl).toArray, .int .u8 cut] w fun e W' => e = .returned (.bool true) ∧ Below w.heap.size w W' := by
  have Hp : ∀ w, Calls Try.prog 26 #[.agg (ndV 1 fr to ab mac0 false fl).toArray] w _ := fun w => ndPrintS_op1 fr to ab fl w
  have hl : (ndS 1 fr to ab mac0 false fl).length = 64 := by rw [ndS_length]; rfl
  have hc1 : (cut : Int) ≤ 255 := by omega
  obtain ⟨n, hn⟩ : ∃ n, cut % 64 = n := ⟨_, rfl⟩
  have hnl : n < 64 := by rw [← hn]; exact Nat.mod_lt _ (by decide)
  have Hq : ∀ w, Calls Try.prog 29 #[.string ⟨((ndS 1 fr to ab mac0 false fl).take n).toArray⟩] w _ := fun w => ndParse_cut 1 fr to ab mac0 false fl n w (by rw [hl]; exact hnl)
  obtain ⟨s, hs⟩ : ∃ s, ndS 1 fr to ab mac0 false fl = s := ⟨_, rfl⟩
  simp only [hs] at Hp Hq hl
  have hl1 : (s.length : Int) = 64 := by omega
  have hn1 : (cut : Int) % 64 = n := by rw [← hn]; rfl
  have hn2 : (n : Int) ≤ 64 := by omega
  have HP := Lib.hid Hp
  have HQ := Lib.hid Hq
  clear Hp Hq hs hn
  unfold ndV at HP HQ
  unfold ndV
  go_enter Try.func9, Try.ntmps9
  go_wp2_with fail
  refine (of10_any 1 fr to ab mac0 false fl _).mono ?_
  rintro e w2 ⟨rfl, hb2⟩
  have z2 := (hb2).size
  try simp at z2
  have ra : row w2 (w.heap.size) = (Value.int .i64 1 :: (u8v fr ++ (u8v to ++ (u8v ab ++ (u8v mac0 ++ (.bool false :: u8v fl)))))).toArray := by rw [row_below hb2 (by first | (simp; done) | (simp; omega) | omega)]; simp [go_sem]; (try rfl)
  replace hb2 := below_of hb2 (show Below (w).heap.size w _ from by (repeat (first | exact Below.refl _ _ | refine Below.alloc ?_ (by first | (simp; done) | (simp; omega) | omega) _ | refine Below.drew ?_ | refine Below.setRow ?_ (by first | (simp; done) | (simp; omega) | omega) _ | refine Below.setCell ?_ (by first | (simp; done) | (simp; omega) | omega) _))) (by first | (simp; done) | (simp; omega) | omega)
  unfold ndV
  go_wp2_with fail
  refine (HP.out _).mono ?_
  rintro e w3 ⟨rfl, hb3⟩
  have z3 := (hb3).size
  try simp at z3
  replace ra := (row_below hb3 (by omega)).trans ra
  go_wp2_with fail
  refine (awake10_any _).mono ?_
  rintro e w4 ⟨rfl, hb4⟩
  have z4 := (hb4).size
  try simp at z4
  replace ra := (row_below hb4 (by omega)).trans ra
  go_wp2_with fail
  refine (HQ.out _).mono ?_
  rintro e w5 ⟨rfl, hb5⟩
  have z5 := (hb5).size
  try simp at z5
  replace ra := (row_below hb5 (by omega)).trans ra
  have q5 : w.heap.size < w5.heap.size := by omega
  go_wp2_with fail
  go_ret
  refine ⟨by simp, ?_⟩
  (repeat (first | refine Below.alloc ?_ (by first | (simp; done) | (simp; omega) | omega) _ | refine Below.drew ?_ | refine Below.setRow ?_ (by first | (simp; done) | (simp; omega) | omega) _ | refine Below.setCell ?_ (by first | (simp; done) | (simp; omega) | omega) _))
  refine Below.trans ?_ (Below.mono hb5 (by first | (simp; done) | (simp; omega) | omega))
  refine Below.trans ?_ (Below.mono hb4 (by first | (simp; done) | (simp; omega) | omega))
  refine Below.trans ?_ (Below.mono hb3 (by first | (simp; done) | (simp; omega) | omega))
  exact hb2
set_option maxRecDepth 20000 in
set_option maxHeartbeats 2000000 in
theorem ndCut_small_op2 (fr to ab : Vector UInt8 16) (mac : Vector UInt8 6) (fl : Vector UInt8 4) (cut : Nat) (w : World) (hc : cut ≤ 255) :
    Calls Try.prog 9 #[.agg (ndV 2 fr to ab mac0 false fl).toArray, .int .u8 cut] w fun e W' => e = .returned (.bool true) ∧ Below w.heap.size w W' := by
  have Hp : ∀ w, Calls Try.prog 26 #[.agg (ndV 2 fr to ab mac0 false fl).toArray] w _ := fun w => ndPrintS_op2 fr to ab fl w
  have hl : (ndS 2 fr to ab mac0 false fl).length = 64 := by rw [ndS_length]; rfl
  have hc1 : (cut : Int) ≤ 255 := by omega
  obtain ⟨n, hn⟩ : ∃ n, cut % 64 = n := ⟨_, rfl⟩
  have hnl : n < 64 := by rw [← hn]; exact Nat.mod_lt _ (by decide)
  have Hq : ∀ w, Calls Try.prog 29 #[.string ⟨((ndS 2 fr to ab mac0 false fl).take n).toArray⟩] w _ := fun w => ndParse_cut 2 fr to ab mac0 false fl n w (by rw [hl]; exact hnl)
  obtain ⟨s, hs⟩ : ∃ s, ndS 2 fr to ab mac0 false fl = s := ⟨_, rfl⟩
  simp only [hs] at Hp Hq hl
  have hl1 : (s.length : Int) = 64 := by omega
  have hn1 : (cut : Int) % 64 = n := by rw [← hn]; rfl
  have hn2 : (n : Int) ≤ 64 := by omega
  have HP := Lib.hid Hp
  have HQ := Lib.hid Hq
  clear Hp Hq hs hn
  unfold ndV at HP HQ
  unfold ndV
  go_enter Try.func9, Try.ntmps9
  go_wp2_with fail
  refine (of10_any 2 fr to ab mac0 false fl _).mono ?_
  rintro e w2 ⟨rfl, hb2⟩
  have z2 := (hb2).size
  try simp at z2
  have ra : row w2 (w.heap.size) = (Value.int .i64 2 :: (u8v fr ++ (u8v to ++ (u8v ab ++ (u8v mac0 ++ (.bool false :: u8v fl)))))).toArray := by rw [row_below hb2 (by first | (simp; done) | (simp; omega) | omega)]; simp [go_sem]; (try rfl)
  replace hb2 := below_of hb2 (show Below (w).heap.size w _ from by (repeat (first | exact Below.refl _ _ | refine Below.alloc ?_ (by first | (simp; done) | (simp; omega) | omega) _ | refine Below.drew ?_ | refine Below.setRow ?_ (by first | (simp; done) | (simp; omega) | omega) _ | refine Below.setCell ?_ (by first | (simp; done) | (simp; omega) | omega) _))) (by first | (simp; done) | (simp; omega) | omega)
  unfold ndV
  go_wp2_with fail
  refine (HP.out _).mono ?_
  rintro e w3 ⟨rfl, hb3⟩
  have z3 := (hb3).size
  try simp at z3
  replace ra := (row_below hb3 (by omega)).trans ra
  go_wp2_with fail
  refine (awake10_any _).mono ?_
  rintro e w4 ⟨rfl, hb4⟩
  have z4 := (hb4).size
  try simp at z4
  replace ra := (row_below hb4 (by omega)).trans ra
  go_wp2_with fail
  refine (HQ.out _).mono ?_
  rintro e w5 ⟨rfl, hb5⟩
  have z5 := (hb5).size
  try simp at z5
  replace ra := (row_below hb5 (by omega)).trans ra
  have q5 : w.heap.size < w5.heap.size := by omega
  go_wp2_with fail
  go_ret
  refine ⟨by simp, ?_⟩
  (repeat (first | refine Below.alloc ?_ (by first | (simp; done) | (simp; omega) | omega) _ | refine Below.drew ?_ | refine Below.setRow ?_ (by first | (simp; done) | (simp; omega) | omega) _ | refine Below.setCell ?_ (by first | (simp; done) | (simp; omega) | omega) _))
  refine Below.trans ?_ (Below.mono hb5 (by first | (simp; done) | (simp; omega) | omega))
  refine Below.trans ?_ (Below.mono hb4 (by first | (simp; done) | (simp; omega) | omega))
  refine Below.trans ?_ (Below.mono hb3 (by first | (simp; done) | (simp; omega) | omega))
  exact hb2
set_option maxRecDepth 20000 in
set_option maxHeartbeats 2000000 in
theorem ndCut_badop (op : Int) (fr to ab : Vector UInt8 16) (mac : Vector UInt8 6) (has : Bool) (fl : Vector UInt8 4) (cut : Nat) (w : World) (ho1 : ¬ op = 1) (ho2 : ¬ op = 2) :
    Calls Try.prog 9 #[.agg (ndV op fr to ab mac has fl).toArray, .int .u8 cut] w fun e W' => e = .returned (.bool true) ∧ Below w.heap.size w W' := by
  have Hp : ∀ w, Calls Try.prog 26 #[.agg (ndV op fr to ab mac has fl).toArray] w _ := fun w => ndPrint_badop op fr to ab mac has fl w (by simp [ho1]) (by simp [ho2])
  have HP := Lib.hid Hp
  clear Hp
  unfold ndV at HP
  unfold ndV
  go_enter Try.func9, Try.ntmps9
  go_wp2_with fail
  refine (of10_any op fr to ab mac has fl _).mono ?_
  rintro e w2 ⟨rfl, hb2⟩
  have z2 := (hb2).size
  try simp at z2
  replace hb2 := below_of hb2 (show Below (w).heap.size w _ from by (repeat (first | exact Below.refl _ _ | refine Below.alloc ?_ (by first | (simp; done) | (simp; omega) | omega) _ | refine Below.drew ?_ | refine Below.setRow ?_ (by first | (simp; done) | (simp; omega) | omega) _ | refine Below.setCell ?_ (by first | (simp; done) | (simp; omega) | omega) _))) (by first | (simp; done) | (simp; omega) | omega)
  unfold ndV
  go_wp2_with fail
  refine (HP.out _).mono ?_
  rintro e w3 ⟨rfl, hb3⟩
  have z3 := (hb3).size
  try simp at z3
  go_wp2_with fail
  refine (awake10_any _).mono ?_
  rintro e w4 ⟨rfl, hb4⟩
  have z4 := (hb4).size
  try simp at z4
  go_wp2_with fail
  refine (awake10_any _).mono ?_
  rintro e w5 ⟨rfl, hb5⟩
  go_wp2_with fail
  go_ret
  refine ⟨rfl, ?_⟩
  refine Below.trans ?_ (Below.mono hb5 (by first | (simp; done) | (simp; omega) | omega))
  refine Below.trans ?_ (Below.mono hb4 (by first | (simp; done) | (simp; omega) | omega))
  refine Below.trans ?_ (Below.mono hb3 (by first | (simp; done) | (simp; omega) | omega))
  exact hb2
set_option maxRecDepth 20000 in
set_option maxHeartbeats 2000000 in
theorem ndCut_badmac1  (fr to ab : Vector UInt8 16) (mac : Vector UInt8 6)  (fl : Vector UInt8 4) (cut : Nat) (w : World) (hc : ¬ mac = mac0) :
    Calls Try.prog 9 #[.agg (ndV 1 fr to ab mac false fl).toArray, .int .u8 cut] w fun e W' => e = .returned (.bool true) ∧ Below w.heap.size w W' := by
  have Hp : ∀ w, Calls Try.prog 26 #[.agg (ndV 1 fr to ab mac false fl).toArray] w _ := fun w => ndPrint_badmac1 fr to ab mac fl w (by simp [hc]) (by simp [hc])
  have HP := Lib.hid Hp
  clear Hp
  unfold ndV at HP
  unfold ndV
  go_enter Try.func9, Try.ntmps9
  go_wp2_with fail
  refine (of10_any 1 fr to ab mac false fl _).mono ?_
  rintro e w2 ⟨rfl, hb2⟩
  have z2 := (hb2).size
  try simp at z2
  replace hb2 := below_of hb2 (show Below (w).heap.size w _ from by (repeat (first | exact Below.refl _ _ | refine Below.alloc ?_ (by first | (simp; done) | (simp; omega) | omega) _ | refine Below.drew ?_ | refine Below.setRow ?_ (by first | (simp; done) | (simp; omega) | omega) _ | refine Below.setCell ?_ (by first | (simp; done) | (simp; omega) | omega) _))) (by first | (simp; done) | (simp; omega) | omega)
  unfold ndV
  go_wp2_with fail
  refine (HP.out _).mono ?_
  rintro e w3 ⟨rfl, hb3⟩
  have z3 := (hb3).size
  try simp at z3
  go_wp2_with fail
  refine (awake10_any _).mono ?_
  rintro e w4 ⟨rfl, hb4⟩
  have z4 := (hb4).size
  try simp at z4
  go_wp2_with fail
  refine (awake10_any _).mono ?_
  rintro e w5 ⟨rfl, hb5⟩
  go_wp2_with fail
  go_ret
  refine ⟨rfl, ?_⟩
  refine Below.trans ?_ (Below.mono hb5 (by first | (simp; done) | (simp; omega) | omega))
  refine Below.trans ?_ (Below.mono hb4 (by first | (simp; done) | (simp; omega) | omega))
  refine Below.trans ?_ (Below.mono hb3 (by first | (simp; done) | (simp; omega) | omega))
  exact hb2
set_option maxRecDepth 20000 in
set_option maxHeartbeats 2000000 in
theorem ndCut_badmac2  (fr to ab : Vector UInt8 16) (mac : Vector UInt8 6)  (fl : Vector UInt8 4) (cut : Nat) (w : World) (hc : ¬ mac = mac0) :
    Calls Try.prog 9 #[.agg (ndV 2 fr to ab mac false fl).toArray, .int .u8 cut] w fun e W' => e = .returned (.bool true) ∧ Below w.heap.size w W' := by
  have Hp : ∀ w, Calls Try.prog 26 #[.agg (ndV 2 fr to ab mac false fl).toArray] w _ := fun w => ndPrint_badmac2 fr to ab mac fl w (by simp [hc]) (by simp [hc])
  have HP := Lib.hid Hp
  clear Hp
  unfold ndV at HP
  unfold ndV
  go_enter Try.func9, Try.ntmps9
  go_wp2_with fail
  refine (of10_any 2 fr to ab mac false fl _).mono ?_
  rintro e w2 ⟨rfl, hb2⟩
  have z2 := (hb2).size
  try simp at z2
  replace hb2 := below_of hb2 (show Below (w).heap.size w _ from by (repeat (first | exact Below.refl _ _ | refine Below.alloc ?_ (by first | (simp; done) | (simp; omega) | omega) _ | refine Below.drew ?_ | refine Below.setRow ?_ (by first | (simp; done) | (simp; omega) | omega) _ | refine Below.setCell ?_ (by first | (simp; done) | (simp; omega) | omega) _))) (by first | (simp; done) | (simp; omega) | omega)
  unfold ndV
  go_wp2_with fail
  refine (HP.out _).mono ?_
  rintro e w3 ⟨rfl, hb3⟩
  have z3 := (hb3).size
  try simp at z3
  go_wp2_with fail
  refine (awake10_any _).mono ?_
  rintro e w4 ⟨rfl, hb4⟩
  have z4 := (hb4).size
  try simp at z4
  go_wp2_with fail
  refine (awake10_any _).mono ?_
  rintro e w5 ⟨rfl, hb5⟩
  go_wp2_with fail
  go_ret
  refine ⟨rfl, ?_⟩
  refine Below.trans ?_ (Below.mono hb5 (by first | (simp; done) | (simp; omega) | omega))
  refine Below.trans ?_ (Below.mono hb4 (by first | (simp; done) | (simp; omega) | omega))
  refine Below.trans ?_ (Below.mono hb3 (by first | (simp; done) | (simp; omega) | omega))
  exact hb2
theorem ndCut_walk (W : World) (base : Nat) (args : Array Value) (hlen : args.size = Try.f9.params.size) (hval : ∀ (j : Nat) t v, Try.f9.params[j]? = some t → args[j]? = some v → Value.okWide Try.prog W .any base t v) :
    Calls Try.prog 9 args W fun e W' => e = .returned (.bool true) ∧ Below W.heap.size W W' := by
  obtain ⟨l⟩ := args
  match l, hlen with
  | [v0, v1], _ =>
  have k0 := hval 0 52 v0 rfl rfl
  have k1 := hval 1 5 v1 rfl rfl
  obtain ⟨op, fr, to, ab, mac, has, fl, rfl⟩ := open_nd k0
  obtain ⟨cut, rfl, hc⟩ := open_num Try.underlying5 k1
  simp [IntKind.has, IntKind.min, IntKind.max, IntKind.bits, IntKind.signed] at hc
  obtain ⟨n, rfl⟩ : ∃ n : Nat, cut = n := ⟨cut.toNat, by omega⟩
  by_cases ho1 : op = 1
  · subst ho1
    cases has with
    | true => exact ndCut_large_op1 fr to ab mac fl n W (by omega)
    | false =>
      by_cases hc : mac = mac0
      · subst hc
        exact ndCut_small_op1 fr to ab mac0 fl n W (by omega)
      · exact ndCut_badmac1 fr to ab mac fl n W hc
  · by_cases ho2 : op = 2
    · subst ho2
      cases has with
      | true => exact ndCut_large_op2 fr to ab mac fl n W (by omega)
      | false =>
        by_cases hc : mac = mac0
        · subst hc
          exact ndCut_small_op2 fr to ab mac0 fl n W (by omega)
        · exact ndCut_badmac2 fr to ab mac fl n W hc
    · exact ndCut_badop op fr to ab mac has fl n W ho1 ho2
end Go.Proofs.Ythnjkpecnaglhaa
