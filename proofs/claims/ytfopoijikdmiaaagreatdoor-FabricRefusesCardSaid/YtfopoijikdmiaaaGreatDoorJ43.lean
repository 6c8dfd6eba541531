/- Texts of this proof, merged: NdO, NdF, NdM. -/
import Derived.Test.YtfopoijikdmiaaaGreatDoorJ42
import Derived.Test.YtfopoijikdmiaaaGreatDoorRegJ
import Derived.Test.YtfopoijikdmiaaaGreatDoorJ3
set_option linter.unusedSimpArgs false
set_option linter.unusedVariables false
set_option maxHeartbeats 8000000
set_option maxRecDepth 20000
namespace Go.Proofs.YtfopoijikdmiaaaGreatDoor
section
open Go.RowKit
def printS (fr to : Vector UInt8 16) (m : List UInt8) (sm : Nat) : List UInt8 := [96, 0, 0, 0] ++ (bytesN m.length 2 ++ ([58, 255] ++ (fr.toList ++ (to.toList ++ (m.take 2 ++ (bytesN sm 2 ++ m.drop 4))))))
def ndS (op : Nat) (fr to ab : Vector UInt8 16) (mac : Vector UInt8 6) (has : Bool) (fl : Vector UInt8 4) : List UInt8 :=
 printS fr to (msgS op [0, 0] ab mac has fl) (sumN op fr to ab mac has fl)
@[simp, go_sem] theorem zeros6 : zeros 6 (Value.int .u8 0) = u8v mac0 := rfl
theorem ndPrint_op1 (fr to ab : Vector UInt8 16) (mac : Vector UInt8 6) (fl : Vector UInt8 4) (w : World) :
  Calls Tryz.prog 248 #[.agg (ndV 1 fr to ab mac true fl).toArray] w fun e w' => e = .returned (.tuple #[.string ⟨(ndS 1 fr to ab mac true fl).toArray⟩, .int .i64 0]) ∧ Below w.heap.size w w' := by
 have Hm := message_op1 fr to ab mac true fl
 have Hs := ndsum_op1 fr to ab mac true fl
 obtain ⟨m, hm⟩ : ∃ m, msgS 1 [0, 0] ab mac true fl = m := ⟨_, rfl⟩
 have hml : m.length = 32 := by rw [← hm, msgS_length]; rfl
 have hS : ndS 1 fr to ab mac true fl = printS fr to m (sumN 1 fr to ab mac true fl) := by rw [ndS, hm]
 have hsm : sumN 1 fr to ab mac true fl ≤ 65535 := by unfold sumN sum16; omega
 obtain ⟨sm, hsm2⟩ : ∃ s, sumN 1 fr to ab mac true fl = s := ⟨_, rfl⟩
 rw [hm] at Hm
 rw [hsm2] at hS Hs hsm
 have HPS := h_ hS
 have HL2 := h_ (fun w => two_any (m.length : Int) w (by omega) (by omega))
 have HX2 := h_ (fun w => two_any (sm : Int) w (by omega) (by omega))
 rw [Int.toNat_natCast] at HL2 HX2
 unfold ndV at Hm Hs
 have HM := h_ Hm
 have HS := h_ Hs
 have hmI : (m.length : Int) ≤ 32 := by omega
 have hmI4 : (4 : Int) ≤ (m.length : Int) := by omega
 have hmI2 : (2 : Int) ≤ (m.length : Int) := by omega
 have hm2 : min 2 m.length = 2 := by omega
 have hm7 : ¬ 9223372036854775807 < 44 + (m.length - 4) := by omega
 have HML := h_ hml
 clear Hm Hs hm hsm2 hS hml
 unfold ndV
 go_enter Tryz.func248, Tryz.ntmps248
 go_wp2_with fail
 refine (HM.out _).mono ?_
 rintro e w1 ⟨rfl, hb1⟩
 have z1 := (hb1).size
 try simp at z1
 have ra : row w1 (w.heap.size) = (.int .i64 1 :: (u8v fr ++ (u8v to ++ (u8v ab ++ (u8v mac ++ (.bool true :: u8v fl)))))).toArray := by rw [row_below hb1 (by first | (simp; done) | (simp; omega) | omega)]; simp [go_sem]; (try rfl)
 replace hb1 := below_of hb1 (show Below (w).heap.size w _ from by (repeat (first | exact Below.refl _ _ | refine Below.al ?_ _ | refine Below.drew ?_ | refine Below.sr ?_ _ | refine Below.sc ?_ _))) (by first | (simp; done) | (simp; omega) | omega)
 have bb1 := hb1
 clear hb1
 go_wp2_with fail
 refine rgR_ [(w.heap.size, (.int .i64 1 :: (u8v fr ++ (u8v to ++ (u8v ab ++ (u8v mac ++ (.bool true :: u8v fl)))))).toArray)] (fun hS => ?_)
 refine qp 2 hS ?_
 refine qp 3 hS ?_
 refine qp 9 hS ?_
 refine qp 10 hS ?_
 refine qp 11 hS ?_
 refine qp 13 hS ?_
 refine qp 14 hS ?_
 refine qp 15 hS ?_
 refine qp 17 hS ?_
 refine qp 18 hS ?_
 refine qp 20 hS ?_
 refine qp 24 hS ?_
 refine qp 25 hS ?_
 refine qc 4 (v := ?_) hS ?_ ?_
 rotate_left
 ·
  intro w' hS'
  simp only [Rws] at hS'
  go_simp
  with_reducible refine (HL2.out _).mono ?_
  rintro e w'' ⟨rfl, hb⟩
  exact ⟨_, rfl, by rfl, hb⟩
 refine qc 21 (v := ?_) hS ?_ ?_
 rotate_left
 ·
  intro w' hS'
  simp only [Rws] at hS'
  go_simp
  with_reducible refine (HS.out _).mono ?_
  rintro e w'' ⟨rfl, hb⟩
  exact ⟨_, rfl, by rfl, hb⟩
 refine qc 22 (v := ?_) hS ?_ ?_
 rotate_left
 ·
  intro w' hS'
  simp only [Rws] at hS'
  go_simp
  with_reducible refine (HX2.out _).mono ?_
  rintro e w'' ⟨rfl, hb⟩
  exact ⟨_, rfl, by rfl, hb⟩
 have zd : w1.drew.heap.size = w1.heap.size := rfl
 refine wpAnyR_all (rs := [0, 6]) kr_ (by simp) (Rws.grow _) hS (fun u1 hu1 hSW => ?_)
 intro i hi
 have zu1 := hu1.size
 simp only [List.mem_cons, List.not_mem_nil, or_false] at hi
 rcases hi with rfl | rfl
 ·
  skip
  refine wpOp_step rfl (fun K hK => ?_)
  clear hS
  go_simp
  obtain ⟨u2, ev⟩ : ∃ x, (u1).alloc (.cells (u8s [96, 0, 0, 0]).toArray 5) = x := ⟨_, rfl⟩
  have hu2 : Below (u1).heap.size u1 u2 := by rw [← ev]; exact ba_
  have zu2 : (u2).heap.size = (u1).heap.size + 1 := by rw [← ev]; exact alloc_sizeW _ _
  have ru2 : row u2 (u1).heap.size = (u8s [96, 0, 0, 0]).toArray := by rw [← ev]; exact row_alloc_at _ _ _ rfl
  try rw [show (#[Value.int .u8 96, Value.int .u8 0, Value.int .u8 0, Value.int .u8 0] : Array Value) = (u8s [96, 0, 0, 0]).toArray from rfl]
  rw [ev]
  have hSn := Rws.grow _ _ _ hSW hu2
  clear ev
  refine hK _ _ (wpAnyR_next (S2 := Rws [((u1).heap.size, (u8s [96, 0, 0, 0]).toArray), (w.heap.size, (.int .i64 1 :: (u8v fr ++ (u8v to ++ (u8v ab ++ (u8v mac ++ (.bool true :: u8v fl)))))).toArray)]) ⟨ru2, by omega, hSn⟩ (fun _ h => h.tail) (fun hS => ?_))
  clear hK K hSW hSn
  (try simp only [Act.put, List.setIfInBounds_toArray, List.set_cons_zero, List.set_cons_succ])
  refine qp 1 hS ?_
  refine qp 5 hS ?_
  refine wpAnyR_all (rs := [6]) kr_ (by simp) (Rws.grow _) hS (fun u3 hu3 hSW => ?_)
  intro i hi
  have zu3 := hu3.size
  obtain rfl := List.mem_singleton.1 hi
  refine wpOp_step rfl (fun K hK => ?_)
  clear hS
  go_simp
  obtain ⟨u4, ev⟩ : ∃ x, (u3).alloc (.cells (u8s [58, 255]).toArray 5) = x := ⟨_, rfl⟩
  have hu4 : Below (u3).heap.size u3 u4 := by rw [← ev]; exact ba_
  have zu4 : (u4).heap.size = (u3).heap.size + 1 := by rw [← ev]; exact alloc_sizeW _ _
  have ru4 : row u4 (u3).heap.size = (u8s [58, 255]).toArray := by rw [← ev]; exact row_alloc_at _ _ _ rfl
  try rw [show (#[Value.int .u8 58, Value.int .u8 255] : Array Value) = (u8s [58, 255]).toArray from rfl]
  rw [ev]
  have hSn := Rws.grow _ _ _ hSW hu4
  clear ev
  refine hK _ _ (wpAnyR_next (S2 := Rws [((u3).heap.size, (u8s [58, 255]).toArray), (u1.heap.size, (u8s [96, 0, 0, 0]).toArray), (w.heap.size, (.int .i64 1 :: (u8v fr ++ (u8v to ++ (u8v ab ++ (u8v mac ++ (.bool true :: u8v fl)))))).toArray)]) ⟨ru4, by omega, hSn⟩ (fun _ h => h.tail) (fun hS => ?_))
  clear hK K hSW hSn
  (try simp only [Act.put, List.setIfInBounds_toArray, List.set_cons_zero, List.set_cons_succ])
  refine qp 7 hS ?_
  refine qp 8 hS ?_
  refine qp 12 hS ?_
  refine qp 16 hS ?_
  refine qp 19 hS ?_
  refine qp 23 hS ?_
  refine qp 26 hS ?_
  refine qp 27 hS ?_
  refine qp 28 hS ?_
  refine wpAnyR_done kr_ (fun w9 h9 => ?_) _
  have b9 : Below w.heap.size w w9 := bb1.trans ((Below.trans (Below.drew (Below.refl _ _)) hu1).trans (hu2.trans (hu3.trans (hu4.trans (h9.mono (by omega)) |>.mono (by omega)) |>.mono (by omega)) |>.mono (by omega)) |>.mono (by omega))
  clear hS
  go_wp2_with fail
  refine bodyPost_ret (results_2 rfl resOk_tmp resOk_tmp) rfl ?_
  exact ⟨by rw [HPS.out, printS]; simp, b9⟩
 ·
  skip
  refine wpOp_step rfl (fun K hK => ?_)
  clear hS
  go_simp
  obtain ⟨u2, ev⟩ : ∃ x, (u1).alloc (.cells (u8s [58, 255]).toArray 5) = x := ⟨_, rfl⟩
  have hu2 : Below (u1).heap.size u1 u2 := by rw [← ev]; exact ba_
  have zu2 : (u2).heap.size = (u1).heap.size + 1 := by rw [← ev]; exact alloc_sizeW _ _
  have ru2 : row u2 (u1).heap.size = (u8s [58, 255]).toArray := by rw [← ev]; exact row_alloc_at _ _ _ rfl
  try rw [show (#[Value.int .u8 58, Value.int .u8 255] : Array Value) = (u8s [58, 255]).toArray from rfl]
  rw [ev]
  have hSn := Rws.grow _ _ _ hSW hu2
  clear ev
  refine hK _ _ (wpAnyR_next (S2 := Rws [((u1).heap.size, (u8s [58, 255]).toArray), (w.heap.size, (.int .i64 1 :: (u8v fr ++ (u8v to ++ (u8v ab ++ (u8v mac ++ (.bool true :: u8v fl)))))).toArray)]) ⟨ru2, by omega, hSn⟩ (fun _ h => h.tail) (fun hS => ?_))
  clear hK K hSW hSn
  (try simp only [Act.put, List.setIfInBounds_toArray, List.set_cons_zero, List.set_cons_succ])
  refine qp 7 hS ?_
  refine wpAnyR_all (rs := [0]) kr_ (by simp) (Rws.grow _) hS (fun u3 hu3 hSW => ?_)
  intro i hi
  have zu3 := hu3.size
  obtain rfl := List.mem_singleton.1 hi
  refine wpOp_step rfl (fun K hK => ?_)
  clear hS
  go_simp
  obtain ⟨u4, ev⟩ : ∃ x, (u3).alloc (.cells (u8s [96, 0, 0, 0]).toArray 5) = x := ⟨_, rfl⟩
  have hu4 : Below (u3).heap.size u3 u4 := by rw [← ev]; exact ba_
  have zu4 : (u4).heap.size = (u3).heap.size + 1 := by rw [← ev]; exact alloc_sizeW _ _
  have ru4 : row u4 (u3).heap.size = (u8s [96, 0, 0, 0]).toArray := by rw [← ev]; exact row_alloc_at _ _ _ rfl
  try rw [show (#[Value.int .u8 96, Value.int .u8 0, Value.int .u8 0, Value.int .u8 0] : Array Value) = (u8s [96, 0, 0, 0]).toArray from rfl]
  rw [ev]
  have hSn := Rws.grow _ _ _ hSW hu4
  clear ev
  refine hK _ _ (wpAnyR_next (S2 := Rws [((u3).heap.size, (u8s [96, 0, 0, 0]).toArray), (u1.heap.size, (u8s [58, 255]).toArray), (w.heap.size, (.int .i64 1 :: (u8v fr ++ (u8v to ++ (u8v ab ++ (u8v mac ++ (.bool true :: u8v fl)))))).toArray)]) ⟨ru4, by omega, hSn⟩ (fun _ h => h.tail) (fun hS => ?_))
  clear hK K hSW hSn
  (try simp only [Act.put, List.setIfInBounds_toArray, List.set_cons_zero, List.set_cons_succ])
  refine qp 1 hS ?_
  refine qp 5 hS ?_
  refine qp 8 hS ?_
  refine qp 12 hS ?_
  refine qp 16 hS ?_
  refine qp 19 hS ?_
  refine qp 23 hS ?_
  refine qp 26 hS ?_
  refine qp 27 hS ?_
  refine qp 28 hS ?_
  refine wpAnyR_done kr_ (fun w9 h9 => ?_) _
  have b9 : Below w.heap.size w w9 := bb1.trans ((Below.trans (Below.drew (Below.refl _ _)) hu1).trans (hu2.trans (hu3.trans (hu4.trans (h9.mono (by omega)) |>.mono (by omega)) |>.mono (by omega)) |>.mono (by omega)) |>.mono (by omega))
  clear hS
  go_wp2_with fail
  refine bodyPost_ret (results_2 rfl resOk_tmp resOk_tmp) rfl ?_
  exact ⟨by rw [HPS.out, printS]; simp, b9⟩
theorem ndPrint_op2 (fr to ab : Vector UInt8 16) (mac : Vector UInt8 6) (fl : Vector UInt8 4) (w : World) :
  Calls Tryz.prog 248 #[.agg (ndV 2 fr to ab mac true fl).toArray] w fun e w' => e = .returned (.tuple #[.string ⟨(ndS 2 fr to ab mac true fl).toArray⟩, .int .i64 0]) ∧ Below w.heap.size w w' := by
 have Hm := message_op2 fr to ab mac true fl
 have Hs := ndsum_op2 fr to ab mac true fl
 obtain ⟨m, hm⟩ : ∃ m, msgS 2 [0, 0] ab mac true fl = m := ⟨_, rfl⟩
 have hml : m.length = 32 := by rw [← hm, msgS_length]; rfl
 have hS : ndS 2 fr to ab mac true fl = printS fr to m (sumN 2 fr to ab mac true fl) := by rw [ndS, hm]
 have hsm : sumN 2 fr to ab mac true fl ≤ 65535 := by unfold sumN sum16; omega
 obtain ⟨sm, hsm2⟩ : ∃ s, sumN 2 fr to ab mac true fl = s := ⟨_, rfl⟩
 rw [hm] at Hm
 rw [hsm2] at hS Hs hsm
 have HPS := h_ hS
 have HL2 := h_ (fun w => two_any (m.length : Int) w (by omega) (by omega))
 have HX2 := h_ (fun w => two_any (sm : Int) w (by omega) (by omega))
 rw [Int.toNat_natCast] at HL2 HX2
 unfold ndV at Hm Hs
 have HM := h_ Hm
 have HS := h_ Hs
 have hmI : (m.length : Int) ≤ 32 := by omega
 have hmI4 : (4 : Int) ≤ (m.length : Int) := by omega
 have hmI2 : (2 : Int) ≤ (m.length : Int) := by omega
 have hm2 : min 2 m.length = 2 := by omega
 have hm7 : ¬ 9223372036854775807 < 44 + (m.length - 4) := by omega
 have HML := h_ hml
 clear Hm Hs hm hsm2 hS hml
 unfold ndV
 go_enter Tryz.func248, Tryz.ntmps248
 go_wp2_with fail
 refine (HM.out _).mono ?_
 rintro e w1 ⟨rfl, hb1⟩
 have z1 := (hb1).size
 try simp at z1
 have ra : row w1 (w.heap.size) = (.int .i64 2 :: (u8v fr ++ (u8v to ++ (u8v ab ++ (u8v mac ++ (.bool true :: u8v fl)))))).toArray := by rw [row_below hb1 (by first | (simp; done) | (simp; omega) | omega)]; simp [go_sem]; (try rfl)
 replace hb1 := below_of hb1 (show Below (w).heap.size w _ from by (repeat (first | exact Below.refl _ _ | refine Below.al ?_ _ | refine Below.drew ?_ | refine Below.sr ?_ _ | refine Below.sc ?_ _))) (by first | (simp; done) | (simp; omega) | omega)
 have bb1 := hb1
 clear hb1
 go_wp2_with fail
 refine rgR_ [(w.heap.size, (.int .i64 2 :: (u8v fr ++ (u8v to ++ (u8v ab ++ (u8v mac ++ (.bool true :: u8v fl)))))).toArray)] (fun hS => ?_)
 refine qp 2 hS ?_
 refine qp 3 hS ?_
 refine qp 9 hS ?_
 refine qp 10 hS ?_
 refine qp 11 hS ?_
 refine qp 13 hS ?_
 refine qp 14 hS ?_
 refine qp 15 hS ?_
 refine qp 17 hS ?_
 refine qp 18 hS ?_
 refine qp 20 hS ?_
 refine qp 24 hS ?_
 refine qp 25 hS ?_
 refine qc 4 (v := ?_) hS ?_ ?_
 rotate_left
 ·
  intro w' hS'
  simp only [Rws] at hS'
  go_simp
  with_reducible refine (HL2.out _).mono ?_
  rintro e w'' ⟨rfl, hb⟩
  exact ⟨_, rfl, by rfl, hb⟩
 refine qc 21 (v := ?_) hS ?_ ?_
 rotate_left
 ·
  intro w' hS'
  simp only [Rws] at hS'
  go_simp
  with_reducible refine (HS.out _).mono ?_
  rintro e w'' ⟨rfl, hb⟩
  exact ⟨_, rfl, by rfl, hb⟩
 refine qc 22 (v := ?_) hS ?_ ?_
 rotate_left
 ·
  intro w' hS'
  simp only [Rws] at hS'
  go_simp
  with_reducible refine (HX2.out _).mono ?_
  rintro e w'' ⟨rfl, hb⟩
  exact ⟨_, rfl, by rfl, hb⟩
 have zd : w1.drew.heap.size = w1.heap.size := rfl
 refine wpAnyR_all (rs := [0, 6]) kr_ (by simp) (Rws.grow _) hS (fun u1 hu1 hSW => ?_)
 intro i hi
 have zu1 := hu1.size
 simp only [List.mem_cons, List.not_mem_nil, or_false] at hi
 rcases hi with rfl | rfl
 ·
  skip
  refine wpOp_step rfl (fun K hK => ?_)
  clear hS
  go_simp
  obtain ⟨u2, ev⟩ : ∃ x, (u1).alloc (.cells (u8s [96, 0, 0, 0]).toArray 5) = x := ⟨_, rfl⟩
  have hu2 : Below (u1).heap.size u1 u2 := by rw [← ev]; exact ba_
  have zu2 : (u2).heap.size = (u1).heap.size + 1 := by rw [← ev]; exact alloc_sizeW _ _
  have ru2 : row u2 (u1).heap.size = (u8s [96, 0, 0, 0]).toArray := by rw [← ev]; exact row_alloc_at _ _ _ rfl
  try rw [show (#[Value.int .u8 96, Value.int .u8 0, Value.int .u8 0, Value.int .u8 0] : Array Value) = (u8s [96, 0, 0, 0]).toArray from rfl]
  rw [ev]
  have hSn := Rws.grow _ _ _ hSW hu2
  clear ev
  refine hK _ _ (wpAnyR_next (S2 := Rws [((u1).heap.size, (u8s [96, 0, 0, 0]).toArray), (w.heap.size, (.int .i64 2 :: (u8v fr ++ (u8v to ++ (u8v ab ++ (u8v mac ++ (.bool true :: u8v fl)))))).toArray)]) ⟨ru2, by omega, hSn⟩ (fun _ h => h.tail) (fun hS => ?_))
  clear hK K hSW hSn
  (try simp only [Act.put, List.setIfInBounds_toArray, List.set_cons_zero, List.set_cons_succ])
  refine qp 1 hS ?_
  refine qp 5 hS ?_
  refine wpAnyR_all (rs := [6]) kr_ (by simp) (Rws.grow _) hS (fun u3 hu3 hSW => ?_)
  intro i hi
  have zu3 := hu3.size
  obtain rfl := List.mem_singleton.1 hi
  refine wpOp_step rfl (fun K hK => ?_)
  clear hS
  go_simp
  obtain ⟨u4, ev⟩ : ∃ x, (u3).alloc (.cells (u8s [58, 255]).toArray 5) = x := ⟨_, rfl⟩
  have hu4 : Below (u3).heap.size u3 u4 := by rw [← ev]; exact ba_
  have zu4 : (u4).heap.size = (u3).heap.size + 1 := by rw [← ev]; exact alloc_sizeW _ _
  have ru4 : row u4 (u3).heap.size = (u8s [58, 255]).toArray := by rw [← ev]; exact row_alloc_at _ _ _ rfl
  try rw [show (#[Value.int .u8 58, Value.int .u8 255] : Array Value) = (u8s [58, 255]).toArray from rfl]
  rw [ev]
  have hSn := Rws.grow _ _ _ hSW hu4
  clear ev
  refine hK _ _ (wpAnyR_next (S2 := Rws [((u3).heap.size, (u8s [58, 255]).toArray), (u1.heap.size, (u8s [96, 0, 0, 0]).toArray), (w.heap.size, (.int .i64 2 :: (u8v fr ++ (u8v to ++ (u8v ab ++ (u8v mac ++ (.bool true :: u8v fl)))))).toArray)]) ⟨ru4, by omega, hSn⟩ (fun _ h => h.tail) (fun hS => ?_))
  clear hK K hSW hSn
  (try simp only [Act.put, List.setIfInBounds_toArray, List.set_cons_zero, List.set_cons_succ])
  refine qp 7 hS ?_
  refine qp 8 hS ?_
  refine qp 12 hS ?_
  refine qp 16 hS ?_
  refine qp 19 hS ?_
  refine qp 23 hS ?_
  refine qp 26 hS ?_
  refine qp 27 hS ?_
  refine qp 28 hS ?_
  refine wpAnyR_done kr_ (fun w9 h9 => ?_) _
  have b9 : Below w.heap.size w w9 := bb1.trans ((Below.trans (Below.drew (Below.refl _ _)) hu1).trans (hu2.trans (hu3.trans (hu4.trans (h9.mono (by omega)) |>.mono (by omega)) |>.mono (by omega)) |>.mono (by omega)) |>.mono (by omega))
  clear hS
  go_wp2_with fail
  refine bodyPost_ret (results_2 rfl resOk_tmp resOk_tmp) rfl ?_
  exact ⟨by rw [HPS.out, printS]; simp, b9⟩
 ·
  skip
  refine wpOp_step rfl (fun K hK => ?_)
  clear hS
  go_simp
  obtain ⟨u2, ev⟩ : ∃ x, (u1).alloc (.cells (u8s [58, 255]).toArray 5) = x := ⟨_, rfl⟩
  have hu2 : Below (u1).heap.size u1 u2 := by rw [← ev]; exact ba_
  have zu2 : (u2).heap.size = (u1).heap.size + 1 := by rw [← ev]; exact alloc_sizeW _ _
  have ru2 : row u2 (u1).heap.size = (u8s [58, 255]).toArray := by rw [← ev]; exact row_alloc_at _ _ _ rfl
  try rw [show (#[Value.int .u8 58, Value.int .u8 255] : Array Value) = (u8s [58, 255]).toArray from rfl]
  rw [ev]
  have hSn := Rws.grow _ _ _ hSW hu2
  clear ev
  refine hK _ _ (wpAnyR_next (S2 := Rws [((u1).heap.size, (u8s [58, 255]).toArray), (w.heap.size, (.int .i64 2 :: (u8v fr ++ (u8v to ++ (u8v ab ++ (u8v mac ++ (.bool true :: u8v fl)))))).toArray)]) ⟨ru2, by omega, hSn⟩ (fun _ h => h.tail) (fun hS => ?_))
  clear hK K hSW hSn
  (try simp only [Act.put, List.setIfInBounds_toArray, List.set_cons_zero, List.set_cons_succ])
  refine qp 7 hS ?_
  refine wpAnyR_all (rs := [0]) kr_ (by simp) (Rws.grow _) hS (fun u3 hu3 hSW => ?_)
  intro i hi
  have zu3 := hu3.size
  obtain rfl := List.mem_singleton.1 hi
  refine wpOp_step rfl (fun K hK => ?_)
  clear hS
  go_simp
  obtain ⟨u4, ev⟩ : ∃ x, (u3).alloc (.cells (u8s [96, 0, 0, 0]).toArray 5) = x := ⟨_, rfl⟩
  have hu4 : Below (u3).heap.size u3 u4 := by rw [← ev]; exact ba_
  have zu4 : (u4).heap.size = (u3).heap.size + 1 := by rw [← ev]; exact alloc_sizeW _ _
  have ru4 : row u4 (u3).heap.size = (u8s [96, 0, 0, 0]).toArray := by rw [← ev]; exact row_alloc_at _ _ _ rfl
  try rw [show (#[Value.int .u8 96, Value.int .u8 0, Value.int .u8 0, Value.int .u8 0] : Array Value) = (u8s [96, 0, 0, 0]).toArray from rfl]
  rw [ev]
  have hSn := Rws.grow _ _ _ hSW hu4
  clear ev
  refine hK _ _ (wpAnyR_next (S2 := Rws [((u3).heap.size, (u8s [96, 0, 0, 0]).toArray), (u1.heap.size, (u8s [58, 255]).toArray), (w.heap.size, (.int .i64 2 :: (u8v fr ++ (u8v to ++ (u8v ab ++ (u8v mac ++ (.bool true :: u8v fl)))))).toArray)]) ⟨ru4, by omega, hSn⟩ (fun _ h => h.tail) (fun hS => ?_))
  clear hK K hSW hSn
  (try simp only [Act.put, List.setIfInBounds_toArray, List.set_cons_zero, List.set_cons_succ])
  refine qp 1 hS ?_
  refine qp 5 hS ?_
  refine qp 8 hS ?_
  refine qp 12 hS ?_
  refine qp 16 hS ?_
  refine qp 19 hS ?_
  refine qp 23 hS ?_
  refine qp 26 hS ?_
  refine qp 27 hS ?_
  refine qp 28 hS ?_
  refine wpAnyR_done kr_ (fun w9 h9 => ?_) _
  have b9 : Below w.heap.size w w9 := bb1.trans ((Below.trans (Below.drew (Below.refl _ _)) hu1).trans (hu2.trans (hu3.trans (hu4.trans (h9.mono (by omega)) |>.mono (by omega)) |>.mono (by omega)) |>.mono (by omega)) |>.mono (by omega))
  clear hS
  go_wp2_with fail
  refine bodyPost_ret (results_2 rfl resOk_tmp resOk_tmp) rfl ?_
  exact ⟨by rw [HPS.out, printS]; simp, b9⟩
end
section
open Go.RowKit
section
variable (op : Nat) (fr to ab : Vector UInt8 16) (mac : Vector UInt8 6) (has : Bool) (fl : Vector UInt8 4) (s : List UInt8) (hs : s.length = 2)
def szN (has : Bool) : Nat := if has then 32 else 24
theorem msgS_len2 (hs : s.length = 2) : (msgS op s ab mac has fl).length = szN has := by
 rw [msgS_length, hs, szN]
 cases has <;> rfl
theorem ndS_eq : ndS op fr to ab mac has fl = [96, 0, 0, 0] ++ (bytesN (szN has) 2 ++ ([58, 255] ++ (fr.toList ++ (to.toList ++ msgS op (bytesN (sumN op fr to ab mac has fl) 2) ab mac has fl)))) := by
 rw [ndS, printS, msgS_len2 op ab mac has fl [0, 0] rfl]
 simp [msgS]
theorem ndS_length : (ndS op fr to ab mac has fl).length = 40 + szN has := by
 rw [ndS_eq]
 simp [msgS_len2]
 omega
theorem msgS_fl (hs : s.length = 2) : vecAt (msgS op s ab mac has fl) 4 4 = fl := by
 have := vecAt_mid ([UInt8.ofNat (134 + op), 0] ++ s) (ab.toList ++ (if has then [UInt8.ofNat op, 1] ++ mac.toList else [])) fl 4 (by simp [hs])
 rwa [List.append_assoc] at this
theorem msgS_ab (hs : s.length = 2) : vecAt (msgS op s ab mac has fl) 8 16 = ab := by
 have := vecAt_mid ([UInt8.ofNat (134 + op), 0] ++ (s ++ fl.toList)) (if has then [UInt8.ofNat op, 1] ++ mac.toList else []) ab 8 (by simp [hs])
 rwa [List.append_assoc, List.append_assoc] at this
theorem msgS_mac (hs : s.length = 2) : vecAt (msgS op s ab mac true fl) 26 6 = mac := by
 have := vecAt_mid ([UInt8.ofNat (134 + op), 0] ++ (s ++ (fl.toList ++ (ab.toList ++ [UInt8.ofNat op, 1])))) [] mac 26 (by simp [hs])
 simpa [msgS] using this
theorem msgS_sum (n : Nat) (hn : n ≤ 65535) : numAt (msgS op (bytesN n 2) ab mac has fl) 2 = n := by
 have := numAt_mid [UInt8.ofNat (134 + op), 0] (bytesN n 2) (fl.toList ++ (ab.toList ++ (if has then [UInt8.ofNat op, 1] ++ mac.toList else []))) 2 rfl (by simp)
 rw [numN_bytesN] at this
 rw [msgS, this]
 omega
theorem sumN_le : sumN op fr to ab mac has fl ≤ 65535 := by unfold sumN sum16; omega
variable (more : List UInt8)
theorem nd_fr : vecAt (ndS op fr to ab mac has fl ++ more) 8 16 = fr := by
 have := vecAt_mid ([96, 0, 0, 0] ++ (bytesN (szN has) 2 ++ [58, 255])) (to.toList ++ (msgS op (bytesN (sumN op fr to ab mac has fl) 2) ab mac has fl ++ more)) fr 8 (by simp)
 rw [ndS_eq]
 simpa using this
theorem nd_to : vecAt (ndS op fr to ab mac has fl ++ more) 24 16 = to := by
 have := vecAt_mid ([96, 0, 0, 0] ++ (bytesN (szN has) 2 ++ ([58, 255] ++ fr.toList))) (msgS op (bytesN (sumN op fr to ab mac has fl) 2) ab mac has fl ++ more) to 24 (by simp)
 rw [ndS_eq]
 simpa using this
theorem nd_sz : numAt (ndS op fr to ab mac has fl ++ more) 4 = szN has := by
 have := numAt_mid [96, 0, 0, 0] (bytesN (szN has) 2) ([58, 255] ++ (fr.toList ++ (to.toList ++ (msgS op (bytesN (sumN op fr to ab mac has fl) 2) ab mac has fl ++ more)))) 4 rfl (by simp)
 rw [numN_bytesN] at this
 rw [ndS_eq]
 simp only [List.append_assoc] at this ⊢
 rw [this]
 cases has <;> rfl
theorem nd_msg : ((ndS op fr to ab mac has fl ++ more).drop 40).take (szN has) = msgS op (bytesN (sumN op fr to ab mac has fl) 2) ab mac has fl := by
 have h : ndS op fr to ab mac has fl ++ more = ([96, 0, 0, 0] ++ (bytesN (szN has) 2 ++ ([58, 255] ++ (fr.toList ++ to.toList)))) ++ (msgS op (bytesN (sumN op fr to ab mac has fl) 2) ab mac has fl ++ more) := by
  rw [ndS_eq]
  simp
 rw [h, List.drop_left' (by simp), List.take_left' (msgS_len2 op ab mac has fl _ (by simp))]
theorem nd_0 (h : 0 < (ndS op fr to ab mac has fl ++ more).length) : (ndS op fr to ab mac has fl ++ more)[0] = 96 := by
 simp [ndS_eq]
theorem nd_6 (h : 6 < (ndS op fr to ab mac has fl ++ more).length) : (ndS op fr to ab mac has fl ++ more)[6] = 58 := by
 have e : (ndS op fr to ab mac has fl ++ more)[6]? = some 58 := by
  rw [ndS_eq]
  simp [List.getElem?_append]
 simpa [List.getElem?_eq_getElem h] using e
theorem nd_7 (h : 7 < (ndS op fr to ab mac has fl ++ more).length) : (ndS op fr to ab mac has fl ++ more)[7] = 255 := by
 have e : (ndS op fr to ab mac has fl ++ more)[7]? = some 255 := by
  rw [ndS_eq]
  simp [List.getElem?_append]
 simpa [List.getElem?_eq_getElem h] using e
theorem msg_24 (hs : s.length = 2) (h : 24 < (msgS op s ab mac true fl).length) : (msgS op s ab mac true fl)[24] = UInt8.ofNat op := by
 have e : (msgS op s ab mac true fl)[24]? = some (UInt8.ofNat op) := by
  simp [msgS, List.getElem?_append, hs]
 simpa [List.getElem?_eq_getElem h] using e
theorem msg_25 (hs : s.length = 2) (h : 25 < (msgS op s ab mac true fl).length) : (msgS op s ab mac true fl)[25] = 1 := by
 have e : (msgS op s ab mac true fl)[25]? = some 1 := by
  simp [msgS, List.getElem?_append, hs]
 simpa [List.getElem?_eq_getElem h] using e
end
theorem ndParse_print_op2 (fr to ab : Vector UInt8 16) (mac : Vector UInt8 6) (fl : Vector UInt8 4) (more : List UInt8) (w : World) (hm : more.length ≤ 2000) :
  Calls Tryz.prog 193 #[.string ⟨(ndS 2 fr to ab mac true fl ++ more).toArray⟩] w fun e w' => e = .returned (.tuple #[.agg (ndV 2 fr to ab mac true fl).toArray, .int .i64 0]) ∧ Below w.heap.size w w' := by
 have hl : (ndS 2 fr to ab mac true fl ++ more).length = 72 + more.length := by rw [List.length_append, ndS_length]; rfl
 have hb : (bytesN (sumN 2 fr to ab mac true fl) 2).length = 2 := by simp
 have hml := msgS_len2 2 ab mac true fl _ hb
 have := ndParse_large_op2 (ndS 2 fr to ab mac true fl ++ more) _ w (by omega) (by omega) (nd_sz 2 fr to ab mac true fl more) (by omega) (nd_0 _ _ _ _ _ _ _ _ _) (nd_6 _ _ _ _ _ _ _ _ _) (nd_7 _ _ _ _ _ _ _ _ _)
  (nd_msg 2 fr to ab mac true fl more) hml rfl rfl (msg_24 _ _ _ _ _ hb _) (msg_25 _ _ _ _ _ hb _) (by rw [nd_fr, nd_to, msgS_ab _ _ _ _ _ _ hb, msgS_mac _ _ _ _ _ hb, msgS_fl _ _ _ _ _ _ hb, msgS_sum _ _ _ _ _ _ (sumN_le _ _ _ _ _ _ _)])
 rwa [nd_fr, nd_to, msgS_ab _ _ _ _ _ _ hb, msgS_mac _ _ _ _ _ hb, msgS_fl _ _ _ _ _ _ hb] at this
end
section
set_option maxRecDepth 20000
end
end Go.Proofs.YtfopoijikdmiaaaGreatDoor
