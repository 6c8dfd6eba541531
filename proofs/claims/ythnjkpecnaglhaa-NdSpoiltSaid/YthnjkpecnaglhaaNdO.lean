/- Contracts of package nd: printing. -/
import Derived.Test.YthnjkpecnaglhaaNdP
import Derived.Test.YthnjkpecnaglhaaNdV
set_option linter.unusedSimpArgs false
set_option linter.unusedVariables false
namespace Go.Proofs.Ythnjkpecnaglhaa
open Go.RowKit
/-- what is printed -/
def ndS (op : Nat) (fr to ab : Vector UInt8 16) (mac : Vector UInt8 6) (has : Bool) (fl : Vector UInt8 4) : List UInt8 :=
  printS fr to (msgS op [0, 0] ab mac has fl) (sumN op fr to ab mac has fl)
@[simp, go_sem] theorem zeros6 : zeros 6 (Value.int .u8 0) = u8v mac0 := rfl
set_option maxRecDepth 20000 in
set_option maxHeartbeats 2000000 in
theorem ndPrint_op1 (fr to ab : Vector UInt8 16) (mac : Vector UInt8 6) (fl : Vector UInt8 4) (w : World) :
    Calls Try.prog 26 #[.agg (ndV 1 fr to ab mac true fl).toArray] w fun e w' => e = .returned (.tuple #[.string ⟨(ndS 1 fr to ab mac true fl).toArray⟩, .int .i64 0]) ∧ Below w.heap.size w w' := by
  have Hm := message_op1 fr to ab mac true fl
  have Hs := ndsum_op1 fr to ab mac true fl
  obtain ⟨m, hm⟩ : ∃ m, msgS 1 [0, 0] ab mac true fl = m := ⟨_, rfl⟩
  have hml : m.length = 32 := by rw [← hm, msgS_length]; rfl
  have hS : ndS 1 fr to ab mac true fl = printS fr to m (sumN 1 fr to ab mac true fl) := by rw [ndS, hm]
  have hsm : sumN 1 fr to ab mac true fl ≤ 65535 := by unfold sumN sum16; omega
  obtain ⟨sm, hsm2⟩ : ∃ s, sumN 1 fr to ab mac true fl = s := ⟨_, rfl⟩
  rw [hm] at Hm
  rw [hsm2] at hS Hs hsm
  rw [hS]
  unfold ndV at Hm Hs
  have HM := Lib.hid Hm
  have HS := Lib.hid Hs
  clear Hm Hs hm hsm2 hS
  unfold ndV
  go_enter Try.func26, Try.ntmps26
  go_wp2_with fail
  refine (HM.out _).mono ?_
  rintro e w1 ⟨rfl, hb1⟩
  have z1 := (hb1).size
  try simp at z1
  have ra : row w1 (w.heap.size) = (.int .i64 1 :: (u8v fr ++ (u8v to ++ (u8v ab ++ (u8v mac ++ (.bool true :: u8v fl)))))).toArray := by rw [row_below hb1 (by first | (simp; done) | (simp; omega) | omega)]; simp [go_sem]; (try rfl)
  replace hb1 := below_of hb1 (show Below (w).heap.size w _ from by (repeat (first | exact Below.refl _ _ | refine Below.alloc ?_ (by first | (simp; done) | (simp; omega) | omega) _ | refine Below.drew ?_ | refine Below.setRow ?_ (by first | (simp; done) | (simp; omega) | omega) _ | refine Below.setCell ?_ (by first | (simp; done) | (simp; omega) | omega) _))) (by first | (simp; done) | (simp; omega) | omega)
  go_wp2_with fail
  refine Go.wp_mono (ndReg4 _ rfl 1 fr to ab mac true fl m (by omega) (by omega) sm hsm HS.out _ _ _ _ _ _ _ _ _ _ _ _ _ _ _ _ _ _ _ _ _ _ _ _ _ _ _ _ _ _ _ _ _ _ _ _ _ _ _ _ _ _ _ _ _ _ _ _ _ _ _ w1 w.heap.size ra (by omega)) ?_
  rintro e a' w' ⟨rfl, hd, h2, h3, hb'⟩
  obtain ⟨tm, df⟩ := a'
  simp only at hd h2 h3
  subst hd
  go_wp2_with fail
  refine bodyPost_ret (results_2 rfl resOk_tmp resOk_tmp) rfl ?_
  refine ⟨by rw [h2, h3], ?_⟩
  exact Below.trans hb1 (Below.mono hb' (by omega))
set_option maxRecDepth 20000 in
set_option maxHeartbeats 2000000 in
theorem ndPrint_op2 (fr to ab : Vector UInt8 16) (mac : Vector UInt8 6) (fl : Vector UInt8 4) (w : World) :
    Calls Try.prog 26 #[.agg (ndV 2 fr to ab mac true fl).toArray] w fun e w' => e = .returned (.tuple #[.string ⟨(ndS 2 fr to ab mac true fl).toArray⟩, .int .i64 0]) ∧ Below w.heap.size w w' := by
  have Hm := message_op2 fr to ab mac true fl
  have Hs := ndsum_op2 fr to ab mac true fl
  obtain ⟨m, hm⟩ : ∃ m, msgS 2 [0, 0] ab mac true fl = m := ⟨_, rfl⟩
  have hml : m.length = 32 := by rw [← hm, msgS_length]; rfl
  have hS : ndS 2 fr to ab mac true fl = printS fr to m (sumN 2 fr to ab mac true fl) := by rw [ndS, hm]
  have hsm : sumN 2 fr to ab mac true fl ≤ 65535 := by unfold sumN sum16; omega
  obtain ⟨sm, hsm2⟩ : ∃ s, sumN 2 fr to ab mac true fl = s := ⟨_, rfl⟩
  rw [hm] at Hm
  rw [hsm2] at hS Hs hsm
  rw [hS]
  unfold ndV at Hm Hs
  have HM := Lib.hid Hm
  have HS := Lib.hid Hs
  clear Hm Hs hm hsm2 hS
  unfold ndV
  go_enter Try.func26, Try.ntmps26
  go_wp2_with fail
  refine (HM.out _).mono ?_
  rintro e w1 ⟨rfl, hb1⟩
  have z1 := (hb1).size
  try simp at z1
  have ra : row w1 (w.heap.size) = (.int .i64 2 :: (u8v fr ++ (u8v to ++ (u8v ab ++ (u8v mac ++ (.bool true :: u8v fl)))))).toArray := by rw [row_below hb1 (by first | (simp; done) | (simp; omega) | omega)]; simp [go_sem]; (try rfl)
  replace hb1 := below_of hb1 (show Below (w).heap.size w _ from by (repeat (first | exact Below.refl _ _ | refine Below.alloc ?_ (by first | (simp; done) | (simp; omega) | omega) _ | refine Below.drew ?_ | refine Below.setRow ?_ (by first | (simp; done) | (simp; omega) | omega) _ | refine Below.setCell ?_ (by first | (simp; done) | (simp; omega) | omega) _))) (by first | (simp; done) | (simp; omega) | omega)
  go_wp2_with fail
  refine Go.wp_mono (ndReg4 _ rfl 2 fr to ab mac true fl m (by omega) (by omega) sm hsm HS.out _ _ _ _ _ _ _ _ _ _ _ _ _ _ _ _ _ _ _ _ _ _ _ _ _ _ _ _ _ _ _ _ _ _ _ _ _ _ _ _ _ _ _ _ _ _ _ _ _ _ _ w1 w.heap.size ra (by omega)) ?_
  rintro e a' w' ⟨rfl, hd, h2, h3, hb'⟩
  obtain ⟨tm, df⟩ := a'
  simp only at hd h2 h3
  subst hd
  go_wp2_with fail
  refine bodyPost_ret (results_2 rfl resOk_tmp resOk_tmp) rfl ?_
  refine ⟨by rw [h2, h3], ?_⟩
  exact Below.trans hb1 (Below.mono hb' (by omega))
set_option maxRecDepth 20000 in
set_option maxHeartbeats 2000000 in
theorem ndPrintS_op1 (fr to ab : Vector UInt8 16) (fl : Vector UInt8 4) (w : World) :
    Calls Try.prog 26 #[.agg (ndV 1 fr to ab mac0 false fl).toArray] w fun e w' => e = .returned (.tuple #[.string ⟨(ndS 1 fr to ab mac0 false fl).toArray⟩, .int .i64 0]) ∧ Below w.heap.size w w' := by
  have Hm := message_op1 fr to ab mac0 false fl
  have Hs := ndsum_op1 fr to ab mac0 false fl
  obtain ⟨m, hm⟩ : ∃ m, msgS 1 [0, 0] ab mac0 false fl = m := ⟨_, rfl⟩
  have hml : m.length = 24 := by rw [← hm, msgS_length]; rfl
  have hS : ndS 1 fr to ab mac0 false fl = printS fr to m (sumN 1 fr to ab mac0 false fl) := by rw [ndS, hm]
  have hsm : sumN 1 fr to ab mac0 false fl ≤ 65535 := by unfold sumN sum16; omega
  obtain ⟨sm, hsm2⟩ : ∃ s, sumN 1 fr to ab mac0 false fl = s := ⟨_, rfl⟩
  rw [hm] at Hm
  rw [hsm2] at hS Hs hsm
  rw [hS]
  unfold ndV at Hm Hs
  have HM := Lib.hid Hm
  have HS := Lib.hid Hs
  clear Hm Hs hm hsm2 hS
  unfold ndV
  go_enter Try.func26, Try.ntmps26
  go_wp2_with fail
  refine (HM.out _).mono ?_
  rintro e w1 ⟨rfl, hb1⟩
  have z1 := (hb1).size
  try simp at z1
  have ra : row w1 (w.heap.size) = (.int .i64 1 :: (u8v fr ++ (u8v to ++ (u8v ab ++ (u8v mac0 ++ (.bool false :: u8v fl)))))).toArray := by rw [row_below hb1 (by first | (simp; done) | (simp; omega) | omega)]; simp [go_sem]; (try rfl)
  replace hb1 := below_of hb1 (show Below (w).heap.size w _ from by (repeat (first | exact Below.refl _ _ | refine Below.alloc ?_ (by first | (simp; done) | (simp; omega) | omega) _ | refine Below.drew ?_ | refine Below.setRow ?_ (by first | (simp; done) | (simp; omega) | omega) _ | refine Below.setCell ?_ (by first | (simp; done) | (simp; omega) | omega) _))) (by first | (simp; done) | (simp; omega) | omega)
  go_wp2_with fail
  refine Go.wp_mono (ndReg4 _ rfl 1 fr to ab mac0 false fl m (by omega) (by omega) sm hsm HS.out _ _ _ _ _ _ _ _ _ _ _ _ _ _ _ _ _ _ _ _ _ _ _ _ _ _ _ _ _ _ _ _ _ _ _ _ _ _ _ _ _ _ _ _ _ _ _ _ _ _ _ w1 w.heap.size ra (by omega)) ?_
  rintro e a' w' ⟨rfl, hd, h2, h3, hb'⟩
  obtain ⟨tm, df⟩ := a'
  simp only at hd h2 h3
  subst hd
  go_wp2_with fail
  refine bodyPost_ret (results_2 rfl resOk_tmp resOk_tmp) rfl ?_
  refine ⟨by rw [h2, h3], ?_⟩
  exact Below.trans hb1 (Below.mono hb' (by omega))
set_option maxRecDepth 20000 in
set_option maxHeartbeats 2000000 in
theorem ndPrintS_op2 (fr to ab : Vector UInt8 16) (fl : Vector UInt8 4) (w : World) :
    Calls Try.prog 26 #[.agg (ndV 2 fr to ab mac0 false fl).toArray] w fun e w' => e = .returned (.tuple #[.string ⟨(ndS 2 fr to ab mac0 false fl).toArray⟩, .int .i64 0]) ∧ Below w.heap.size w w' := by
  have Hm := message_op2 fr to ab mac0 false fl
  have Hs := ndsum_op2 fr to ab mac0 false fl
  obtain ⟨m, hm⟩ : ∃ m, msgS 2 [0, 0] ab mac0 false fl = m := ⟨_, rfl⟩
  have hml : m.length = 24 := by rw [← hm, msgS_length]; rfl
  have hS : ndS 2 fr to ab mac0 false fl = printS fr to m (sumN 2 fr to ab mac0 false fl) := by rw [ndS, hm]
  have hsm : sumN 2 fr to ab mac0 false fl ≤ 65535 := by unfold sumN sum16; omega
  obtain ⟨sm, hsm2⟩ : ∃ s, sumN 2 fr to ab mac0 false fl = s := ⟨_, rfl⟩
  rw [hm] at Hm
  rw [hsm2] at hS Hs hsm
  rw [hS]
  unfold ndV at Hm Hs
  have HM := Lib.hid Hm
  have HS := Lib.hid Hs
  clear Hm Hs hm hsm2 hS
  unfold ndV
  go_enter Try.func26, Try.ntmps26
  go_wp2_with fail
  refine (HM.out _).mono ?_
  rintro e w1 ⟨rfl, hb1⟩
  have z1 := (hb1).size
  try simp at z1
  have ra : row w1 (w.heap.size) = (.int .i64 2 :: (u8v fr ++ (u8v to ++ (u8v ab ++ (u8v mac0 ++ (.bool false :: u8v fl)))))).toArray := by rw [row_below hb1 (by first | (simp; done) | (simp; omega) | omega)]; simp [go_sem]; (try rfl)
  replace hb1 := below_of hb1 (show Below (w).heap.size w _ from by (repeat (first | exact Below.refl _ _ | refine Below.alloc ?_ (by first | (simp; done) | (simp; omega) | omega) _ | refine Below.drew ?_ | refine Below.setRow ?_ (by first | (simp; done) | (simp; omega) | omega) _ | refine Below.setCell ?_ (by first | (simp; done) | (simp; omega) | omega) _))) (by first | (simp; done) | (simp; omega) | omega)
  go_wp2_with fail
  refine Go.wp_mono (ndReg4 _ rfl 2 fr to ab mac0 false fl m (by omega) (by omega) sm hsm HS.out _ _ _ _ _ _ _ _ _ _ _ _ _ _ _ _ _ _ _ _ _ _ _ _ _ _ _ _ _ _ _ _ _ _ _ _ _ _ _ _ _ _ _ _ _ _ _ _ _ _ _ w1 w.heap.size ra (by omega)) ?_
  rintro e a' w' ⟨rfl, hd, h2, h3, hb'⟩
  obtain ⟨tm, df⟩ := a'
  simp only at hd h2 h3
  subst hd
  go_wp2_with fail
  refine bodyPost_ret (results_2 rfl resOk_tmp resOk_tmp) rfl ?_
  refine ⟨by rw [h2, h3], ?_⟩
  exact Below.trans hb1 (Below.mono hb' (by omega))
end Go.Proofs.Ythnjkpecnaglhaa
