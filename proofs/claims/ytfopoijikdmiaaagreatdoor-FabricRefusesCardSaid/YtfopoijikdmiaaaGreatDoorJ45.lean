/- Texts of this proof, merged: HusN, NdA. -/
import Derived.Test.YtfopoijikdmiaaaGreatDoorHusAJ
import Derived.Test.YtfopoijikdmiaaaGreatDoorJ43
import Derived.Test.YtfopoijikdmiaaaGreatDoorJ44
import Derived.Test.YtfopoijikdmiaaaGreatDoorRegJ
set_option linter.unusedSimpArgs false
set_option linter.unusedVariables false
set_option maxHeartbeats 8000000
set_option maxRecDepth 20000
namespace Go.Proofs.YtfopoijikdmiaaaGreatDoor
section
open Go.RowKit
theorem hSixteen_q (fr to ab : Vector UInt8 16) (mac : Vector UInt8 6) (fl : Vector UInt8 4) (w : World) :
  Calls Tryz.prog 242 #[.agg (ndV 1 fr to ab mac true fl).toArray] w fun e w' => e = .returned (.tuple #[.agg (Value.string ⟨fr.toList.toArray⟩ :: u8v mac).toArray, .bool (fr != Vector.replicate 16 0)]) ∧ Below w.heap.size w w' := by
 unfold ndV
 go_enter Tryz.func242, Tryz.ntmps242
 obtain ⟨W, hW⟩ : ∃ x, (w.alloc (.cells (Value.int .i64 1 :: (u8v fr ++ (u8v to ++ (u8v ab ++ (u8v mac ++ (Value.bool true :: u8v fl)))))).toArray 367)).alloc (.cells (Value.string ⟨#[]⟩ :: u8v mac0).toArray 353) = x := ⟨_, rfl⟩
 have rA : row W w.heap.size = (Value.int .i64 1 :: (u8v fr ++ (u8v to ++ (u8v ab ++ (u8v mac ++ (Value.bool true :: u8v fl)))))).toArray := by rw [← hW]; simp [go_sem]
 have rB : row W (w.heap.size + 1) = (Value.string ⟨#[]⟩ :: u8v mac0).toArray := by rw [← hW]; simp [go_sem]
 have zW : W.heap.size = w.heap.size + 2 := by rw [← hW]; simp
 have bW : Below w.heap.size w W := by
  rw [← hW]
  (repeat (first | exact Below.refl _ _ | refine Below.al ?_ _ | refine Below.drew ?_ | refine Below.sr ?_ _ | refine Below.sc ?_ _))
 go_wp2_with fail
 clear hW
 refine rgR_ [(w.heap.size, (Value.int .i64 1 :: (u8v fr ++ (u8v to ++ (u8v ab ++ (u8v mac ++ (Value.bool true :: u8v fl)))))).toArray)] (fun hS => ?_)
 refine qp 0 hS ?_
 refine qp 1 hS ?_
 refine qp 2 hS ?_
 refine qp 3 hS ?_
 refine qp 4 hS ?_
 refine qp 5 hS ?_
 refine qp 6 hS ?_
 refine qp 7 hS ?_
 refine qp 8 hS ?_
 refine qp 9 hS ?_
 refine qp 10 hS ?_
 refine qp 11 hS ?_
 refine qp 12 hS ?_
 refine qp 13 hS ?_
 have rd : row W.drew (w.heap.size + 1) = (Value.string ⟨#[]⟩ :: u8v mac0).toArray := rB
 refine wpAnyR_store (i := 14) (b := (w.heap.size + 1)) (c := (Value.string ⟨fr.toList.toArray⟩ :: u8v mac).toArray) opt_ rfl rfl kr_ (by simp; (try omega)) hS (by rw [rd]; simp; (try omega)) (fun w1 hr => by rw [rd] at hr; go_simp; (try rfl)) (fun u1 hu1 ru1 hS => ?_)
 refine qp 15 hS ?_
 refine wpAnyR_done kr_ (fun w2 b2 => ?_) _
 have z1 : W.heap.size ≤ u1.heap.size := hu1.size
 have z2 := b2.size
 rw [setRow_size] at z2
 have r2 : row w2 (w.heap.size + 1) = (Value.string ⟨fr.toList.toArray⟩ :: u8v mac).toArray := by rw [row_below b2 (by rw [setRow_size]; omega)]; exact row_setRow_same (by rw [ru1, rd]; simp) (by rw [ru1, rd]; simp)
 have b3 : Below w.heap.size w w2 := Below.trans (Below.setRow (Below.trans bW ((below_step (Below.drew (Below.refl _ _)) hu1).mono (by omega))) (by omega) _) (b2.mono (by rw [setRow_size]; omega))
 clear b2 hu1 ru1 rd hS
 go_wp2_with fail
 refine bodyPost_ret (results_2 rfl (resOk_row rfl ?_) resOk_tmp) rfl ?_
 ·
  rw [r2]; simp
 ·
  exact ⟨by rw [r2]; simp [bne], b3⟩
theorem hSixteen_qn (fr to ab : Vector UInt8 16) (mac : Vector UInt8 6) (fl : Vector UInt8 4) (w : World) :
  Calls Tryz.prog 242 #[.agg (ndV 1 fr to ab mac false fl).toArray] w fun e w' => e = .returned (.tuple #[.agg (Value.string ⟨fr.toList.toArray⟩ :: u8v mac).toArray, .bool (false)]) ∧ Below w.heap.size w w' := by
 unfold ndV
 go_enter Tryz.func242, Tryz.ntmps242
 obtain ⟨W, hW⟩ : ∃ x, (w.alloc (.cells (Value.int .i64 1 :: (u8v fr ++ (u8v to ++ (u8v ab ++ (u8v mac ++ (Value.bool false :: u8v fl)))))).toArray 367)).alloc (.cells (Value.string ⟨#[]⟩ :: u8v mac0).toArray 353) = x := ⟨_, rfl⟩
 have rA : row W w.heap.size = (Value.int .i64 1 :: (u8v fr ++ (u8v to ++ (u8v ab ++ (u8v mac ++ (Value.bool false :: u8v fl)))))).toArray := by rw [← hW]; simp [go_sem]
 have rB : row W (w.heap.size + 1) = (Value.string ⟨#[]⟩ :: u8v mac0).toArray := by rw [← hW]; simp [go_sem]
 have zW : W.heap.size = w.heap.size + 2 := by rw [← hW]; simp
 have bW : Below w.heap.size w W := by
  rw [← hW]
  (repeat (first | exact Below.refl _ _ | refine Below.al ?_ _ | refine Below.drew ?_ | refine Below.sr ?_ _ | refine Below.sc ?_ _))
 go_wp2_with fail
 clear hW
 refine rgR_ [(w.heap.size, (Value.int .i64 1 :: (u8v fr ++ (u8v to ++ (u8v ab ++ (u8v mac ++ (Value.bool false :: u8v fl)))))).toArray)] (fun hS => ?_)
 refine qp 0 hS ?_
 refine qp 1 hS ?_
 refine qp 2 hS ?_
 refine qp 3 hS ?_
 refine qp 4 hS ?_
 refine qp 5 hS ?_
 refine qp 6 hS ?_
 refine qp 7 hS ?_
 refine qp 8 hS ?_
 refine qn 9 hS ?_
 refine qn 10 hS ?_
 refine qn 11 hS ?_
 refine qn 12 hS ?_
 refine qp 13 hS ?_
 have rd : row W.drew (w.heap.size + 1) = (Value.string ⟨#[]⟩ :: u8v mac0).toArray := rB
 refine wpAnyR_store (i := 14) (b := (w.heap.size + 1)) (c := (Value.string ⟨fr.toList.toArray⟩ :: u8v mac).toArray) opt_ rfl rfl kr_ (by simp; (try omega)) hS (by rw [rd]; simp; (try omega)) (fun w1 hr => by rw [rd] at hr; go_simp; (try rfl)) (fun u1 hu1 ru1 hS => ?_)
 refine qp 15 hS ?_
 refine wpAnyR_done kr_ (fun w2 b2 => ?_) _
 have z1 : W.heap.size ≤ u1.heap.size := hu1.size
 have z2 := b2.size
 rw [setRow_size] at z2
 have r2 : row w2 (w.heap.size + 1) = (Value.string ⟨fr.toList.toArray⟩ :: u8v mac).toArray := by rw [row_below b2 (by rw [setRow_size]; omega)]; exact row_setRow_same (by rw [ru1, rd]; simp) (by rw [ru1, rd]; simp)
 have b3 : Below w.heap.size w w2 := Below.trans (Below.setRow (Below.trans bW ((below_step (Below.drew (Below.refl _ _)) hu1).mono (by omega))) (by omega) _) (b2.mono (by rw [setRow_size]; omega))
 clear b2 hu1 ru1 rd hS
 go_wp2_with fail
 refine bodyPost_ret (results_2 rfl (resOk_row rfl ?_) resOk_tmp) rfl ?_
 ·
  rw [r2]; simp
 ·
  exact ⟨by rw [r2]; simp [bne], b3⟩
theorem hSixteen_a (op : Int) (fr to ab : Vector UInt8 16) (mac : Vector UInt8 6) (has : Bool) (fl : Vector UInt8 4) (w : World) (h : (op == 1) = false) :
  Calls Tryz.prog 242 #[.agg (ndV op fr to ab mac has fl).toArray] w fun e w' => e = .returned (.tuple #[.agg (Value.string ⟨ab.toList.toArray⟩ :: u8v mac).toArray, .bool (has)]) ∧ Below w.heap.size w w' := by
 unfold ndV
 go_enter Tryz.func242, Tryz.ntmps242
 obtain ⟨W, hW⟩ : ∃ x, (w.alloc (.cells (Value.int .i64 op :: (u8v fr ++ (u8v to ++ (u8v ab ++ (u8v mac ++ (Value.bool has :: u8v fl)))))).toArray 367)).alloc (.cells (Value.string ⟨#[]⟩ :: u8v mac0).toArray 353) = x := ⟨_, rfl⟩
 have rA : row W w.heap.size = (Value.int .i64 op :: (u8v fr ++ (u8v to ++ (u8v ab ++ (u8v mac ++ (Value.bool has :: u8v fl)))))).toArray := by rw [← hW]; simp [go_sem]
 have rB : row W (w.heap.size + 1) = (Value.string ⟨#[]⟩ :: u8v mac0).toArray := by rw [← hW]; simp [go_sem]
 have zW : W.heap.size = w.heap.size + 2 := by rw [← hW]; simp
 have bW : Below w.heap.size w W := by
  rw [← hW]
  (repeat (first | exact Below.refl _ _ | refine Below.al ?_ _ | refine Below.drew ?_ | refine Below.sr ?_ _ | refine Below.sc ?_ _))
 go_wp2_with fail
 clear hW
 refine rgR_ [(w.heap.size, (Value.int .i64 op :: (u8v fr ++ (u8v to ++ (u8v ab ++ (u8v mac ++ (Value.bool has :: u8v fl)))))).toArray)] (fun hS => ?_)
 refine qp 0 hS ?_
 refine qp 1 hS ?_
 refine qp 2 hS ?_
 refine qp 3 hS ?_
 refine qp 4 hS ?_
 refine qp 5 hS ?_
 refine qp 6 hS ?_
 refine qp 7 hS ?_
 have rd : row W.drew (w.heap.size + 1) = (Value.string ⟨#[]⟩ :: u8v mac0).toArray := rB
 refine wpAnyR_store (i := 8) (b := (w.heap.size + 1)) (c := (Value.string ⟨ab.toList.toArray⟩ :: u8v mac).toArray) opt_ rfl rfl kr_ (by simp; (try omega)) hS (by rw [rd]; simp; (try omega)) (fun w1 hr => by rw [rd] at hr; go_simp; (try rfl)) (fun u1 hu1 ru1 hS => ?_)
 refine qp 9 hS ?_
 refine wpAnyR_done kr_ (fun w2 b2 => ?_) _
 have z1 : W.heap.size ≤ u1.heap.size := hu1.size
 have z2 := b2.size
 rw [setRow_size] at z2
 have r2 : row w2 (w.heap.size + 1) = (Value.string ⟨ab.toList.toArray⟩ :: u8v mac).toArray := by rw [row_below b2 (by rw [setRow_size]; omega)]; exact row_setRow_same (by rw [ru1, rd]; simp) (by rw [ru1, rd]; simp)
 have b3 : Below w.heap.size w w2 := Below.trans (Below.setRow (Below.trans bW ((below_step (Below.drew (Below.refl _ _)) hu1).mono (by omega))) (by omega) _) (b2.mono (by rw [setRow_size]; omega))
 clear b2 hu1 ru1 rd hS
 go_wp2_with fail
 refine bodyPost_ret (results_2 rfl (resOk_row rfl ?_) resOk_tmp) rfl ?_
 ·
  rw [r2]; simp
 ·
  exact ⟨by rw [r2]; simp [bne], b3⟩
end
section
open Go.ChangeShapes Go.WideShapes Go.ChangeAt Go.RowKit
def fl96 : Vector UInt8 4 := #v[96, 0, 0, 0]
@[go_sem] theorem fl96_c : (Value.int .u8 96 :: (zeros 4 (Value.int .u8 0)).tail) = u8v fl96 := rfl
theorem ndAnswer_any (op : Int) (fr t0 ab : Vector UInt8 16) (qm mac to : Vector UInt8 6) (has : Bool) (fl : Vector UInt8 4) (w : World) :
  Calls Tryz.prog 194 #[.agg (.int .i64 op :: (u8v fr ++ (u8v t0 ++ (u8v ab ++ (u8v qm ++ (.bool has :: u8v fl)))))).toArray, .agg (u8v mac).toArray, .agg (u8v to).toArray] w fun e w' => e = .returned (.agg (frameV to mac 34525 (ndS 2 ab fr ab mac true fl96)).toArray) ∧ Below w.heap.size w w' := by
 have Hp : ∀ w, Calls Tryz.prog 248 #[.agg (ndV 2 ab fr ab mac true fl96).toArray] w _ := fun w => ndPrint_op2 ab fr ab mac fl96 w
 unfold ndV at Hp
 obtain ⟨b, hb⟩ : ∃ b, ndS 2 ab fr ab mac true fl96 = b := ⟨_, rfl⟩
 simp only [hb] at Hp ⊢
 have HP := h_ Hp
 clear Hp hb
 have ra0 : row ((((w.alloc (.cells (.int .i64 op :: (u8v fr ++ (u8v t0 ++ (u8v ab ++ (u8v qm ++ (.bool has :: u8v fl)))))).toArray 367)).alloc (.cells (u8v mac).toArray 114)).alloc (.cells (u8v to).toArray 114)).alloc (.cells (zeros 12 (Value.int .u8 0) ++ [Value.int .i64 0, .string ⟨#[]⟩]).toArray 191)) w.heap.size = (.int .i64 op :: (u8v fr ++ (u8v t0 ++ (u8v ab ++ (u8v qm ++ (.bool has :: u8v fl)))))).toArray := by simp [go_sem]
 have rb0 : row ((((w.alloc (.cells (.int .i64 op :: (u8v fr ++ (u8v t0 ++ (u8v ab ++ (u8v qm ++ (.bool has :: u8v fl)))))).toArray 367)).alloc (.cells (u8v mac).toArray 114)).alloc (.cells (u8v to).toArray 114)).alloc (.cells (zeros 12 (Value.int .u8 0) ++ [Value.int .i64 0, .string ⟨#[]⟩]).toArray 191)) (w.heap.size + 1) = (u8v mac).toArray := by simp [go_sem]
 go_enter Tryz.func194, Tryz.ntmps194
 go_wp2_with fail
 (with_reducible refine (HP.out _).mono ?_)
 clear ra0 rb0
 rintro e w1 ⟨rfl, hb1⟩
 have z1 := (hb1).size
 try simp at z1
 have ra : row w1 (w.heap.size + 1) = (u8v mac).toArray := by rw [row_below hb1 (by first | (simp; done) | (simp; omega) | omega)]; simp [go_sem]; (try rfl)
 have rb : row w1 (w.heap.size + 1 + 1) = (u8v to).toArray := by rw [row_below hb1 (by first | (simp; done) | (simp; omega) | omega)]; simp [go_sem]; (try rfl)
 have rc : row w1 (w.heap.size + 1 + 1 + 1) = (zeros 12 (Value.int .u8 0) ++ [Value.int .i64 0, .string ⟨#[]⟩]).toArray := by rw [row_below hb1 (by first | (simp; done) | (simp; omega) | omega)]; simp [go_sem]; (try rfl)
 replace hb1 := below_of hb1 (show Below (w).heap.size w _ from by (repeat (first | exact Below.refl _ _ | refine Below.al ?_ _ | refine Below.drew ?_ | refine Below.sr ?_ _ | refine Below.sc ?_ _))) (by first | (simp; done) | (simp; omega) | omega)
 go_wp2_with fail
 have hfin := row_setRow_same (w := w1) (g := w.heap.size + 1 + 1 + 1) (c := (u8v to ++ (u8v mac ++ [Value.int .i64 34525, .string ⟨b.toArray⟩])).toArray) (by rw [rc]; simp) (by rw [rc]; simp)
 (try simp only [Exit.inBlock, Exit.then])
 refine bodyPost_ret (results_1 rfl (resOk_row rfl ?_)) rfl ?_
 ·
  rw [hfin]
  simp
 refine ⟨by rw [hfin]; simp [frameV], ?_⟩
 refine Below.setRow hb1 (by first | (simp; done) | (simp; omega) | omega) _
end
end Go.Proofs.YtfopoijikdmiaaaGreatDoor
