/- Contracts of package hush: bindings of messages of chapter 10. -/
import Derived.Test.YtckckabedgpbiaaGreatHusAJ
import Derived.Test.YtckckabedgpbiaaGreatJ21
set_option linter.unusedSimpArgs false
set_option linter.unusedVariables false
set_option maxRecDepth 4000
namespace Go.Proofs.YtckckabedgpbiaaGreat
open Go.RowKit
theorem hSixteen_q (fr to ab : Vector UInt8 16) (mac : Vector UInt8 6) (fl : Vector UInt8 4) (w : World) :
  Calls Tryz.prog 92 #[.agg (ndV 1 fr to ab mac true fl).toArray] w fun e w' => e = .returned (.tuple #[.agg (Value.string ⟨fr.toList.toArray⟩ :: u8v mac).toArray, .bool (fr != Vector.replicate 16 0)]) ∧ Below w.heap.size w w' := by
 unfold ndV
 go_enter Tryz.func92, Tryz.ntmps92
 obtain ⟨W, hW⟩ : ∃ x, (w.alloc (.cells (Value.int .i64 1 :: (u8v fr ++ (u8v to ++ (u8v ab ++ (u8v mac ++ (Value.bool true :: u8v fl)))))).toArray 164)).alloc (.cells (Value.string ⟨#[]⟩ :: u8v mac0).toArray 150) = x := ⟨_, rfl⟩
 have rA : row W w.heap.size = (Value.int .i64 1 :: (u8v fr ++ (u8v to ++ (u8v ab ++ (u8v mac ++ (Value.bool true :: u8v fl)))))).toArray := by rw [← hW]; simp [go_sem]
 have rB : row W (w.heap.size + 1) = (Value.string ⟨#[]⟩ :: u8v mac0).toArray := by rw [← hW]; simp [go_sem]
 have zW : W.heap.size = w.heap.size + 2 := by rw [← hW]; simp
 have bW : Below w.heap.size w W := by
  rw [← hW]
  (repeat (first | exact Below.refl _ _ | refine Below.al ?_ _ | refine Below.drew ?_ | refine Below.sr ?_ _ | refine Below.sc ?_ _))
 go_wp2_with fail
 clear hW
 refine wp_region_beginR [(w.heap.size, (Value.int .i64 1 :: (u8v fr ++ (u8v to ++ (u8v ab ++ (u8v mac ++ (Value.bool true :: u8v fl)))))).toArray)] rfl (by simp only [Rws]; (repeat (first | exact trivial | refine ⟨(by first | assumption | (simp [go_sem, *]; done)), (by first | omega | (simp; done) | (simp; omega)), ?_⟩))) (fun hS => ?_)
 refine qp 0 hS ?_
 refine qp 1 hS ?_
 refine qp 2 hS ?_
 refine qp 3 hS ?_
 refine qp 4 hS ?_
 refine qp 5 hS ?_
 refine qp 6 hS ?_
 refine qp 7 hS ?_
 refine qp 8 hS ?_
 refine qp 9 hS ?_
 refine qp 10 hS ?_
 refine qp 11 hS ?_
 refine qp 12 hS ?_
 refine qp 13 hS ?_
 have rd : row W.drew (w.heap.size + 1) = (Value.string ⟨#[]⟩ :: u8v mac0).toArray := rB
 refine wpAnyR_store (i := 14) (b := (w.heap.size + 1)) (c := (Value.string ⟨fr.toList.toArray⟩ :: u8v mac).toArray) (by simp only [List.getElem?_toArray, List.getElem?_cons_succ, List.getElem?_cons_zero]; rfl) rfl rfl (by kernel_rfl) (by simp; (try omega)) hS (by rw [rd]; simp; (try omega)) (fun w1 hr => by rw [rd] at hr; go_simp; (try rfl)) (fun u1 hu1 ru1 hS => ?_)
 refine qp 15 hS ?_
 refine wpAnyR_done (by kernel_rfl) (fun w2 b2 => ?_) _
 have z1 : W.heap.size ≤ u1.heap.size := hu1.size
 have z2 := b2.size
 rw [setRow_size] at z2
 have r2 : row w2 (w.heap.size + 1) = (Value.string ⟨fr.toList.toArray⟩ :: u8v mac).toArray := by rw [row_below b2 (by rw [setRow_size]; omega)]; exact row_setRow_same (by rw [ru1, rd]; simp) (by rw [ru1, rd]; simp)
 have b3 : Below w.heap.size w w2 := Below.trans (Below.setRow (Below.trans bW ((below_step (Below.drew (Below.refl _ _)) hu1).mono (by omega))) (by omega) _) (b2.mono (by rw [setRow_size]; omega))
 clear b2 hu1 ru1 rd hS
 go_wp2_with fail
 refine bodyPost_ret (results_2 rfl (resOk_row rfl ?_) resOk_tmp) rfl ?_
 ·
  rw [r2]; simp
 ·
  exact ⟨by rw [r2]; simp [bne], b3⟩
theorem hSixteen_qn (fr to ab : Vector UInt8 16) (mac : Vector UInt8 6) (fl : Vector UInt8 4) (w : World) :
  Calls Tryz.prog 92 #[.agg (ndV 1 fr to ab mac false fl).toArray] w fun e w' => e = .returned (.tuple #[.agg (Value.string ⟨fr.toList.toArray⟩ :: u8v mac).toArray, .bool (false)]) ∧ Below w.heap.size w w' := by
 unfold ndV
 go_enter Tryz.func92, Tryz.ntmps92
 obtain ⟨W, hW⟩ : ∃ x, (w.alloc (.cells (Value.int .i64 1 :: (u8v fr ++ (u8v to ++ (u8v ab ++ (u8v mac ++ (Value.bool false :: u8v fl)))))).toArray 164)).alloc (.cells (Value.string ⟨#[]⟩ :: u8v mac0).toArray 150) = x := ⟨_, rfl⟩
 have rA : row W w.heap.size = (Value.int .i64 1 :: (u8v fr ++ (u8v to ++ (u8v ab ++ (u8v mac ++ (Value.bool false :: u8v fl)))))).toArray := by rw [← hW]; simp [go_sem]
 have rB : row W (w.heap.size + 1) = (Value.string ⟨#[]⟩ :: u8v mac0).toArray := by rw [← hW]; simp [go_sem]
 have zW : W.heap.size = w.heap.size + 2 := by rw [← hW]; simp
 have bW : Below w.heap.size w W := by
  rw [← hW]
  (repeat (first | exact Below.refl _ _ | refine Below.al ?_ _ | refine Below.drew ?_ | refine Below.sr ?_ _ | refine Below.sc ?_ _))
 go_wp2_with fail
 clear hW
 refine wp_region_beginR [(w.heap.size, (Value.int .i64 1 :: (u8v fr ++ (u8v to ++ (u8v ab ++ (u8v mac ++ (Value.bool false :: u8v fl)))))).toArray)] rfl (by simp only [Rws]; (repeat (first | exact trivial | refine ⟨(by first | assumption | (simp [go_sem, *]; done)), (by first | omega | (simp; done) | (simp; omega)), ?_⟩))) (fun hS => ?_)
 refine qp 0 hS ?_
 refine qp 1 hS ?_
 refine qp 2 hS ?_
 refine qp 3 hS ?_
 refine qp 4 hS ?_
 refine qp 5 hS ?_
 refine qp 6 hS ?_
 refine qp 7 hS ?_
 refine qp 8 hS ?_
 refine qn 9 hS ?_
 refine qn 10 hS ?_
 refine qn 11 hS ?_
 refine qn 12 hS ?_
 refine qp 13 hS ?_
 have rd : row W.drew (w.heap.size + 1) = (Value.string ⟨#[]⟩ :: u8v mac0).toArray := rB
 refine wpAnyR_store (i := 14) (b := (w.heap.size + 1)) (c := (Value.string ⟨fr.toList.toArray⟩ :: u8v mac).toArray) (by simp only [List.getElem?_toArray, List.getElem?_cons_succ, List.getElem?_cons_zero]; rfl) rfl rfl (by kernel_rfl) (by simp; (try omega)) hS (by rw [rd]; simp; (try omega)) (fun w1 hr => by rw [rd] at hr; go_simp; (try rfl)) (fun u1 hu1 ru1 hS => ?_)
 refine qp 15 hS ?_
 refine wpAnyR_done (by kernel_rfl) (fun w2 b2 => ?_) _
 have z1 : W.heap.size ≤ u1.heap.size := hu1.size
 have z2 := b2.size
 rw [setRow_size] at z2
 have r2 : row w2 (w.heap.size + 1) = (Value.string ⟨fr.toList.toArray⟩ :: u8v mac).toArray := by rw [row_below b2 (by rw [setRow_size]; omega)]; exact row_setRow_same (by rw [ru1, rd]; simp) (by rw [ru1, rd]; simp)
 have b3 : Below w.heap.size w w2 := Below.trans (Below.setRow (Below.trans bW ((below_step (Below.drew (Below.refl _ _)) hu1).mono (by omega))) (by omega) _) (b2.mono (by rw [setRow_size]; omega))
 clear b2 hu1 ru1 rd hS
 go_wp2_with fail
 refine bodyPost_ret (results_2 rfl (resOk_row rfl ?_) resOk_tmp) rfl ?_
 ·
  rw [r2]; simp
 ·
  exact ⟨by rw [r2]; simp [bne], b3⟩
theorem hSixteen_a (op : Int) (fr to ab : Vector UInt8 16) (mac : Vector UInt8 6) (has : Bool) (fl : Vector UInt8 4) (w : World) (h : (op == 1) = false) :
  Calls Tryz.prog 92 #[.agg (ndV op fr to ab mac has fl).toArray] w fun e w' => e = .returned (.tuple #[.agg (Value.string ⟨ab.toList.toArray⟩ :: u8v mac).toArray, .bool (has)]) ∧ Below w.heap.size w w' := by
 unfold ndV
 go_enter Tryz.func92, Tryz.ntmps92
 obtain ⟨W, hW⟩ : ∃ x, (w.alloc (.cells (Value.int .i64 op :: (u8v fr ++ (u8v to ++ (u8v ab ++ (u8v mac ++ (Value.bool has :: u8v fl)))))).toArray 164)).alloc (.cells (Value.string ⟨#[]⟩ :: u8v mac0).toArray 150) = x := ⟨_, rfl⟩
 have rA : row W w.heap.size = (Value.int .i64 op :: (u8v fr ++ (u8v to ++ (u8v ab ++ (u8v mac ++ (Value.bool has :: u8v fl)))))).toArray := by rw [← hW]; simp [go_sem]
 have rB : row W (w.heap.size + 1) = (Value.string ⟨#[]⟩ :: u8v mac0).toArray := by rw [← hW]; simp [go_sem]
 have zW : W.heap.size = w.heap.size + 2 := by rw [← hW]; simp
 have bW : Below w.heap.size w W := by
  rw [← hW]
  (repeat (first | exact Below.refl _ _ | refine Below.al ?_ _ | refine Below.drew ?_ | refine Below.sr ?_ _ | refine Below.sc ?_ _))
 go_wp2_with fail
 clear hW
 refine wp_region_beginR [(w.heap.size, (Value.int .i64 op :: (u8v fr ++ (u8v to ++ (u8v ab ++ (u8v mac ++ (Value.bool has :: u8v fl)))))).toArray)] rfl (by simp only [Rws]; (repeat (first | exact trivial | refine ⟨(by first | assumption | (simp [go_sem, *]; done)), (by first | omega | (simp; done) | (simp; omega)), ?_⟩))) (fun hS => ?_)
 refine qp 0 hS ?_
 refine qp 1 hS ?_
 refine qp 2 hS ?_
 refine qp 3 hS ?_
 refine qp 4 hS ?_
 refine qp 5 hS ?_
 refine qp 6 hS ?_
 refine qp 7 hS ?_
 have rd : row W.drew (w.heap.size + 1) = (Value.string ⟨#[]⟩ :: u8v mac0).toArray := rB
 refine wpAnyR_store (i := 8) (b := (w.heap.size + 1)) (c := (Value.string ⟨ab.toList.toArray⟩ :: u8v mac).toArray) (by simp only [List.getElem?_toArray, List.getElem?_cons_succ, List.getElem?_cons_zero]; rfl) rfl rfl (by kernel_rfl) (by simp; (try omega)) hS (by rw [rd]; simp; (try omega)) (fun w1 hr => by rw [rd] at hr; go_simp; (try rfl)) (fun u1 hu1 ru1 hS => ?_)
 refine qp 9 hS ?_
 refine wpAnyR_done (by kernel_rfl) (fun w2 b2 => ?_) _
 have z1 : W.heap.size ≤ u1.heap.size := hu1.size
 have z2 := b2.size
 rw [setRow_size] at z2
 have r2 : row w2 (w.heap.size + 1) = (Value.string ⟨ab.toList.toArray⟩ :: u8v mac).toArray := by rw [row_below b2 (by rw [setRow_size]; omega)]; exact row_setRow_same (by rw [ru1, rd]; simp) (by rw [ru1, rd]; simp)
 have b3 : Below w.heap.size w w2 := Below.trans (Below.setRow (Below.trans bW ((below_step (Below.drew (Below.refl _ _)) hu1).mono (by omega))) (by omega) _) (b2.mono (by rw [setRow_size]; omega))
 clear b2 hu1 ru1 rd hS
 go_wp2_with fail
 refine bodyPost_ret (results_2 rfl (resOk_row rfl ?_) resOk_tmp) rfl ?_
 ·
  rw [r2]; simp
 ·
  exact ⟨by rw [r2]; simp [bne], b3⟩
end Go.Proofs.YtckckabedgpbiaaGreat
