/- Contracts of package hush: bindings of questions and answers. -/
import Derived.Test.YtfopoijikdmiaaaGreatDoorJ17
import Derived.Test.YtfopoijikdmiaaaGreatDoorJ16
import Derived.Test.YtfopoijikdmiaaaGreatDoorJ18
set_option linter.unusedSimpArgs false
set_option linter.unusedVariables false
set_option maxHeartbeats 8000000
set_option maxRecDepth 20000
namespace Go.Proofs.YtfopoijikdmiaaaGreatDoor
open Go.RowKit
@[simp, go_sem] theorem zeros6h : zeros 6 (Value.int .u8 0) = u8v mac0 := rfl
def grp (mac : Vector UInt8 6) : Bool := mac[0].toNat % 2 == 1
theorem and_1 (b : UInt8) : bits .and .u8 (b.toNat : Int) 1 = ((b.toNat % 2 : Nat) : Int) := by
 have h : ∀ n : Fin 256, bits .and .u8 (n.val : Int) 1 = ((n.val % 2 : Nat) : Int) := by decide +kernel
 exact h ⟨b.toNat, b.toNat_lt⟩
theorem group_any (mac : Vector UInt8 6) (w : World) : Calls Tryz.prog 129 #[.agg (u8v mac).toArray] w fun e w' => e = .returned (.bool (grp mac)) ∧ Below w.heap.size w w' := by
 have h1 := and_1 mac[0]
 obtain ⟨n, hn⟩ : ∃ n, mac[0].toNat % 2 = n := ⟨_, rfl⟩
 have hn2 : n < 2 := by rw [← hn]; exact Nat.mod_lt _ (by decide)
 rw [hn] at h1
 have hg : grp mac = (((n : Int)) == 1) := by
  rw [grp, hn]
  by_cases e : n = 1
  ·
   subst e; rfl
  ·
   have : ¬ (n : Int) = 1 := by omega
   rw [beq_eq_false_iff_ne.2 e, beq_eq_false_iff_ne.2 this]
 rw [hg]
 have e0 : (u8v mac)[0]'(by simp) = Value.int .u8 (mac[0].toNat : Int) := by simp [u8v, u8s]
 clear hg hn
 go_enter Tryz.func129, Tryz.ntmps129
 go_wp2_with fail
 go_ret
 refine ⟨by simp, ?_⟩
 (repeat (first | exact Below.refl _ _ | refine Below.al ?_ _ | refine Below.drew ?_ | refine Below.sr ?_ _ | refine Below.sc ?_ _))
theorem hFour_any (op : Int) (mac tgt : Vector UInt8 6) (ip want : Vector UInt8 4) (w : World) :
  Calls Tryz.prog 241 #[.agg (arpV op mac tgt ip want).toArray] w fun e w' => e = .returned (.tuple #[.agg (Value.string ⟨ip.toList.toArray⟩ :: u8v mac).toArray, .bool (ip != Vector.replicate 4 0)]) ∧ Below w.heap.size w w' := by
 unfold arpV
 go_enter Tryz.func241, Tryz.ntmps241
 go_wp2_with fail
 obtain ⟨W, hW⟩ : ∃ x, (w.alloc (.cells (Value.int .i64 op :: (u8v mac ++ (u8v tgt ++ (u8v ip ++ u8v want)))).toArray 359)).alloc (.cells (Value.string ⟨#[]⟩ :: u8v mac0).toArray 353) = x := ⟨_, rfl⟩
 have rA : row W w.heap.size = (Value.int .i64 op :: (u8v mac ++ (u8v tgt ++ (u8v ip ++ u8v want)))).toArray := by rw [← hW]; simp [go_sem]
 have rB : row W (w.heap.size + 1) = (Value.string ⟨#[]⟩ :: u8v mac0).toArray := by rw [← hW]; simp [go_sem]
 have zW : W.heap.size = w.heap.size + 2 := by rw [← hW]; simp
 have bW : Below w.heap.size w W := by
  rw [← hW]
  (repeat (first | exact Below.refl _ _ | refine Below.al ?_ _ | refine Below.drew ?_ | refine Below.sr ?_ _ | refine Below.sc ?_ _))
 rw [hW]
 clear hW
 refine rgR_ [(w.heap.size, (Value.int .i64 op :: (u8v mac ++ (u8v tgt ++ (u8v ip ++ u8v want)))).toArray)] (fun hS => ?_)
 refine qp 0 hS ?_
 refine qp 1 hS ?_
 refine qp 2 hS ?_
 refine qp 3 hS ?_
 refine qp 4 hS ?_
 refine qp 5 hS ?_
 refine qp 6 hS ?_
 refine qp 7 hS ?_
 refine qp 8 hS ?_
 refine qp 9 hS ?_
 have rd : row W.drew (w.heap.size + 1) = (Value.string ⟨#[]⟩ :: u8v mac0).toArray := rB
 refine wpAnyR_store (i := 10) (b := (w.heap.size + 1)) (c := (Value.string ⟨ip.toList.toArray⟩ :: u8v mac).toArray) opt_ rfl rfl kr_ (by simp; (try omega)) hS (by rw [rd]; simp; (try omega)) (fun w1 hr => by rw [rd] at hr; go_simp; (try rfl)) (fun u1 hu1 ru1 hS => ?_)
 refine qp 11 hS ?_
 refine wpAnyR_done kr_ (fun w2 b2 => ?_) _
 have z1 : W.heap.size ≤ u1.heap.size := hu1.size
 have z2 := b2.size
 rw [setRow_size] at z2
 have r2 : row w2 (w.heap.size + 1) = (Value.string ⟨ip.toList.toArray⟩ :: u8v mac).toArray := by rw [row_below b2 (by rw [setRow_size]; omega)]; exact row_setRow_same (by rw [ru1, rd]; simp) (by rw [ru1, rd]; simp)
 have b3 : Below w.heap.size w w2 := Below.trans (Below.setRow (Below.trans bW ((below_step (Below.drew (Below.refl _ _)) hu1).mono (by omega))) (by omega) _) (b2.mono (by rw [setRow_size]; omega))
 clear b2 hu1 ru1 rd hS
 go_wp2_with fail
 refine bodyPost_ret (results_2 rfl (resOk_row rfl ?_) resOk_tmp) rfl ?_
 ·
  rw [r2]; simp
 ·
  exact ⟨by rw [r2]; simp [bne], b3⟩
end Go.Proofs.YtfopoijikdmiaaaGreatDoor
