/- Answers of chapter 10. -/
import Derived.Test.YtckckabedgpbiaaGreatJ21
import Derived.Test.YtckckabedgpbiaaGreatJ13
import Derived.Test.YtckckabedgpbiaaGreatRegJ
set_option linter.unusedSimpArgs false
set_option linter.unusedVariables false
set_option maxRecDepth 4000
namespace Go.Proofs.YtckckabedgpbiaaGreat
open Go.ChangeShapes Go.WideShapes Go.ChangeAt Go.RowKit
def fl96 : Vector UInt8 4 := #v[96, 0, 0, 0]
@[go_sem] theorem fl96_c : (Value.int .u8 96 :: (zeros 4 (Value.int .u8 0)).tail) = u8v fl96 := rfl
set_option maxRecDepth 20000 in
set_option maxHeartbeats 4000000 in
theorem ndAnswer_any (op : Int) (fr t0 ab : Vector UInt8 16) (qm mac to : Vector UInt8 6) (has : Bool) (fl : Vector UInt8 4) (w : World) :
  Calls Tryz.prog 71 #[.agg (.int .i64 op :: (u8v fr ++ (u8v t0 ++ (u8v ab ++ (u8v qm ++ (.bool has :: u8v fl)))))).toArray, .agg (u8v mac).toArray, .agg (u8v to).toArray] w fun e w' => e = .returned (.agg (frameV to mac 34525 (ndS 2 ab fr ab mac true fl96)).toArray) ∧ Below w.heap.size w w' := by
 have Hp : ∀ w, Calls Tryz.prog 98 #[.agg (ndV 2 ab fr ab mac true fl96).toArray] w _ := fun w => ndPrint_op2 ab fr ab mac fl96 w
 unfold ndV at Hp
 obtain ⟨b, hb⟩ : ∃ b, ndS 2 ab fr ab mac true fl96 = b := ⟨_, rfl⟩
 simp only [hb] at Hp ⊢
 have HP := Lib.hid Hp
 clear Hp hb
 have ra0 : row ((((w.alloc (.cells (.int .i64 op :: (u8v fr ++ (u8v t0 ++ (u8v ab ++ (u8v qm ++ (.bool has :: u8v fl)))))).toArray 164)).alloc (.cells (u8v mac).toArray 65)).alloc (.cells (u8v to).toArray 65)).alloc (.cells (zeros 12 (Value.int .u8 0) ++ [Value.int .i64 0, .string ⟨#[]⟩]).toArray 67)) w.heap.size = (.int .i64 op :: (u8v fr ++ (u8v t0 ++ (u8v ab ++ (u8v qm ++ (.bool has :: u8v fl)))))).toArray := by simp [go_sem]
 have rb0 : row ((((w.alloc (.cells (.int .i64 op :: (u8v fr ++ (u8v t0 ++ (u8v ab ++ (u8v qm ++ (.bool has :: u8v fl)))))).toArray 164)).alloc (.cells (u8v mac).toArray 65)).alloc (.cells (u8v to).toArray 65)).alloc (.cells (zeros 12 (Value.int .u8 0) ++ [Value.int .i64 0, .string ⟨#[]⟩]).toArray 67)) (w.heap.size + 1) = (u8v mac).toArray := by simp [go_sem]
 go_enter Tryz.func71, Tryz.ntmps71
 go_wp2_with fail
 (with_reducible refine (HP.out _).mono ?_)
 clear ra0 rb0
 rintro e w1 ⟨rfl, hb1⟩
 have z1 := (hb1).size
 try simp at z1
 have ra : row w1 (w.heap.size + 1) = (u8v mac).toArray := by rw [row_below hb1 (by first | (simp; done) | (simp; omega) | omega)]; simp [go_sem]; (try rfl)
 have rb : row w1 (w.heap.size + 1 + 1) = (u8v to).toArray := by rw [row_below hb1 (by first | (simp; done) | (simp; omega) | omega)]; simp [go_sem]; (try rfl)
 have rc : row w1 (w.heap.size + 1 + 1 + 1) = (zeros 12 (Value.int .u8 0) ++ [Value.int .i64 0, .string ⟨#[]⟩]).toArray := by rw [row_below hb1 (by first | (simp; done) | (simp; omega) | omega)]; simp [go_sem]; (try rfl)
 replace hb1 := below_of hb1 (show Below (w).heap.size w _ from by (repeat (first | exact Below.refl _ _ | refine Below.al ?_ _ | refine Below.drew ?_ | refine Below.sr ?_ _ | refine Below.sc ?_ _))) (by first | (simp; done) | (simp; omega) | omega)
 go_wp2_with fail
 have hfin := row_setRow_same (w := w1) (g := w.heap.size + 1 + 1 + 1) (c := (u8v to ++ (u8v mac ++ [Value.int .i64 34525, .string ⟨b.toArray⟩])).toArray) (by rw [rc]; simp) (by rw [rc]; simp)
 (try simp only [Exit.inBlock, Exit.then])
 refine bodyPost_ret (results_1 rfl (resOk_row rfl ?_)) rfl ?_
 ·
  rw [hfin]
  simp
 refine ⟨by rw [hfin]; simp [frameV], ?_⟩
 refine Below.setRow hb1 (by first | (simp; done) | (simp; omega) | omega) _
end Go.Proofs.YtckckabedgpbiaaGreat
