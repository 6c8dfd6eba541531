/- Texts of this proof, merged: ArpF, ArpM. -/
import Derived.Test.YtckckabedgpbiaaGreatJ11
import Derived.Test.YtckckabedgpbiaaGreatEthJ
import Derived.Test.YtckckabedgpbiaaGreatJ3
set_option linter.unusedSimpArgs false
set_option linter.unusedVariables false
set_option maxRecDepth 4000
namespace Go.Proofs.YtckckabedgpbiaaGreat
section
open Go.RowKit
@[simp] theorem zeros_size (n : Nat) (v : Value) : (zeros n v).toArray.size = n := by simp [zeros]
def frameV (dst src : Vector UInt8 6) (ty : Int) (body : List UInt8) : List Value := u8v dst ++ (u8v src ++ [.int .i64 ty, .string ⟨body.toArray⟩])
def allOnes : Vector UInt8 6 := Vector.replicate 6 255
@[simp, go_sem] theorem ones6 (t : List Value) : Value.int .u8 255 :: Value.int .u8 255 :: Value.int .u8 255 :: Value.int .u8 255 :: Value.int .u8 255 :: Value.int .u8 255 :: t = u8v allOnes ++ t := rfl
set_option maxRecDepth 20000 in
set_option maxHeartbeats 4000000 in
theorem answer_any (op : Int) (mac tgt other : Vector UInt8 6) (ip want : Vector UInt8 4) (w : World) :
  Calls Tryz.prog 69 #[.agg (arpV op mac tgt ip want).toArray, .agg (u8v other).toArray] w fun e w' => e = .returned (.agg (frameV mac other 2054 (arpS 2 other mac want ip)).toArray) ∧ Below w.heap.size w w' := by
 have Hp : ∀ w, Calls Tryz.prog 94 #[.agg (Value.int .i64 2 :: (u8v other ++ (u8v mac ++ (u8v want ++ u8v ip)))).toArray] w _ := fun w => print_any 2 other mac want ip w (Or.inr rfl)
 have HP := Lib.hid Hp
 clear Hp
 unfold arpV
 go_enter Tryz.func69, Tryz.ntmps69
 go_wp2_with fail
 (try simp only [u8v_six, u8v_four, List.append_nil, ones6])
 refine (HP.out _).mono ?_
 rintro e w1 ⟨rfl, hb1⟩
 have z1 := (hb1).size
 try simp at z1
 have ra : row w1 (w.heap.size) = (Value.int .i64 op :: (u8v mac ++ (u8v tgt ++ (u8v ip ++ u8v want)))).toArray := by rw [row_below hb1 (by first | (simp; done) | (simp; omega) | omega)]; simp [go_sem]; (try rfl)
 have rb : row w1 (w.heap.size + 1) = (u8v other).toArray := by rw [row_below hb1 (by first | (simp; done) | (simp; omega) | omega)]; simp [go_sem]; (try rfl)
 have rc : row w1 (w.heap.size + 2) = (zeros 12 (Value.int .u8 0) ++ [Value.int .i64 0, .string ⟨#[]⟩]).toArray := by rw [row_below hb1 (by first | (simp; done) | (simp; omega) | omega)]; simp [go_sem]; (try rfl)
 replace hb1 := below_of hb1 (show Below (w).heap.size w _ from by (repeat (first | exact Below.refl _ _ | refine Below.al ?_ _ | refine Below.drew ?_ | refine Below.sr ?_ _ | refine Below.sc ?_ _))) (by first | (simp; done) | (simp; omega) | omega)
 go_wp2_with fail
 (try simp only [u8v_six, u8v_four, List.append_nil, ones6])
 have hfin := row_setRow_same (w := w1) (g := w.heap.size + 1 + 1) (c := (u8v mac ++ (u8v other ++ [Value.int .i64 2054, .string ⟨(arpS 2 other mac want ip).toArray⟩])).toArray) (by rw [rc]; simp) (by rw [rc]; simp)
 (try simp only [Exit.inBlock, Exit.then])
 refine bodyPost_ret (results_1 rfl (resOk_row rfl ?_)) rfl ?_
 ·
  rw [hfin]
  simp
 refine ⟨by rw [hfin]; simp [frameV], ?_⟩
 refine Below.setRow hb1 (by first | (simp; done) | (simp; omega) | omega) _
end
section
open Go.ChangeShapes Go.WideShapes Go.ChangeAt Go.RowKit
theorem parse_printed (op : Nat) (mac tgt : Vector UInt8 6) (ip want : Vector UInt8 4) (w : World) (hop : op = 1 ∨ op = 2) :
  Calls Tryz.prog 67 #[.string ⟨(arpS op mac tgt ip want).toArray⟩] w fun e w' => e = .returned (.tuple #[.agg (arpV op mac tgt ip want).toArray, .int .i64 0]) ∧ Below w.heap.size w w' := by
 have := parse_print op mac tgt ip want [] w hop (by simp)
 rwa [List.append_nil] at this
end
end Go.Proofs.YtckckabedgpbiaaGreat
