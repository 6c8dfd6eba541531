/- Contracts of package arp, continued: what is refused, and printing. -/
import Derived.Test.YtckckabedgpbiaaArp
set_option linter.unusedSimpArgs false
set_option linter.unusedVariables false
set_option maxRecDepth 4000
namespace Go.Proofs.Ytckckabedgpbiaa
open Go.RowKit
set_option maxRecDepth 20000 in
set_option maxHeartbeats 1000000 in
theorem parse_short (l : List UInt8) (w : World) (hl : l.length < 28) :
    Calls Try.prog 43 #[.string ⟨l.toArray⟩] w fun e w' => e = .returned (.tuple #[.agg (Value.int .i64 0 :: zeros 20 (.int .u8 0)).toArray, .int .i64 2]) ∧ Below w.heap.size w w' := by
  go_enter Try.func43, Try.ntmps43
  go_wp2_with fail
  ((try simp only [Exit.inBlock, Exit.then]); refine bodyPost_ret (results_2 rfl (resOk_row rfl ?_) resOk_tmp) rfl ?_; (simp [go_sem]))
  refine ⟨by simp [go_sem], ?_⟩
  (repeat (first | exact Below.refl _ _ | refine Below.alloc ?_ (by first | (simp; done) | (simp; omega) | omega) _ | refine Below.drew ?_ | refine Below.setRow ?_ (by first | (simp; done) | (simp; omega) | omega) _ | refine Below.setCell ?_ (by first | (simp; done) | (simp; omega) | omega) _))
set_option maxRecDepth 20000 in
set_option maxHeartbeats 4000000 in
theorem parse_head (l : List UInt8) (w : World) (hl : 28 ≤ l.length) (hl2 : l.length ≤ 10000) (hh : ((vecAt l 0 6).toList == [0, 1, 8, 0, 6, 4]) = false) :
    Calls Try.prog 43 #[.string ⟨l.toArray⟩] w fun e w' => e = .returned (.tuple #[.agg (Value.int .i64 0 :: zeros 20 (.int .u8 0)).toArray, .int .i64 3]) ∧ Below w.heap.size w w' := by
  go_enter Try.func43, Try.ntmps43
  go_wp2_with fail
  refine (take_any 6 0 _ _ _ l _ (by rfl) ?_ ?_ (by omega) (by omega) (by omega) (by omega)).mono ?_
  · simp [go_sem]
  · simp [go_sem]
  rintro e w1 ⟨sp1, rfl, rfl⟩
  go_wp2_with fail
  refine (take_any 2 6 _ _ _ l _ (by rfl) ?_ ?_ (by omega) (by omega) (by omega) (by omega)).mono ?_
  · simp [go_sem]
  · simp [go_sem]
  rintro e w2 ⟨sp2, rfl, rfl⟩
  go_wp2_with fail
  refine (number_any _ _ ?_).mono ?_
  · simp [go_sem]
  rintro e w3 ⟨rfl, rfl⟩
  go_wp2_with fail
  ((try simp only [Exit.inBlock, Exit.then]); refine bodyPost_ret (results_2 rfl (resOk_row rfl ?_) resOk_tmp) rfl ?_; (simp [go_sem]))
  refine ⟨by simp [go_sem], ?_⟩
  (repeat (first | exact Below.refl _ _ | refine Below.alloc ?_ (by first | (simp; done) | (simp; omega) | omega) _ | refine Below.drew ?_ | refine Below.setRow ?_ (by first | (simp; done) | (simp; omega) | omega) _ | refine Below.setCell ?_ (by first | (simp; done) | (simp; omega) | omega) _))
set_option maxRecDepth 20000 in
set_option maxHeartbeats 4000000 in
theorem parse_opbad (l : List UInt8) (n : Nat) (w : World) (hl : 28 ≤ l.length) (hl2 : l.length ≤ 10000) (hh : (vecAt l 0 6).toList = [0, 1, 8, 0, 6, 4]) (hn : numN (vecAt l 6 2).toList = n) (h1 : ((n : Int) != 1) = true) (h2 : ((n : Int) != 2) = true) :
    Calls Try.prog 43 #[.string ⟨l.toArray⟩] w fun e w' => e = .returned (.tuple #[.agg (Value.int .i64 0 :: zeros 20 (.int .u8 0)).toArray, .int .i64 3]) ∧ Below w.heap.size w w' := by
  go_enter Try.func43, Try.ntmps43
  go_wp2_with fail
  refine (take_any 6 0 _ _ _ l _ (by rfl) ?_ ?_ (by omega) (by omega) (by omega) (by omega)).mono ?_
  · simp [go_sem]
  · simp [go_sem]
  rintro e w1 ⟨sp1, rfl, rfl⟩
  go_wp2_with fail
  refine (take_any 2 6 _ _ _ l _ (by rfl) ?_ ?_ (by omega) (by omega) (by omega) (by omega)).mono ?_
  · simp [go_sem]
  · simp [go_sem]
  rintro e w2 ⟨sp2, rfl, rfl⟩
  go_wp2_with fail
  refine (number_any _ _ ?_).mono ?_
  · simp [go_sem]
  rintro e w3 ⟨rfl, rfl⟩
  go_wp2_with fail
  ((try simp only [Exit.inBlock, Exit.then]); refine bodyPost_ret (results_2 rfl (resOk_row rfl ?_) resOk_tmp) rfl ?_; (simp [go_sem]))
  refine ⟨by simp [go_sem], ?_⟩
  (repeat (first | exact Below.refl _ _ | refine Below.alloc ?_ (by first | (simp; done) | (simp; omega) | omega) _ | refine Below.drew ?_ | refine Below.setRow ?_ (by first | (simp; done) | (simp; omega) | omega) _ | refine Below.setCell ?_ (by first | (simp; done) | (simp; omega) | omega) _))

theorem print_any (op : Nat) (mac tgt : Vector UInt8 6) (ip want : Vector UInt8 4) (w : World) (hop : op = 1 ∨ op = 2) :
    Calls Try.prog 53 #[.agg (arpV op mac tgt ip want).toArray] w fun e w' => e = .returned (.tuple #[.string ⟨(arpS op mac tgt ip want).toArray⟩, .int .i64 0]) ∧ Below w.heap.size w w' := by
  rcases hop with rfl | rfl
  · unfold arpV
    show Calls Try.prog 53 #[.agg (Value.int IntKind.i64 1 :: (u8v mac ++ (u8v tgt ++ (u8v ip ++ u8v want)))).toArray] w _
    go_enter Try.func53, Try.ntmps53
    go_wp2_with fail
    go_region_held3 (fun w' => row w' w.heap.size = (Value.int IntKind.i64 1 :: (u8v mac ++ (u8v tgt ++ (u8v ip ++ u8v want)))).toArray ∧ w.heap.size < w'.heap.size ∧ Below w.heap.size w w') (first | (refine ⟨by simp [go_sem], by simp, ?_⟩; (repeat (first | exact Below.refl _ _ | refine Below.alloc ?_ (by first | (simp; done) | (simp; omega) | omega) _ | refine Below.drew ?_ | refine Below.setRow ?_ (by first | (simp; done) | (simp; omega) | omega) _ | refine Below.setCell ?_ (by first | (simp; done) | (simp; omega) | omega) _)); done) | (refine ⟨by rw [row_below hb1 (by simp)]; simp [go_sem], by have := (hb1).size; simp at this; omega, ?_⟩; refine Below.trans ?_ (Below.mono hb1 (by simp)); (repeat (first | exact Below.refl _ _ | refine Below.alloc ?_ (by first | (simp; done) | (simp; omega) | omega) _ | refine Below.drew ?_ | refine Below.setRow ?_ (by first | (simp; done) | (simp; omega) | omega) _ | refine Below.setCell ?_ (by first | (simp; done) | (simp; omega) | omega) _)); done)) (first | (go_at_call 62; refine (two_any _ _ (by omega) (by omega)).mono ?_; rintro e w1 ⟨rfl, hb1⟩) | fail)
    go_wp2
    go_ret2
    refine ⟨by simp [arpS], ?_⟩
    refine Below.trans ?_ (Below.mono hb1 (by simp)); (repeat (first | exact Below.refl _ _ | refine Below.alloc ?_ (by first | (simp; done) | (simp; omega) | omega) _ | refine Below.drew ?_ | refine Below.setRow ?_ (by first | (simp; done) | (simp; omega) | omega) _ | refine Below.setCell ?_ (by first | (simp; done) | (simp; omega) | omega) _))
  · unfold arpV
    show Calls Try.prog 53 #[.agg (Value.int IntKind.i64 2 :: (u8v mac ++ (u8v tgt ++ (u8v ip ++ u8v want)))).toArray] w _
    go_enter Try.func53, Try.ntmps53
    go_wp2_with fail
    go_region_held3 (fun w' => row w' w.heap.size = (Value.int IntKind.i64 2 :: (u8v mac ++ (u8v tgt ++ (u8v ip ++ u8v want)))).toArray ∧ w.heap.size < w'.heap.size ∧ Below w.heap.size w w') (first | (refine ⟨by simp [go_sem], by simp, ?_⟩; (repeat (first | exact Below.refl _ _ | refine Below.alloc ?_ (by first | (simp; done) | (simp; omega) | omega) _ | refine Below.drew ?_ | refine Below.setRow ?_ (by first | (simp; done) | (simp; omega) | omega) _ | refine Below.setCell ?_ (by first | (simp; done) | (simp; omega) | omega) _)); done) | (refine ⟨by rw [row_below hb1 (by simp)]; simp [go_sem], by have := (hb1).size; simp at this; omega, ?_⟩; refine Below.trans ?_ (Below.mono hb1 (by simp)); (repeat (first | exact Below.refl _ _ | refine Below.alloc ?_ (by first | (simp; done) | (simp; omega) | omega) _ | refine Below.drew ?_ | refine Below.setRow ?_ (by first | (simp; done) | (simp; omega) | omega) _ | refine Below.setCell ?_ (by first | (simp; done) | (simp; omega) | omega) _)); done)) (first | (go_at_call 62; refine (two_any _ _ (by omega) (by omega)).mono ?_; rintro e w1 ⟨rfl, hb1⟩) | fail)
    go_wp2
    go_ret2
    refine ⟨by simp [arpS], ?_⟩
    refine Below.trans ?_ (Below.mono hb1 (by simp)); (repeat (first | exact Below.refl _ _ | refine Below.alloc ?_ (by first | (simp; done) | (simp; omega) | omega) _ | refine Below.drew ?_ | refine Below.setRow ?_ (by first | (simp; done) | (simp; omega) | omega) _ | refine Below.setCell ?_ (by first | (simp; done) | (simp; omega) | omega) _))

set_option maxHeartbeats 1000000 in
theorem print_out (op : Int) (mac tgt : Vector UInt8 6) (ip want : Vector UInt8 4) (w : World) (h1 : (op != 1) = true) (h2 : (op != 2) = true) :
    Calls Try.prog 53 #[.agg (arpV op mac tgt ip want).toArray] w fun e w' => e = .returned (.tuple #[.string ⟨#[]⟩, .int .i64 3]) ∧ Below w.heap.size w w' := by
  unfold arpV
  go_enter Try.func53, Try.ntmps53
  go_wp2
  go_ret2
  refine ⟨by simp, ?_⟩
  (repeat (first | exact Below.refl _ _ | refine Below.alloc ?_ (by first | (simp; done) | (simp; omega) | omega) _ | refine Below.drew ?_ | refine Below.setRow ?_ (by first | (simp; done) | (simp; omega) | omega) _ | refine Below.setCell ?_ (by first | (simp; done) | (simp; omega) | omega) _))


end Go.Proofs.Ytckckabedgpbiaa
