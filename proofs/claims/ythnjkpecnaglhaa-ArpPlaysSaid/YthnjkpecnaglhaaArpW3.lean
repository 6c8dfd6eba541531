/- The walk of the law ArpPlays. -/
import Derived.Test.YthnjkpecnaglhaaArpR2
set_option linter.unusedSimpArgs false
set_option linter.unusedVariables false
namespace Go.Proofs.Ythnjkpecnaglhaa
open Go.ChangeShapes Go.WideShapes Go.ChangeAt Go.RowKit
set_option maxRecDepth 20000 in
set_option maxHeartbeats 2000000 in
theorem arpPlays_bad (op : Int) (mac tgt : Vector UInt8 6) (ip want : Vector UInt8 4) (l : List UInt8) (w : World) (hl : l.length ≤ 1000) (h1 : (op != 1) = true) (h2 : (op != 2) = true) :
    Calls Try.prog 4 #[.string ⟨l.toArray⟩, .agg (arpV op mac tgt ip want).toArray] w fun e W' => e = .returned (.bool true) ∧ Below w.heap.size w W' := by
  obtain ⟨o, m, t, i, x, er, hP, hR⟩ := parse_both l (by omega)
  have HP := Lib.hid hP
  have HR := Lib.hid hR
  clear hP hR
  have hl1 : (l.length : Int) ≤ 1000 := by omega
  unfold arpV
  go_enter Try.func4, Try.ntmps4
  go_wp2_with fail
  refine (awake09_any _).mono ?_
  rintro e w1 ⟨rfl, hb1⟩
  have ra : row w1 w.heap.size = (.int .i64 op :: (u8v mac ++ (u8v tgt ++ (u8v ip ++ u8v want)))).toArray := by rw [row_below hb1 (by simp)]; simp [go_sem]
  have z1 := (hb1).size
  try simp at z1
  replace hb1 := below_of hb1 (show Below (w).heap.size w _ from by (repeat (first | exact Below.refl _ _ | refine Below.alloc ?_ (by first | (simp; done) | (simp; omega) | omega) _ | refine Below.drew ?_ | refine Below.setRow ?_ (by first | (simp; done) | (simp; omega) | omega) _ | refine Below.setCell ?_ (by first | (simp; done) | (simp; omega) | omega) _))) (by first | (simp; done) | (simp; omega) | omega)
  go_wp2_with fail
  refine (HP.out _).mono ?_
  rintro e w2 ⟨rfl, hb2⟩
  replace ra := (row_below hb2 (by omega)).trans ra
  have z2 := (hb2).size
  try simp at z2
  unfold arpV
  go_wp2_with fail
  refine (HR.out _).mono ?_
  rintro e w3 ⟨rfl, hb3⟩
  have rx : row w3 w2.heap.size = (.int .i64 o :: (u8v m ++ (u8v t ++ (u8v i ++ u8v x)))).toArray := by rw [row_below hb3 (by simp)]; simp [go_sem]
  have z3 := (hb3).size
  try simp at z3
  have q2 : w.heap.size < w2.heap.size := by omega
  replace ra : row w3 w.heap.size = (.int .i64 op :: (u8v mac ++ (u8v tgt ++ (u8v ip ++ u8v want)))).toArray := by rw [row_below hb3 (by simp; omega)]; simp [go_sem, ra, q2]
  have q3 : w.heap.size < w3.heap.size := by omega
  have q4 : w2.heap.size < w3.heap.size := by omega
  unfold arpV
  go_wp2_with fail
  refine (of09_any op mac tgt ip want _).mono ?_
  rintro e w4 ⟨rfl, hb4⟩
  have z4 := (hb4).size
  try simp at z4
  replace ra : row w4 w.heap.size = (.int .i64 op :: (u8v mac ++ (u8v tgt ++ (u8v ip ++ u8v want)))).toArray := by rw [row_below hb4 (by simp; omega)]; simp [go_sem, ra, q3]
  replace rx : row w4 w2.heap.size = (.int .i64 o :: (u8v m ++ (u8v t ++ (u8v i ++ u8v x)))).toArray := by rw [row_below hb4 (by simp; omega)]; simp [go_sem, rx, q4]
  have ry : row w4 w3.heap.size = (.int .i64 o :: (u8v m ++ (u8v t ++ (u8v i ++ u8v x)))).toArray := by rw [row_below hb4 (by simp)]; simp [go_sem]
  go_wp2_with fail
  refine (print_out op mac tgt ip want _ h1 h2).mono ?_
  rintro e w5 ⟨rfl, hb5⟩
  have z5 := (hb5).size
  try simp at z5
  replace ra := (row_below hb5 (by omega)).trans ra
  replace rx := (row_below hb5 (by omega)).trans rx
  replace ry := (row_below hb5 (by omega)).trans ry
  go_wp2_with fail
  refine wp_region_beginS (S := Held (fun w' => row w' w.heap.size = (.int .i64 op :: (u8v mac ++ (u8v tgt ++ (u8v ip ++ u8v want)))).toArray ∧ row w' w2.heap.size = (.int .i64 o :: (u8v m ++ (u8v t ++ (u8v i ++ u8v x)))).toArray ∧ row w' w3.heap.size = (.int .i64 o :: (u8v m ++ (u8v t ++ (u8v i ++ u8v x)))).toArray)) rfl ?_ (fun hS => ?_)
  · unfold Held
    simp [go_sem, *]
  refine wpAnyH_take (i := 0) (v := ?_) (by simp only [List.getElem?_toArray, List.getElem?_cons_succ, List.getElem?_cons_zero]; rfl) (by kernel_rfl) (by kernel_rfl) (by kernel_rfl) (by exact fun _ _ _ h => h) (Or.inl ⟨by rfl, ?_⟩) hS ?_
  rotate_left
  · intro w' hS'
    unfold Held at hS'
    go_simp
    rfl
  (try simp only [Act.put, List.setIfInBounds_toArray, List.set_cons_zero, List.set_cons_succ])
  refine wpAnyH_take (i := 1) (v := ?_) (by simp only [List.getElem?_toArray, List.getElem?_cons_succ, List.getElem?_cons_zero]; rfl) (by kernel_rfl) (by kernel_rfl) (by kernel_rfl) (by exact fun _ _ _ h => h) (Or.inl ⟨by rfl, ?_⟩) hS ?_
  rotate_left
  · intro w' hS'
    unfold Held at hS'
    go_simp
    rfl
  (try simp only [Act.put, List.setIfInBounds_toArray, List.set_cons_zero, List.set_cons_succ])
  refine wpAnyH_take (i := 2) (v := ?_) (by simp only [List.getElem?_toArray, List.getElem?_cons_succ, List.getElem?_cons_zero]; rfl) (by kernel_rfl) (by kernel_rfl) (by kernel_rfl) (by exact fun _ _ _ h => h) (Or.inl ⟨by rfl, ?_⟩) hS ?_
  rotate_left
  · intro w' hS'
    unfold Held at hS'
    go_simp
    rfl
  (try simp only [Act.put, List.setIfInBounds_toArray, List.set_cons_zero, List.set_cons_succ])
  refine wpAnyH_take (i := 3) (v := ?_) (by simp only [List.getElem?_toArray, List.getElem?_cons_succ, List.getElem?_cons_zero]; rfl) (by kernel_rfl) (by kernel_rfl) (by kernel_rfl) (by exact fun _ _ _ h => h) (Or.inl ⟨by rfl, ?_⟩) hS ?_
  rotate_left
  · intro w' hS'
    unfold Held at hS'
    go_simp
    rfl
  (try simp only [Act.put, List.setIfInBounds_toArray, List.set_cons_zero, List.set_cons_succ])
  refine wpAnyH_take (i := 4) (v := ?_) (by simp only [List.getElem?_toArray, List.getElem?_cons_succ, List.getElem?_cons_zero]; rfl) (by kernel_rfl) (by kernel_rfl) (by kernel_rfl) (by exact fun _ _ _ h => h) (Or.inl ⟨by rfl, ?_⟩) hS ?_
  rotate_left
  · intro w' hS'
    unfold Held at hS'
    go_simp
    rfl
  (try simp only [Act.put, List.setIfInBounds_toArray, List.set_cons_zero, List.set_cons_succ])
  refine wpAnyH_take (i := 6) (v := ?_) (by simp only [List.getElem?_toArray, List.getElem?_cons_succ, List.getElem?_cons_zero]; rfl) (by kernel_rfl) (by kernel_rfl) (by kernel_rfl) (by exact fun _ _ _ h => h) (Or.inl ⟨by rfl, ?_⟩) hS ?_
  rotate_left
  · intro w' hS'
    unfold Held at hS'
    go_simp
    rfl
  (try simp only [Act.put, List.setIfInBounds_toArray, List.set_cons_zero, List.set_cons_succ])
  refine wpAnyH_all (rs := [5]) (by kernel_rfl) (by simp) ?_
  intro i hi
  obtain rfl := List.mem_singleton.1 hi
  refine wpOp_step rfl (fun K hK => ?_)
  clear hi hS
  go_simp
  refine (plain09_any o m t i x _).mono ?_
  rintro e w6 ⟨rfl, hb6⟩
  unfold arpV
  refine hK _ _ (wpAnyH_same ?_ (fun hS => ?_))
  · unfold Held
    refine ⟨?_, ?_, ?_⟩ <;> (rw [row_below hb6 (by first | (simp; done) | (simp; omega) | omega)]; simp [go_sem, *])
  clear hK K
  refine wpAnyH_take (i := 7) (v := ?_) (by simp only [List.getElem?_toArray, List.getElem?_cons_succ, List.getElem?_cons_zero]; rfl) (by kernel_rfl) (by kernel_rfl) (by kernel_rfl) (by exact fun _ _ _ h => h) (Or.inl ⟨by rfl, ?_⟩) hS ?_
  rotate_left
  · intro w' hS'
    unfold Held at hS'
    go_simp
    rfl
  (try simp only [Act.put, List.setIfInBounds_toArray, List.set_cons_zero, List.set_cons_succ])
  refine wpAnyH_take (i := 8) (v := ?_) (by simp only [List.getElem?_toArray, List.getElem?_cons_succ, List.getElem?_cons_zero]; rfl) (by kernel_rfl) (by kernel_rfl) (by kernel_rfl) (by exact fun _ _ _ h => h) (Or.inl ⟨by rfl, ?_⟩) hS ?_
  rotate_left
  · intro w' hS'
    unfold Held at hS'
    go_simp
    rfl
  (try simp only [Act.put, List.setIfInBounds_toArray, List.set_cons_zero, List.set_cons_succ])
  refine wpAnyH_take (i := 9) (v := ?_) (by simp only [List.getElem?_toArray, List.getElem?_cons_succ, List.getElem?_cons_zero]; rfl) (by kernel_rfl) (by kernel_rfl) (by kernel_rfl) (by exact fun _ _ _ h => h) (Or.inl ⟨by rfl, ?_⟩) hS ?_
  rotate_left
  · intro w' hS'
    unfold Held at hS'
    go_simp
    rfl
  (try simp only [Act.put, List.setIfInBounds_toArray, List.set_cons_zero, List.set_cons_succ])
  refine wpAnyH_take (i := 10) (v := ?_) (by simp only [List.getElem?_toArray, List.getElem?_cons_succ, List.getElem?_cons_zero]; rfl) (by kernel_rfl) (by kernel_rfl) (by kernel_rfl) (by exact fun _ _ _ h => h) (Or.inl ⟨by rfl, ?_⟩) hS ?_
  rotate_left
  · intro w' hS'
    unfold Held at hS'
    go_simp
    rfl
  (try simp only [Act.put, List.setIfInBounds_toArray, List.set_cons_zero, List.set_cons_succ])
  refine wpAnyH_take (i := 11) (v := ?_) (by simp only [List.getElem?_toArray, List.getElem?_cons_succ, List.getElem?_cons_zero]; rfl) (by kernel_rfl) (by kernel_rfl) (by kernel_rfl) (by exact fun _ _ _ h => h) (Or.inl ⟨by rfl, ?_⟩) hS ?_
  rotate_left
  · intro w' hS'
    unfold Held at hS'
    go_simp
    rfl
  (try simp only [Act.put, List.setIfInBounds_toArray, List.set_cons_zero, List.set_cons_succ])
  refine wpAnyH_take (i := 12) (v := ?_) (by simp only [List.getElem?_toArray, List.getElem?_cons_succ, List.getElem?_cons_zero]; rfl) (by kernel_rfl) (by kernel_rfl) (by kernel_rfl) (by exact fun _ _ _ h => h) (Or.inl ⟨by rfl, ?_⟩) hS ?_
  rotate_left
  · intro w' hS'
    unfold Held at hS'
    go_simp
    rfl
  (try simp only [Act.put, List.setIfInBounds_toArray, List.set_cons_zero, List.set_cons_succ])
  refine wpAnyH_take (i := 13) (v := ?_) (by simp only [List.getElem?_toArray, List.getElem?_cons_succ, List.getElem?_cons_zero]; rfl) (by kernel_rfl) (by kernel_rfl) (by kernel_rfl) (by exact fun _ _ _ h => h) (Or.inl ⟨by rfl, ?_⟩) hS ?_
  rotate_left
  · intro w' hS'
    unfold Held at hS'
    go_simp
    rfl
  (try simp only [Act.put, List.setIfInBounds_toArray, List.set_cons_zero, List.set_cons_succ])
  refine wpAnyH_take (i := 14) (v := ?_) (by simp only [List.getElem?_toArray, List.getElem?_cons_succ, List.getElem?_cons_zero]; rfl) (by kernel_rfl) (by kernel_rfl) (by kernel_rfl) (by exact fun _ _ _ h => h) (Or.inl ⟨by rfl, ?_⟩) hS ?_
  rotate_left
  · intro w' hS'
    unfold Held at hS'
    go_simp
    rfl
  (try simp only [Act.put, List.setIfInBounds_toArray, List.set_cons_zero, List.set_cons_succ])
  refine wpAnyH_take (i := 15) (v := ?_) (by simp only [List.getElem?_toArray, List.getElem?_cons_succ, List.getElem?_cons_zero]; rfl) (by kernel_rfl) (by kernel_rfl) (by kernel_rfl) (by exact fun _ _ _ h => h) (Or.inl ⟨by rfl, ?_⟩) hS ?_
  rotate_left
  · intro w' hS'
    unfold Held at hS'
    go_simp
    rfl
  (try simp only [Act.put, List.setIfInBounds_toArray, List.set_cons_zero, List.set_cons_succ])
  refine wpAnyH_take (i := 16) (v := ?_) (by simp only [List.getElem?_toArray, List.getElem?_cons_succ, List.getElem?_cons_zero]; rfl) (by kernel_rfl) (by kernel_rfl) (by kernel_rfl) (by exact fun _ _ _ h => h) (Or.inl ⟨by rfl, ?_⟩) hS ?_
  rotate_left
  · intro w' hS'
    unfold Held at hS'
    go_simp
    rfl
  (try simp only [Act.put, List.setIfInBounds_toArray, List.set_cons_zero, List.set_cons_succ])
  refine wpAnyH_take (i := 17) (v := ?_) (by simp only [List.getElem?_toArray, List.getElem?_cons_succ, List.getElem?_cons_zero]; rfl) (by kernel_rfl) (by kernel_rfl) (by kernel_rfl) (by exact fun _ _ _ h => h) (Or.inl ⟨by rfl, ?_⟩) hS ?_
  rotate_left
  · intro w' hS'
    unfold Held at hS'
    go_simp
    rfl
  (try simp only [Act.put, List.setIfInBounds_toArray, List.set_cons_zero, List.set_cons_succ])
  refine wpAnyH_done (by kernel_rfl) ?_ _
  go_wp2_with fail
  go_ret
  refine ⟨rfl, ?_⟩
  refine Below.trans ?_ (Below.mono hb6 (by first | (simp; done) | (simp; omega) | omega))
  (repeat (first | refine Below.alloc ?_ (by first | (simp; done) | (simp; omega) | omega) _ | refine Below.drew ?_ | refine Below.setRow ?_ (by first | (simp; done) | (simp; omega) | omega) _ | refine Below.setCell ?_ (by first | (simp; done) | (simp; omega) | omega) _))
  refine Below.trans ?_ (Below.mono hb5 (by first | (simp; done) | (simp; omega) | omega))
  refine Below.trans ?_ (Below.mono hb4 (by first | (simp; done) | (simp; omega) | omega))
  (repeat (first | refine Below.alloc ?_ (by first | (simp; done) | (simp; omega) | omega) _ | refine Below.drew ?_ | refine Below.setRow ?_ (by first | (simp; done) | (simp; omega) | omega) _ | refine Below.setCell ?_ (by first | (simp; done) | (simp; omega) | omega) _))
  refine Below.trans ?_ (Below.mono hb3 (by first | (simp; done) | (simp; omega) | omega))
  (repeat (first | refine Below.alloc ?_ (by first | (simp; done) | (simp; omega) | omega) _ | refine Below.drew ?_ | refine Below.setRow ?_ (by first | (simp; done) | (simp; omega) | omega) _ | refine Below.setCell ?_ (by first | (simp; done) | (simp; omega) | omega) _))
  refine Below.trans ?_ (Below.mono hb2 (by first | (simp; done) | (simp; omega) | omega))
  exact hb1
theorem print_op1 (mac tgt : Vector UInt8 6) (ip want : Vector UInt8 4) (w : World) :
    Calls Try.prog 16 #[.agg (arpV 1 mac tgt ip want).toArray] w fun e w' => e = .returned (.tuple #[.string ⟨(arpS 1 mac tgt ip want).toArray⟩, .int .i64 0]) ∧ Below w.heap.size w w' := print_any 1 mac tgt ip want w (by omega)
set_option maxRecDepth 20000 in
set_option maxHeartbeats 2000000 in
theorem arpPlays_op1 (mac tgt : Vector UInt8 6) (ip want : Vector UInt8 4) (l : List UInt8) (w : World) (hl : l.length ≤ 1000) :
    Calls Try.prog 4 #[.string ⟨l.toArray⟩, .agg (arpV 1 mac tgt ip want).toArray] w fun e W' => e = .returned (.bool true) ∧ Below w.heap.size w W' := by
  obtain ⟨o, m, t, i, x, er, hP, hR⟩ := parse_both l (by omega)
  have HP := Lib.hid hP
  have HR := Lib.hid hR
  clear hP hR
  have hl1 : (l.length : Int) ≤ 1000 := by omega
  unfold arpV
  go_enter Try.func4, Try.ntmps4
  go_wp2_with fail
  refine (awake09_any _).mono ?_
  rintro e w1 ⟨rfl, hb1⟩
  have ra : row w1 w.heap.size = (.int .i64 1 :: (u8v mac ++ (u8v tgt ++ (u8v ip ++ u8v want)))).toArray := by rw [row_below hb1 (by simp)]; simp [go_sem]
  have z1 := (hb1).size
  try simp at z1
  replace hb1 := below_of hb1 (show Below (w).heap.size w _ from by (repeat (first | exact Below.refl _ _ | refine Below.alloc ?_ (by first | (simp; done) | (simp; omega) | omega) _ | refine Below.drew ?_ | refine Below.setRow ?_ (by first | (simp; done) | (simp; omega) | omega) _ | refine Below.setCell ?_ (by first | (simp; done) | (simp; omega) | omega) _))) (by first | (simp; done) | (simp; omega) | omega)
  go_wp2_with fail
  refine (HP.out _).mono ?_
  rintro e w2 ⟨rfl, hb2⟩
  replace ra := (row_below hb2 (by omega)).trans ra
  have z2 := (hb2).size
  try simp at z2
  unfold arpV
  go_wp2_with fail
  refine (HR.out _).mono ?_
  rintro e w3 ⟨rfl, hb3⟩
  have rx : row w3 w2.heap.size = (.int .i64 o :: (u8v m ++ (u8v t ++ (u8v i ++ u8v x)))).toArray := by rw [row_below hb3 (by simp)]; simp [go_sem]
  have z3 := (hb3).size
  try simp at z3
  have q2 : w.heap.size < w2.heap.size := by omega
  replace ra : row w3 w.heap.size = (.int .i64 1 :: (u8v mac ++ (u8v tgt ++ (u8v ip ++ u8v want)))).toArray := by rw [row_below hb3 (by simp; omega)]; simp [go_sem, ra, q2]
  have q3 : w.heap.size < w3.heap.size := by omega
  have q4 : w2.heap.size < w3.heap.size := by omega
  unfold arpV
  go_wp2_with fail
  refine (of09_any 1 mac tgt ip want _).mono ?_
  rintro e w4 ⟨rfl, hb4⟩
  have z4 := (hb4).size
  try simp at z4
  replace ra : row w4 w.heap.size = (.int .i64 1 :: (u8v mac ++ (u8v tgt ++ (u8v ip ++ u8v want)))).toArray := by rw [row_below hb4 (by simp; omega)]; simp [go_sem, ra, q3]
  replace rx : row w4 w2.heap.size = (.int .i64 o :: (u8v m ++ (u8v t ++ (u8v i ++ u8v x)))).toArray := by rw [row_below hb4 (by simp; omega)]; simp [go_sem, rx, q4]
  have ry : row w4 w3.heap.size = (.int .i64 o :: (u8v m ++ (u8v t ++ (u8v i ++ u8v x)))).toArray := by rw [row_below hb4 (by simp)]; simp [go_sem]
  go_wp2_with fail
  refine (print_op1 mac tgt ip want _).mono ?_
  rintro e w5 ⟨rfl, hb5⟩
  have z5 := (hb5).size
  try simp at z5
  replace ra := (row_below hb5 (by omega)).trans ra
  replace rx := (row_below hb5 (by omega)).trans rx
  replace ry := (row_below hb5 (by omega)).trans ry
  go_wp2_with fail
  refine wp_region_beginS (S := Held (fun w' => row w' w.heap.size = (.int .i64 1 :: (u8v mac ++ (u8v tgt ++ (u8v ip ++ u8v want)))).toArray ∧ row w' w2.heap.size = (.int .i64 o :: (u8v m ++ (u8v t ++ (u8v i ++ u8v x)))).toArray ∧ row w' w3.heap.size = (.int .i64 o :: (u8v m ++ (u8v t ++ (u8v i ++ u8v x)))).toArray)) rfl ?_ (fun hS => ?_)
  · unfold Held
    simp [go_sem, *]
  refine wpAnyH_take (i := 0) (v := ?_) (by simp only [List.getElem?_toArray, List.getElem?_cons_succ, List.getElem?_cons_zero]; rfl) (by kernel_rfl) (by kernel_rfl) (by kernel_rfl) (by exact fun _ _ _ h => h) (Or.inl ⟨by rfl, ?_⟩) hS ?_
  rotate_left
  · intro w' hS'
    unfold Held at hS'
    go_simp
    rfl
  (try simp only [Act.put, List.setIfInBounds_toArray, List.set_cons_zero, List.set_cons_succ])
  refine wpAnyH_take (i := 1) (v := ?_) (by simp only [List.getElem?_toArray, List.getElem?_cons_succ, List.getElem?_cons_zero]; rfl) (by kernel_rfl) (by kernel_rfl) (by kernel_rfl) (by exact fun _ _ _ h => h) (Or.inl ⟨by rfl, ?_⟩) hS ?_
  rotate_left
  · intro w' hS'
    unfold Held at hS'
    go_simp
    rfl
  (try simp only [Act.put, List.setIfInBounds_toArray, List.set_cons_zero, List.set_cons_succ])
  refine wpAnyH_take (i := 2) (v := ?_) (by simp only [List.getElem?_toArray, List.getElem?_cons_succ, List.getElem?_cons_zero]; rfl) (by kernel_rfl) (by kernel_rfl) (by kernel_rfl) (by exact fun _ _ _ h => h) (Or.inl ⟨by rfl, ?_⟩) hS ?_
  rotate_left
  · intro w' hS'
    unfold Held at hS'
    go_simp
    rfl
  (try simp only [Act.put, List.setIfInBounds_toArray, List.set_cons_zero, List.set_cons_succ])
  refine wpAnyH_take (i := 3) (v := ?_) (by simp only [List.getElem?_toArray, List.getElem?_cons_succ, List.getElem?_cons_zero]; rfl) (by kernel_rfl) (by kernel_rfl) (by kernel_rfl) (by exact fun _ _ _ h => h) (Or.inl ⟨by rfl, ?_⟩) hS ?_
  rotate_left
  · intro w' hS'
    unfold Held at hS'
    go_simp
    rfl
  (try simp only [Act.put, List.setIfInBounds_toArray, List.set_cons_zero, List.set_cons_succ])
  refine wpAnyH_take (i := 4) (v := ?_) (by simp only [List.getElem?_toArray, List.getElem?_cons_succ, List.getElem?_cons_zero]; rfl) (by kernel_rfl) (by kernel_rfl) (by kernel_rfl) (by exact fun _ _ _ h => h) (Or.inl ⟨by rfl, ?_⟩) hS ?_
  rotate_left
  · intro w' hS'
    unfold Held at hS'
    go_simp
    rfl
  (try simp only [Act.put, List.setIfInBounds_toArray, List.set_cons_zero, List.set_cons_succ])
  refine wpAnyH_take (i := 6) (v := ?_) (by simp only [List.getElem?_toArray, List.getElem?_cons_succ, List.getElem?_cons_zero]; rfl) (by kernel_rfl) (by kernel_rfl) (by kernel_rfl) (by exact fun _ _ _ h => h) (Or.inl ⟨by rfl, ?_⟩) hS ?_
  rotate_left
  · intro w' hS'
    unfold Held at hS'
    go_simp
    rfl
  (try simp only [Act.put, List.setIfInBounds_toArray, List.set_cons_zero, List.set_cons_succ])
  refine wpAnyH_all (rs := [5]) (by kernel_rfl) (by simp) ?_
  intro i hi
  obtain rfl := List.mem_singleton.1 hi
  refine wpOp_step rfl (fun K hK => ?_)
  clear hi hS
  go_simp
  refine (plain09_any o m t i x _).mono ?_
  rintro e w6 ⟨rfl, hb6⟩
  have z6 := (hb6).size
  try simp at z6
  unfold arpV
  refine hK _ _ (wpAnyH_same ?_ (fun hS => ?_))
  · unfold Held
    refine ⟨?_, ?_, ?_⟩ <;> (rw [row_below hb6 (by first | (simp; done) | (simp; omega) | omega)]; simp [go_sem, *])
  clear hK K
  have h6 := hS
  unfold Held at h6
  obtain ⟨ra6, rx6, ry6⟩ := h6
  refine wpAnyH_take (i := 7) (v := ?_) (by simp only [List.getElem?_toArray, List.getElem?_cons_succ, List.getElem?_cons_zero]; rfl) (by kernel_rfl) (by kernel_rfl) (by kernel_rfl) (by exact fun _ _ _ h => h) (Or.inl ⟨by rfl, ?_⟩) hS ?_
  rotate_left
  · intro w' hS'
    unfold Held at hS'
    go_simp
    rfl
  (try simp only [Act.put, List.setIfInBounds_toArray, List.set_cons_zero, List.set_cons_succ])
  refine wpAnyH_take (i := 8) (v := ?_) (by simp only [List.getElem?_toArray, List.getElem?_cons_succ, List.getElem?_cons_zero]; rfl) (by kernel_rfl) (by kernel_rfl) (by kernel_rfl) (by exact fun _ _ _ h => h) (Or.inl ⟨by rfl, ?_⟩) hS ?_
  rotate_left
  · intro w' hS'
    unfold Held at hS'
    go_simp
    rfl
  (try simp only [Act.put, List.setIfInBounds_toArray, List.set_cons_zero, List.set_cons_succ])
  refine wpAnyH_take (i := 9) (v := ?_) (by simp only [List.getElem?_toArray, List.getElem?_cons_succ, List.getElem?_cons_zero]; rfl) (by kernel_rfl) (by kernel_rfl) (by kernel_rfl) (by exact fun _ _ _ h => h) (Or.inl ⟨by rfl, ?_⟩) hS ?_
  rotate_left
  · intro w' hS'
    unfold Held at hS'
    go_simp
    rfl
  (try simp only [Act.put, List.setIfInBounds_toArray, List.set_cons_zero, List.set_cons_succ])
  refine wpAnyH_take (i := 10) (v := ?_) (by simp only [List.getElem?_toArray, List.getElem?_cons_succ, List.getElem?_cons_zero]; rfl) (by kernel_rfl) (by kernel_rfl) (by kernel_rfl) (by exact fun _ _ _ h => h) (Or.inl ⟨by rfl, ?_⟩) hS ?_
  rotate_left
  · intro w' hS'
    unfold Held at hS'
    go_simp
    rfl
  (try simp only [Act.put, List.setIfInBounds_toArray, List.set_cons_zero, List.set_cons_succ])
  refine wpAnyH_take (i := 11) (v := ?_) (by simp only [List.getElem?_toArray, List.getElem?_cons_succ, List.getElem?_cons_zero]; rfl) (by kernel_rfl) (by kernel_rfl) (by kernel_rfl) (by exact fun _ _ _ h => h) (Or.inl ⟨by rfl, ?_⟩) hS ?_
  rotate_left
  · intro w' hS'
    unfold Held at hS'
    go_simp
    rfl
  (try simp only [Act.put, List.setIfInBounds_toArray, List.set_cons_zero, List.set_cons_succ])
  refine wpAnyH_take (i := 12) (v := ?_) (by simp only [List.getElem?_toArray, List.getElem?_cons_succ, List.getElem?_cons_zero]; rfl) (by kernel_rfl) (by kernel_rfl) (by kernel_rfl) (by exact fun _ _ _ h => h) (Or.inl ⟨by rfl, ?_⟩) hS ?_
  rotate_left
  · intro w' hS'
    unfold Held at hS'
    go_simp
    rfl
  (try simp only [Act.put, List.setIfInBounds_toArray, List.set_cons_zero, List.set_cons_succ])
  refine wpAnyH_take (i := 13) (v := ?_) (by simp only [List.getElem?_toArray, List.getElem?_cons_succ, List.getElem?_cons_zero]; rfl) (by kernel_rfl) (by kernel_rfl) (by kernel_rfl) (by exact fun _ _ _ h => h) (Or.inl ⟨by rfl, ?_⟩) hS ?_
  rotate_left
  · intro w' hS'
    unfold Held at hS'
    go_simp
    rfl
  (try simp only [Act.put, List.setIfInBounds_toArray, List.set_cons_zero, List.set_cons_succ])
  refine wpAnyH_take (i := 14) (v := ?_) (by simp only [List.getElem?_toArray, List.getElem?_cons_succ, List.getElem?_cons_zero]; rfl) (by kernel_rfl) (by kernel_rfl) (by kernel_rfl) (by exact fun _ _ _ h => h) (Or.inl ⟨by rfl, ?_⟩) hS ?_
  rotate_left
  · intro w' hS'
    unfold Held at hS'
    go_simp
    rfl
  (try simp only [Act.put, List.setIfInBounds_toArray, List.set_cons_zero, List.set_cons_succ])
  refine wpAnyH_take (i := 15) (v := ?_) (by simp only [List.getElem?_toArray, List.getElem?_cons_succ, List.getElem?_cons_zero]; rfl) (by kernel_rfl) (by kernel_rfl) (by kernel_rfl) (by exact fun _ _ _ h => h) (Or.inl ⟨by rfl, ?_⟩) hS ?_
  rotate_left
  · intro w' hS'
    unfold Held at hS'
    go_simp
    rfl
  (try simp only [Act.put, List.setIfInBounds_toArray, List.set_cons_zero, List.set_cons_succ])
  refine wpAnyH_all (rs := [16]) (by kernel_rfl) (by simp) ?_
  intro i hi
  obtain rfl := List.mem_singleton.1 hi
  refine wpOp_step rfl (fun K hK => ?_)
  clear hi hS
  go_simp
  refine (refPrint_op1 mac tgt ip want _).mono ?_
  rintro e w7 ⟨rfl, hb7⟩
  refine hK _ _ (wpAnyH_same ?_ (fun hS => ?_))
  · unfold Held
    refine ⟨?_, ?_, ?_⟩ <;> (rw [row_below hb7 (by first | (simp; done) | (simp; omega) | omega)]; simp [go_sem, *])
  clear hK K
  refine wpAnyH_take (i := 17) (v := ?_) (by simp only [List.getElem?_toArray, List.getElem?_cons_succ, List.getElem?_cons_zero]; rfl) (by kernel_rfl) (by kernel_rfl) (by kernel_rfl) (by exact fun _ _ _ h => h) (Or.inl ⟨by rfl, ?_⟩) hS ?_
  rotate_left
  · intro w' hS'
    unfold Held at hS'
    go_simp
    rfl
  (try simp only [Act.put, List.setIfInBounds_toArray, List.set_cons_zero, List.set_cons_succ])
  refine wpAnyH_take (i := 18) (v := ?_) (by simp only [List.getElem?_toArray, List.getElem?_cons_succ, List.getElem?_cons_zero]; rfl) (by kernel_rfl) (by kernel_rfl) (by kernel_rfl) (by exact fun _ _ _ h => h) (Or.inl ⟨by rfl, ?_⟩) hS ?_
  rotate_left
  · intro w' hS'
    unfold Held at hS'
    go_simp
    rfl
  (try simp only [Act.put, List.setIfInBounds_toArray, List.set_cons_zero, List.set_cons_succ])
  refine wpAnyH_take (i := 19) (v := ?_) (by simp only [List.getElem?_toArray, List.getElem?_cons_succ, List.getElem?_cons_zero]; rfl) (by kernel_rfl) (by kernel_rfl) (by kernel_rfl) (by exact fun _ _ _ h => h) (Or.inl ⟨by rfl, ?_⟩) hS ?_
  rotate_left
  · intro w' hS'
    unfold Held at hS'
    go_simp
    rfl
  (try simp only [Act.put, List.setIfInBounds_toArray, List.set_cons_zero, List.set_cons_succ])
  refine wpAnyH_done (by kernel_rfl) ?_ _
  go_wp2_with fail
  go_ret
  refine ⟨rfl, ?_⟩
  refine Below.trans ?_ (Below.mono hb7 (by first | (simp; done) | (simp; omega) | omega))
  (repeat (first | refine Below.alloc ?_ (by first | (simp; done) | (simp; omega) | omega) _ | refine Below.drew ?_ | refine Below.setRow ?_ (by first | (simp; done) | (simp; omega) | omega) _ | refine Below.setCell ?_ (by first | (simp; done) | (simp; omega) | omega) _))
  refine Below.trans ?_ (Below.mono hb6 (by first | (simp; done) | (simp; omega) | omega))
  (repeat (first | refine Below.alloc ?_ (by first | (simp; done) | (simp; omega) | omega) _ | refine Below.drew ?_ | refine Below.setRow ?_ (by first | (simp; done) | (simp; omega) | omega) _ | refine Below.setCell ?_ (by first | (simp; done) | (simp; omega) | omega) _))
  refine Below.trans ?_ (Below.mono hb5 (by first | (simp; done) | (simp; omega) | omega))
  refine Below.trans ?_ (Below.mono hb4 (by first | (simp; done) | (simp; omega) | omega))
  (repeat (first | refine Below.alloc ?_ (by first | (simp; done) | (simp; omega) | omega) _ | refine Below.drew ?_ | refine Below.setRow ?_ (by first | (simp; done) | (simp; omega) | omega) _ | refine Below.setCell ?_ (by first | (simp; done) | (simp; omega) | omega) _))
  refine Below.trans ?_ (Below.mono hb3 (by first | (simp; done) | (simp; omega) | omega))
  (repeat (first | refine Below.alloc ?_ (by first | (simp; done) | (simp; omega) | omega) _ | refine Below.drew ?_ | refine Below.setRow ?_ (by first | (simp; done) | (simp; omega) | omega) _ | refine Below.setCell ?_ (by first | (simp; done) | (simp; omega) | omega) _))
  refine Below.trans ?_ (Below.mono hb2 (by first | (simp; done) | (simp; omega) | omega))
  exact hb1
theorem print_op2 (mac tgt : Vector UInt8 6) (ip want : Vector UInt8 4) (w : World) :
    Calls Try.prog 16 #[.agg (arpV 2 mac tgt ip want).toArray] w fun e w' => e = .returned (.tuple #[.string ⟨(arpS 2 mac tgt ip want).toArray⟩, .int .i64 0]) ∧ Below w.heap.size w w' := print_any 2 mac tgt ip want w (by omega)
set_option maxRecDepth 20000 in
set_option maxHeartbeats 2000000 in
theorem arpPlays_op2 (mac tgt : Vector UInt8 6) (ip want : Vector UInt8 4) (l : List UInt8) (w : World) (hl : l.length ≤ 1000) :
    Calls Try.prog 4 #[.string ⟨l.toArray⟩, .agg (arpV 2 mac tgt ip want).toArray] w fun e W' => e = .returned (.bool true) ∧ Below w.heap.size w W' := by
  obtain ⟨o, m, t, i, x, er, hP, hR⟩ := parse_both l (by omega)
  have HP := Lib.hid hP
  have HR := Lib.hid hR
  clear hP hR
  have hl1 : (l.length : Int) ≤ 1000 := by omega
  unfold arpV
  go_enter Try.func4, Try.ntmps4
  go_wp2_with fail
  refine (awake09_any _).mono ?_
  rintro e w1 ⟨rfl, hb1⟩
  have ra : row w1 w.heap.size = (.int .i64 2 :: (u8v mac ++ (u8v tgt ++ (u8v ip ++ u8v want)))).toArray := by rw [row_below hb1 (by simp)]; simp [go_sem]
  have z1 := (hb1).size
  try simp at z1
  replace hb1 := below_of hb1 (show Below (w).heap.size w _ from by (repeat (first | exact Below.refl _ _ | refine Below.alloc ?_ (by first | (simp; done) | (simp; omega) | omega) _ | refine Below.drew ?_ | refine Below.setRow ?_ (by first | (simp; done) | (simp; omega) | omega) _ | refine Below.setCell ?_ (by first | (simp; done) | (simp; omega) | omega) _))) (by first | (simp; done) | (simp; omega) | omega)
  go_wp2_with fail
  refine (HP.out _).mono ?_
  rintro e w2 ⟨rfl, hb2⟩
  replace ra := (row_below hb2 (by omega)).trans ra
  have z2 := (hb2).size
  try simp at z2
  unfold arpV
  go_wp2_with fail
  refine (HR.out _).mono ?_
  rintro e w3 ⟨rfl, hb3⟩
  have rx : row w3 w2.heap.size = (.int .i64 o :: (u8v m ++ (u8v t ++ (u8v i ++ u8v x)))).toArray := by rw [row_below hb3 (by simp)]; simp [go_sem]
  have z3 := (hb3).size
  try simp at z3
  have q2 : w.heap.size < w2.heap.size := by omega
  replace ra : row w3 w.heap.size = (.int .i64 2 :: (u8v mac ++ (u8v tgt ++ (u8v ip ++ u8v want)))).toArray := by rw [row_below hb3 (by simp; omega)]; simp [go_sem, ra, q2]
  have q3 : w.heap.size < w3.heap.size := by omega
  have q4 : w2.heap.size < w3.heap.size := by omega
  unfold arpV
  go_wp2_with fail
  refine (of09_any 2 mac tgt ip want _).mono ?_
  rintro e w4 ⟨rfl, hb4⟩
  have z4 := (hb4).size
  try simp at z4
  replace ra : row w4 w.heap.size = (.int .i64 2 :: (u8v mac ++ (u8v tgt ++ (u8v ip ++ u8v want)))).toArray := by rw [row_below hb4 (by simp; omega)]; simp [go_sem, ra, q3]
  replace rx : row w4 w2.heap.size = (.int .i64 o :: (u8v m ++ (u8v t ++ (u8v i ++ u8v x)))).toArray := by rw [row_below hb4 (by simp; omega)]; simp [go_sem, rx, q4]
  have ry : row w4 w3.heap.size = (.int .i64 o :: (u8v m ++ (u8v t ++ (u8v i ++ u8v x)))).toArray := by rw [row_below hb4 (by simp)]; simp [go_sem]
  go_wp2_with fail
  refine (print_op2 mac tgt ip want _).mono ?_
  rintro e w5 ⟨rfl, hb5⟩
  have z5 := (hb5).size
  try simp at z5
  replace ra := (row_below hb5 (by omega)).trans ra
  replace rx := (row_below hb5 (by omega)).trans rx
  replace ry := (row_below hb5 (by omega)).trans ry
  go_wp2_with fail
  refine wp_region_beginS (S := Held (fun w' => row w' w.heap.size = (.int .i64 2 :: (u8v mac ++ (u8v tgt ++ (u8v ip ++ u8v want)))).toArray ∧ row w' w2.heap.size = (.int .i64 o :: (u8v m ++ (u8v t ++ (u8v i ++ u8v x)))).toArray ∧ row w' w3.heap.size = (.int .i64 o :: (u8v m ++ (u8v t ++ (u8v i ++ u8v x)))).toArray)) rfl ?_ (fun hS => ?_)
  · unfold Held
    simp [go_sem, *]
  refine wpAnyH_take (i := 0) (v := ?_) (by simp only [List.getElem?_toArray, List.getElem?_cons_succ, List.getElem?_cons_zero]; rfl) (by kernel_rfl) (by kernel_rfl) (by kernel_rfl) (by exact fun _ _ _ h => h) (Or.inl ⟨by rfl, ?_⟩) hS ?_
  rotate_left
  · intro w' hS'
    unfold Held at hS'
    go_simp
    rfl
  (try simp only [Act.put, List.setIfInBounds_toArray, List.set_cons_zero, List.set_cons_succ])
  refine wpAnyH_take (i := 1) (v := ?_) (by simp only [List.getElem?_toArray, List.getElem?_cons_succ, List.getElem?_cons_zero]; rfl) (by kernel_rfl) (by kernel_rfl) (by kernel_rfl) (by exact fun _ _ _ h => h) (Or.inl ⟨by rfl, ?_⟩) hS ?_
  rotate_left
  · intro w' hS'
    unfold Held at hS'
    go_simp
    rfl
  (try simp only [Act.put, List.setIfInBounds_toArray, List.set_cons_zero, List.set_cons_succ])
  refine wpAnyH_take (i := 2) (v := ?_) (by simp only [List.getElem?_toArray, List.getElem?_cons_succ, List.getElem?_cons_zero]; rfl) (by kernel_rfl) (by kernel_rfl) (by kernel_rfl) (by exact fun _ _ _ h => h) (Or.inl ⟨by rfl, ?_⟩) hS ?_
  rotate_left
  · intro w' hS'
    unfold Held at hS'
    go_simp
    rfl
  (try simp only [Act.put, List.setIfInBounds_toArray, List.set_cons_zero, List.set_cons_succ])
  refine wpAnyH_take (i := 3) (v := ?_) (by simp only [List.getElem?_toArray, List.getElem?_cons_succ, List.getElem?_cons_zero]; rfl) (by kernel_rfl) (by kernel_rfl) (by kernel_rfl) (by exact fun _ _ _ h => h) (Or.inl ⟨by rfl, ?_⟩) hS ?_
  rotate_left
  · intro w' hS'
    unfold Held at hS'
    go_simp
    rfl
  (try simp only [Act.put, List.setIfInBounds_toArray, List.set_cons_zero, List.set_cons_succ])
  refine wpAnyH_take (i := 4) (v := ?_) (by simp only [List.getElem?_toArray, List.getElem?_cons_succ, List.getElem?_cons_zero]; rfl) (by kernel_rfl) (by kernel_rfl) (by kernel_rfl) (by exact fun _ _ _ h => h) (Or.inl ⟨by rfl, ?_⟩) hS ?_
  rotate_left
  · intro w' hS'
    unfold Held at hS'
    go_simp
    rfl
  (try simp only [Act.put, List.setIfInBounds_toArray, List.set_cons_zero, List.set_cons_succ])
  refine wpAnyH_take (i := 6) (v := ?_) (by simp only [List.getElem?_toArray, List.getElem?_cons_succ, List.getElem?_cons_zero]; rfl) (by kernel_rfl) (by kernel_rfl) (by kernel_rfl) (by exact fun _ _ _ h => h) (Or.inl ⟨by rfl, ?_⟩) hS ?_
  rotate_left
  · intro w' hS'
    unfold Held at hS'
    go_simp
    rfl
  (try simp only [Act.put, List.setIfInBounds_toArray, List.set_cons_zero, List.set_cons_succ])
  refine wpAnyH_all (rs := [5]) (by kernel_rfl) (by simp) ?_
  intro i hi
  obtain rfl := List.mem_singleton.1 hi
  refine wpOp_step rfl (fun K hK => ?_)
  clear hi hS
  go_simp
  refine (plain09_any o m t i x _).mono ?_
  rintro e w6 ⟨rfl, hb6⟩
  have z6 := (hb6).size
  try simp at z6
  unfold arpV
  refine hK _ _ (wpAnyH_same ?_ (fun hS => ?_))
  · unfold Held
    refine ⟨?_, ?_, ?_⟩ <;> (rw [row_below hb6 (by first | (simp; done) | (simp; omega) | omega)]; simp [go_sem, *])
  clear hK K
  have h6 := hS
  unfold Held at h6
  obtain ⟨ra6, rx6, ry6⟩ := h6
  refine wpAnyH_take (i := 7) (v := ?_) (by simp only [List.getElem?_toArray, List.getElem?_cons_succ, List.getElem?_cons_zero]; rfl) (by kernel_rfl) (by kernel_rfl) (by kernel_rfl) (by exact fun _ _ _ h => h) (Or.inl ⟨by rfl, ?_⟩) hS ?_
  rotate_left
  · intro w' hS'
    unfold Held at hS'
    go_simp
    rfl
  (try simp only [Act.put, List.setIfInBounds_toArray, List.set_cons_zero, List.set_cons_succ])
  refine wpAnyH_take (i := 8) (v := ?_) (by simp only [List.getElem?_toArray, List.getElem?_cons_succ, List.getElem?_cons_zero]; rfl) (by kernel_rfl) (by kernel_rfl) (by kernel_rfl) (by exact fun _ _ _ h => h) (Or.inl ⟨by rfl, ?_⟩) hS ?_
  rotate_left
  · intro w' hS'
    unfold Held at hS'
    go_simp
    rfl
  (try simp only [Act.put, List.setIfInBounds_toArray, List.set_cons_zero, List.set_cons_succ])
  refine wpAnyH_take (i := 9) (v := ?_) (by simp only [List.getElem?_toArray, List.getElem?_cons_succ, List.getElem?_cons_zero]; rfl) (by kernel_rfl) (by kernel_rfl) (by kernel_rfl) (by exact fun _ _ _ h => h) (Or.inl ⟨by rfl, ?_⟩) hS ?_
  rotate_left
  · intro w' hS'
    unfold Held at hS'
    go_simp
    rfl
  (try simp only [Act.put, List.setIfInBounds_toArray, List.set_cons_zero, List.set_cons_succ])
  refine wpAnyH_take (i := 10) (v := ?_) (by simp only [List.getElem?_toArray, List.getElem?_cons_succ, List.getElem?_cons_zero]; rfl) (by kernel_rfl) (by kernel_rfl) (by kernel_rfl) (by exact fun _ _ _ h => h) (Or.inl ⟨by rfl, ?_⟩) hS ?_
  rotate_left
  · intro w' hS'
    unfold Held at hS'
    go_simp
    rfl
  (try simp only [Act.put, List.setIfInBounds_toArray, List.set_cons_zero, List.set_cons_succ])
  refine wpAnyH_take (i := 11) (v := ?_) (by simp only [List.getElem?_toArray, List.getElem?_cons_succ, List.getElem?_cons_zero]; rfl) (by kernel_rfl) (by kernel_rfl) (by kernel_rfl) (by exact fun _ _ _ h => h) (Or.inl ⟨by rfl, ?_⟩) hS ?_
  rotate_left
  · intro w' hS'
    unfold Held at hS'
    go_simp
    rfl
  (try simp only [Act.put, List.setIfInBounds_toArray, List.set_cons_zero, List.set_cons_succ])
  refine wpAnyH_take (i := 12) (v := ?_) (by simp only [List.getElem?_toArray, List.getElem?_cons_succ, List.getElem?_cons_zero]; rfl) (by kernel_rfl) (by kernel_rfl) (by kernel_rfl) (by exact fun _ _ _ h => h) (Or.inl ⟨by rfl, ?_⟩) hS ?_
  rotate_left
  · intro w' hS'
    unfold Held at hS'
    go_simp
    rfl
  (try simp only [Act.put, List.setIfInBounds_toArray, List.set_cons_zero, List.set_cons_succ])
  refine wpAnyH_take (i := 13) (v := ?_) (by simp only [List.getElem?_toArray, List.getElem?_cons_succ, List.getElem?_cons_zero]; rfl) (by kernel_rfl) (by kernel_rfl) (by kernel_rfl) (by exact fun _ _ _ h => h) (Or.inl ⟨by rfl, ?_⟩) hS ?_
  rotate_left
  · intro w' hS'
    unfold Held at hS'
    go_simp
    rfl
  (try simp only [Act.put, List.setIfInBounds_toArray, List.set_cons_zero, List.set_cons_succ])
  refine wpAnyH_take (i := 14) (v := ?_) (by simp only [List.getElem?_toArray, List.getElem?_cons_succ, List.getElem?_cons_zero]; rfl) (by kernel_rfl) (by kernel_rfl) (by kernel_rfl) (by exact fun _ _ _ h => h) (Or.inl ⟨by rfl, ?_⟩) hS ?_
  rotate_left
  · intro w' hS'
    unfold Held at hS'
    go_simp
    rfl
  (try simp only [Act.put, List.setIfInBounds_toArray, List.set_cons_zero, List.set_cons_succ])
  refine wpAnyH_take (i := 15) (v := ?_) (by simp only [List.getElem?_toArray, List.getElem?_cons_succ, List.getElem?_cons_zero]; rfl) (by kernel_rfl) (by kernel_rfl) (by kernel_rfl) (by exact fun _ _ _ h => h) (Or.inl ⟨by rfl, ?_⟩) hS ?_
  rotate_left
  · intro w' hS'
    unfold Held at hS'
    go_simp
    rfl
  (try simp only [Act.put, List.setIfInBounds_toArray, List.set_cons_zero, List.set_cons_succ])
  refine wpAnyH_all (rs := [16]) (by kernel_rfl) (by simp) ?_
  intro i hi
  obtain rfl := List.mem_singleton.1 hi
  refine wpOp_step rfl (fun K hK => ?_)
  clear hi hS
  go_simp
  refine (refPrint_op2 mac tgt ip want _).mono ?_
  rintro e w7 ⟨rfl, hb7⟩
  refine hK _ _ (wpAnyH_same ?_ (fun hS => ?_))
  · unfold Held
    refine ⟨?_, ?_, ?_⟩ <;> (rw [row_below hb7 (by first | (simp; done) | (simp; omega) | omega)]; simp [go_sem, *])
  clear hK K
  refine wpAnyH_take (i := 17) (v := ?_) (by simp only [List.getElem?_toArray, List.getElem?_cons_succ, List.getElem?_cons_zero]; rfl) (by kernel_rfl) (by kernel_rfl) (by kernel_rfl) (by exact fun _ _ _ h => h) (Or.inl ⟨by rfl, ?_⟩) hS ?_
  rotate_left
  · intro w' hS'
    unfold Held at hS'
    go_simp
    rfl
  (try simp only [Act.put, List.setIfInBounds_toArray, List.set_cons_zero, List.set_cons_succ])
  refine wpAnyH_take (i := 18) (v := ?_) (by simp only [List.getElem?_toArray, List.getElem?_cons_succ, List.getElem?_cons_zero]; rfl) (by kernel_rfl) (by kernel_rfl) (by kernel_rfl) (by exact fun _ _ _ h => h) (Or.inl ⟨by rfl, ?_⟩) hS ?_
  rotate_left
  · intro w' hS'
    unfold Held at hS'
    go_simp
    rfl
  (try simp only [Act.put, List.setIfInBounds_toArray, List.set_cons_zero, List.set_cons_succ])
  refine wpAnyH_take (i := 19) (v := ?_) (by simp only [List.getElem?_toArray, List.getElem?_cons_succ, List.getElem?_cons_zero]; rfl) (by kernel_rfl) (by kernel_rfl) (by kernel_rfl) (by exact fun _ _ _ h => h) (Or.inl ⟨by rfl, ?_⟩) hS ?_
  rotate_left
  · intro w' hS'
    unfold Held at hS'
    go_simp
    rfl
  (try simp only [Act.put, List.setIfInBounds_toArray, List.set_cons_zero, List.set_cons_succ])
  refine wpAnyH_done (by kernel_rfl) ?_ _
  go_wp2_with fail
  go_ret
  refine ⟨rfl, ?_⟩
  refine Below.trans ?_ (Below.mono hb7 (by first | (simp; done) | (simp; omega) | omega))
  (repeat (first | refine Below.alloc ?_ (by first | (simp; done) | (simp; omega) | omega) _ | refine Below.drew ?_ | refine Below.setRow ?_ (by first | (simp; done) | (simp; omega) | omega) _ | refine Below.setCell ?_ (by first | (simp; done) | (simp; omega) | omega) _))
  refine Below.trans ?_ (Below.mono hb6 (by first | (simp; done) | (simp; omega) | omega))
  (repeat (first | refine Below.alloc ?_ (by first | (simp; done) | (simp; omega) | omega) _ | refine Below.drew ?_ | refine Below.setRow ?_ (by first | (simp; done) | (simp; omega) | omega) _ | refine Below.setCell ?_ (by first | (simp; done) | (simp; omega) | omega) _))
  refine Below.trans ?_ (Below.mono hb5 (by first | (simp; done) | (simp; omega) | omega))
  refine Below.trans ?_ (Below.mono hb4 (by first | (simp; done) | (simp; omega) | omega))
  (repeat (first | refine Below.alloc ?_ (by first | (simp; done) | (simp; omega) | omega) _ | refine Below.drew ?_ | refine Below.setRow ?_ (by first | (simp; done) | (simp; omega) | omega) _ | refine Below.setCell ?_ (by first | (simp; done) | (simp; omega) | omega) _))
  refine Below.trans ?_ (Below.mono hb3 (by first | (simp; done) | (simp; omega) | omega))
  (repeat (first | refine Below.alloc ?_ (by first | (simp; done) | (simp; omega) | omega) _ | refine Below.drew ?_ | refine Below.setRow ?_ (by first | (simp; done) | (simp; omega) | omega) _ | refine Below.setCell ?_ (by first | (simp; done) | (simp; omega) | omega) _))
  refine Below.trans ?_ (Below.mono hb2 (by first | (simp; done) | (simp; omega) | omega))
  exact hb1
set_option maxHeartbeats 1000000 in
theorem arpPlays_long (op : Int) (mac tgt : Vector UInt8 6) (ip want : Vector UInt8 4) (l : List UInt8) (w : World) (hl : ¬ l.length ≤ 1000) (hm : l.length ≤ maxLen) :
    Calls Try.prog 4 #[.string ⟨l.toArray⟩, .agg (arpV op mac tgt ip want).toArray] w fun e W' => e = .returned (.bool true) ∧ Below w.heap.size w W' := by
  unfold maxLen at hm
  unfold arpV
  go_enter Try.func4, Try.ntmps4
  go_wp2_with fail
  refine (awake09_any _).mono ?_
  rintro e w1 ⟨rfl, hb1⟩
  have z1 := (hb1).size
  try simp at z1
  replace hb1 := below_of hb1 (show Below (w).heap.size w _ from by (repeat (first | exact Below.refl _ _ | refine Below.alloc ?_ (by first | (simp; done) | (simp; omega) | omega) _ | refine Below.drew ?_ | refine Below.setRow ?_ (by first | (simp; done) | (simp; omega) | omega) _ | refine Below.setCell ?_ (by first | (simp; done) | (simp; omega) | omega) _))) (by first | (simp; done) | (simp; omega) | omega)
  go_wp2_with fail
  refine (awake09_any _).mono ?_
  rintro e w2 ⟨rfl, hb2⟩
  go_wp2_with fail
  go_ret
  refine ⟨rfl, ?_⟩
  refine Below.trans ?_ (Below.mono hb2 (by first | (simp; done) | (simp; omega) | omega))
  exact hb1
theorem arpPlays_walk (W : World) (base : Nat) (args : Array Value) (hlen : args.size = Try.f4.params.size) (hval : ∀ (j : Nat) t v, Try.f4.params[j]? = some t → args[j]? = some v → Value.okWide Try.prog W .any base t v) :
    Calls Try.prog 4 args W fun e W' => e = .returned (.bool true) ∧ Below W.heap.size W W' := by
  obtain ⟨l⟩ := args
  match l, hlen with
  | [v0, v1], _ =>
  have k0 := hval 0 9 v0 rfl rfl
  have k1 := hval 1 26 v1 rfl rfl
  obtain ⟨s, rfl, hm⟩ := open_str Try.underlying9 k0
  obtain ⟨op, mac, tgt, ip, want, rfl, hop⟩ := open_arp k1
  by_cases hl : s.length ≤ 1000
  · by_cases ho : op = 1 ∨ op = 2
    · rcases ho with rfl | rfl
      · exact arpPlays_op1 mac tgt ip want s W hl
      · exact arpPlays_op2 mac tgt ip want s W hl
    · exact arpPlays_bad op mac tgt ip want s W hl (by simp; omega) (by simp; omega)
  · exact arpPlays_long op mac tgt ip want s W hl hm
end Go.Proofs.Ythnjkpecnaglhaa
