/- The walk of the law NdBack. -/
import Derived.Test.YthnjkpecnaglhaaNdL
set_option linter.unusedSimpArgs false
set_option linter.unusedVariables false
namespace Go.Proofs.Ythnjkpecnaglhaa
open Go.ChangeShapes Go.WideShapes Go.ChangeAt Go.RowKit
set_option maxRecDepth 20000 in
set_option maxHeartbeats 2000000 in
theorem ndBack_large_op1 (fr to ab : Vector UInt8 16) (mac : Vector UInt8 6) (fl : Vector UInt8 4) (more : List UInt8) (w : World) (hm : more.length ≤ 1000) :
    Calls Try.prog 7 #[.agg (ndV 1 fr to ab mac true fl).toArray, .string ⟨more.toArray⟩] w fun e W' => e = .returned (.bool true) ∧ Below w.heap.size w W' := by
  have hm1 : ¬ (1000 : Int) < more.length := by omega
  have hm2 : (more.length : Int) ≤ 1000 := by omega
  have Hp : ∀ w, Calls Try.prog 26 #[.agg (ndV 1 fr to ab mac true fl).toArray] w _ := fun w => ndPrint_op1 fr to ab mac fl w
  have Hq : ∀ w, Calls Try.prog 29 #[.string ⟨(ndS 1 fr to ab mac true fl ++ more).toArray⟩] w _ := fun w => ndParse_print_op1 fr to ab mac fl more w (by omega)
  have hl : (ndS 1 fr to ab mac true fl).length ≤ 72 := by rw [ndS_length]; decide
  obtain ⟨s, hs⟩ : ∃ s, ndS 1 fr to ab mac true fl = s := ⟨_, rfl⟩
  simp only [hs] at Hp Hq hl
  have hl1 : (s.length : Int) ≤ 72 := by omega
  have HP := Lib.hid Hp
  have HQ := Lib.hid Hq
  clear Hp Hq hs
  unfold ndV at HP HQ
  unfold ndV
  go_enter Try.func7, Try.ntmps7
  go_wp2_with fail
  refine (awake10_any _).mono ?_
  rintro e w1 ⟨rfl, hb1⟩
  have z1 := (hb1).size
  try simp at z1
  have ra : row w1 (w.heap.size) = (Value.int .i64 1 :: (u8v fr ++ (u8v to ++ (u8v ab ++ (u8v mac ++ (.bool true :: u8v fl)))))).toArray := by rw [row_below hb1 (by first | (simp; done) | (simp; omega) | omega)]; simp [go_sem]; (try rfl)
  replace hb1 := below_of hb1 (show Below (w).heap.size w _ from by (repeat (first | exact Below.refl _ _ | refine Below.alloc ?_ (by first | (simp; done) | (simp; omega) | omega) _ | refine Below.drew ?_ | refine Below.setRow ?_ (by first | (simp; done) | (simp; omega) | omega) _ | refine Below.setCell ?_ (by first | (simp; done) | (simp; omega) | omega) _))) (by first | (simp; done) | (simp; omega) | omega)
  go_wp2_with fail
  refine (of10_any 1 fr to ab mac true fl _).mono ?_
  rintro e w2 ⟨rfl, hb2⟩
  have z2 := (hb2).size
  try simp at z2
  replace ra := (row_below hb2 (by omega)).trans ra
  unfold ndV
  go_wp2_with fail
  refine (HP.out _).mono ?_
  rintro e w3 ⟨rfl, hb3⟩
  have z3 := (hb3).size
  try simp at z3
  replace ra := (row_below hb3 (by omega)).trans ra
  go_wp2_with fail
  refine (HQ.out _).mono ?_
  rintro e w4 ⟨rfl, hb4⟩
  have z4 := (hb4).size
  try simp at z4
  replace ra := (row_below hb4 (by omega)).trans ra
  have q4 : w.heap.size < w4.heap.size := by omega
  go_wp2_with fail
  refine wp_region_beginS (S := Held (fun w' => row w' w.heap.size = (Value.int .i64 1 :: (u8v fr ++ (u8v to ++ (u8v ab ++ (u8v mac ++ (.bool true :: u8v fl)))))).toArray ∧ row w' w4.heap.size = (Value.int .i64 1 :: (u8v fr ++ (u8v to ++ (u8v ab ++ (u8v mac ++ (.bool true :: u8v fl)))))).toArray)) rfl ?_ (fun hS => ?_)
  · unfold Held
    simp [go_sem, *]
  refine wpAnyH_take (i := 0) (v := ?_) (by simp only [List.getElem?_toArray, List.getElem?_cons_succ, List.getElem?_cons_zero]; rfl) (by kernel_rfl) (by kernel_rfl) (by kernel_rfl) (by exact fun _ _ _ h => h) (Or.inl ⟨by rfl, ?_⟩) hS ?_
  rotate_left
  · intro w' hS'
    unfold Held at hS'
    go_simp
    rfl
  (try simp only [Act.put, List.setIfInBounds_toArray, List.set_cons_zero, List.set_cons_succ])
  refine wpAnyH_take (i := 1) (v := ?_) (by simp only [List.getElem?_toArray, List.getElem?_cons_succ, List.getElem?_cons_zero]; rfl) (by kernel_rfl) (by kernel_rfl) (by kernel_rfl) (by exact fun _ _ _ h => h) (Or.inl ⟨by rfl, ?_⟩) hS ?_
  rotate_left
  · intro w' hS'
    unfold Held at hS'
    go_simp
    rfl
  (try simp only [Act.put, List.setIfInBounds_toArray, List.set_cons_zero, List.set_cons_succ])
  refine wpAnyH_take (i := 2) (v := ?_) (by simp only [List.getElem?_toArray, List.getElem?_cons_succ, List.getElem?_cons_zero]; rfl) (by kernel_rfl) (by kernel_rfl) (by kernel_rfl) (by exact fun _ _ _ h => h) (Or.inl ⟨by rfl, ?_⟩) hS ?_
  rotate_left
  · intro w' hS'
    unfold Held at hS'
    go_simp
    rfl
  (try simp only [Act.put, List.setIfInBounds_toArray, List.set_cons_zero, List.set_cons_succ])
  refine wpAnyH_take (i := 3) (v := ?_) (by simp only [List.getElem?_toArray, List.getElem?_cons_succ, List.getElem?_cons_zero]; rfl) (by kernel_rfl) (by kernel_rfl) (by kernel_rfl) (by exact fun _ _ _ h => h) (Or.inl ⟨by rfl, ?_⟩) hS ?_
  rotate_left
  · intro w' hS'
    unfold Held at hS'
    go_simp
    rfl
  (try simp only [Act.put, List.setIfInBounds_toArray, List.set_cons_zero, List.set_cons_succ])
  refine wpAnyH_take (i := 5) (v := ?_) (by simp only [List.getElem?_toArray, List.getElem?_cons_succ, List.getElem?_cons_zero]; rfl) (by kernel_rfl) (by kernel_rfl) (by kernel_rfl) (by exact fun _ _ _ h => h) (Or.inl ⟨by rfl, ?_⟩) hS ?_
  rotate_left
  · intro w' hS'
    unfold Held at hS'
    go_simp
    rfl
  (try simp only [Act.put, List.setIfInBounds_toArray, List.set_cons_zero, List.set_cons_succ])
  refine wpAnyH_all (rs := [4]) (by kernel_rfl) (by simp) ?_
  intro i hi
  obtain rfl := List.mem_singleton.1 hi
  refine wpOp_step rfl (fun K hK => ?_)
  clear hi hS
  go_simp
  refine (plain10_any 1 fr to ab mac true fl _).mono ?_
  rintro e w5 ⟨rfl, hb5⟩
  have z5 := (hb5).size
  try simp at z5
  unfold ndV
  refine hK _ _ (wpAnyH_same ?_ (fun hS => ?_))
  · unfold Held
    refine ⟨?_, ?_⟩ <;> (rw [row_below hb5 (by first | (simp; done) | (simp; omega) | omega)]; simp [go_sem, *])
  clear hK K
  refine wpAnyH_take (i := 6) (v := ?_) (by simp only [List.getElem?_toArray, List.getElem?_cons_succ, List.getElem?_cons_zero]; rfl) (by kernel_rfl) (by kernel_rfl) (by kernel_rfl) (by exact fun _ _ _ h => h) (Or.inl ⟨by rfl, ?_⟩) hS ?_
  rotate_left
  · intro w' hS'
    unfold Held at hS'
    go_simp
    rfl
  (try simp only [Act.put, List.setIfInBounds_toArray, List.set_cons_zero, List.set_cons_succ])
  refine wpAnyH_take (i := 7) (v := ?_) (by simp only [List.getElem?_toArray, List.getElem?_cons_succ, List.getElem?_cons_zero]; rfl) (by kernel_rfl) (by kernel_rfl) (by kernel_rfl) (by exact fun _ _ _ h => h) (Or.inl ⟨by rfl, ?_⟩) hS ?_
  rotate_left
  · intro w' hS'
    unfold Held at hS'
    go_simp
    rfl
  (try simp only [Act.put, List.setIfInBounds_toArray, List.set_cons_zero, List.set_cons_succ])
  refine wpAnyH_take (i := 8) (v := ?_) (by simp only [List.getElem?_toArray, List.getElem?_cons_succ, List.getElem?_cons_zero]; rfl) (by kernel_rfl) (by kernel_rfl) (by kernel_rfl) (by exact fun _ _ _ h => h) (Or.inl ⟨by rfl, ?_⟩) hS ?_
  rotate_left
  · intro w' hS'
    unfold Held at hS'
    go_simp
    rfl
  (try simp only [Act.put, List.setIfInBounds_toArray, List.set_cons_zero, List.set_cons_succ])
  refine wpAnyH_done (by kernel_rfl) ?_ _
  go_wp2_with fail
  go_ret
  refine ⟨by simp, ?_⟩
  refine Below.trans ?_ (Below.mono hb5 (by first | (simp; done) | (simp; omega) | omega))
  (repeat (first | refine Below.alloc ?_ (by first | (simp; done) | (simp; omega) | omega) _ | refine Below.drew ?_ | refine Below.setRow ?_ (by first | (simp; done) | (simp; omega) | omega) _ | refine Below.setCell ?_ (by first | (simp; done) | (simp; omega) | omega) _))
  refine Below.trans ?_ (Below.mono hb4 (by first | (simp; done) | (simp; omega) | omega))
  refine Below.trans ?_ (Below.mono hb3 (by first | (simp; done) | (simp; omega) | omega))
  refine Below.trans ?_ (Below.mono hb2 (by first | (simp; done) | (simp; omega) | omega))
  exact hb1
set_option maxRecDepth 20000 in
set_option maxHeartbeats 2000000 in
theorem ndBack_large_op2 (fr to ab : Vector UInt8 16) (mac : Vector UInt8 6) (fl : Vector UInt8 4) (more : List UInt8) (w : World) (hm : more.length ≤ 1000) :
    Calls Try.prog 7 #[.agg (ndV 2 fr to ab mac true fl).toArray, .string ⟨more.toArray⟩] w fun e W' => e = .returned (.bool true) ∧ Below w.heap.size w W' := by
  have hm1 : ¬ (1000 : Int) < more.length := by omega
  have hm2 : (more.length : Int) ≤ 1000 := by omega
  have Hp : ∀ w, Calls Try.prog 26 #[.agg (ndV 2 fr to ab mac true fl).toArray] w _ := fun w => ndPrint_op2 fr to ab mac fl w
  have Hq : ∀ w, Calls Try.prog 29 #[.string ⟨(ndS 2 fr to ab mac true fl ++ more).toArray⟩] w _ := fun w => ndParse_print_op2 fr to ab mac fl more w (by omega)
  have hl : (ndS 2 fr to ab mac true fl).length ≤ 72 := by rw [ndS_length]; decide
  obtain ⟨s, hs⟩ : ∃ s, ndS 2 fr to ab mac true fl = s := ⟨_, rfl⟩
  simp only [hs] at Hp Hq hl
  have hl1 : (s.length : Int) ≤ 72 := by omega
  have HP := Lib.hid Hp
  have HQ := Lib.hid Hq
  clear Hp Hq hs
  unfold ndV at HP HQ
  unfold ndV
  go_enter Try.func7, Try.ntmps7
  go_wp2_with fail
  refine (awake10_any _).mono ?_
  rintro e w1 ⟨rfl, hb1⟩
  have z1 := (hb1).size
  try simp at z1
  have ra : row w1 (w.heap.size) = (Value.int .i64 2 :: (u8v fr ++ (u8v to ++ (u8v ab ++ (u8v mac ++ (.bool true :: u8v fl)))))).toArray := by rw [row_below hb1 (by first | (simp; done) | (simp; omega) | omega)]; simp [go_sem]; (try rfl)
  replace hb1 := below_of hb1 (show Below (w).heap.size w _ from by (repeat (first | exact Below.refl _ _ | refine Below.alloc ?_ (by first | (simp; done) | (simp; omega) | omega) _ | refine Below.drew ?_ | refine Below.setRow ?_ (by first | (simp; done) | (simp; omega) | omega) _ | refine Below.setCell ?_ (by first | (simp; done) | (simp; omega) | omega) _))) (by first | (simp; done) | (simp; omega) | omega)
  go_wp2_with fail
  refine (of10_any 2 fr to ab mac true fl _).mono ?_
  rintro e w2 ⟨rfl, hb2⟩
  have z2 := (hb2).size
  try simp at z2
  replace ra := (row_below hb2 (by omega)).trans ra
  unfold ndV
  go_wp2_with fail
  refine (HP.out _).mono ?_
  rintro e w3 ⟨rfl, hb3⟩
  have z3 := (hb3).size
  try simp at z3
  replace ra := (row_below hb3 (by omega)).trans ra
  go_wp2_with fail
  refine (HQ.out _).mono ?_
  rintro e w4 ⟨rfl, hb4⟩
  have z4 := (hb4).size
  try simp at z4
  replace ra := (row_below hb4 (by omega)).trans ra
  have q4 : w.heap.size < w4.heap.size := by omega
  go_wp2_with fail
  refine wp_region_beginS (S := Held (fun w' => row w' w.heap.size = (Value.int .i64 2 :: (u8v fr ++ (u8v to ++ (u8v ab ++ (u8v mac ++ (.bool true :: u8v fl)))))).toArray ∧ row w' w4.heap.size = (Value.int .i64 2 :: (u8v fr ++ (u8v to ++ (u8v ab ++ (u8v mac ++ (.bool true :: u8v fl)))))).toArray)) rfl ?_ (fun hS => ?_)
  · unfold Held
    simp [go_sem, *]
  refine wpAnyH_take (i := 0) (v := ?_) (by simp only [List.getElem?_toArray, List.getElem?_cons_succ, List.getElem?_cons_zero]; rfl) (by kernel_rfl) (by kernel_rfl) (by kernel_rfl) (by exact fun _ _ _ h => h) (Or.inl ⟨by rfl, ?_⟩) hS ?_
  rotate_left
  · intro w' hS'
    unfold Held at hS'
    go_simp
    rfl
  (try simp only [Act.put, List.setIfInBounds_toArray, List.set_cons_zero, List.set_cons_succ])
  refine wpAnyH_take (i := 1) (v := ?_) (by simp only [List.getElem?_toArray, List.getElem?_cons_succ, List.getElem?_cons_zero]; rfl) (by kernel_rfl) (by kernel_rfl) (by kernel_rfl) (by exact fun _ _ _ h => h) (Or.inl ⟨by rfl, ?_⟩) hS ?_
  rotate_left
  · intro w' hS'
    unfold Held at hS'
    go_simp
    rfl
  (try simp only [Act.put, List.setIfInBounds_toArray, List.set_cons_zero, List.set_cons_succ])
  refine wpAnyH_take (i := 2) (v := ?_) (by simp only [List.getElem?_toArray, List.getElem?_cons_succ, List.getElem?_cons_zero]; rfl) (by kernel_rfl) (by kernel_rfl) (by kernel_rfl) (by exact fun _ _ _ h => h) (Or.inl ⟨by rfl, ?_⟩) hS ?_
  rotate_left
  · intro w' hS'
    unfold Held at hS'
    go_simp
    rfl
  (try simp only [Act.put, List.setIfInBounds_toArray, List.set_cons_zero, List.set_cons_succ])
  refine wpAnyH_take (i := 3) (v := ?_) (by simp only [List.getElem?_toArray, List.getElem?_cons_succ, List.getElem?_cons_zero]; rfl) (by kernel_rfl) (by kernel_rfl) (by kernel_rfl) (by exact fun _ _ _ h => h) (Or.inl ⟨by rfl, ?_⟩) hS ?_
  rotate_left
  · intro w' hS'
    unfold Held at hS'
    go_simp
    rfl
  (try simp only [Act.put, List.setIfInBounds_toArray, List.set_cons_zero, List.set_cons_succ])
  refine wpAnyH_take (i := 5) (v := ?_) (by simp only [List.getElem?_toArray, List.getElem?_cons_succ, List.getElem?_cons_zero]; rfl) (by kernel_rfl) (by kernel_rfl) (by kernel_rfl) (by exact fun _ _ _ h => h) (Or.inl ⟨by rfl, ?_⟩) hS ?_
  rotate_left
  · intro w' hS'
    unfold Held at hS'
    go_simp
    rfl
  (try simp only [Act.put, List.setIfInBounds_toArray, List.set_cons_zero, List.set_cons_succ])
  refine wpAnyH_all (rs := [4]) (by kernel_rfl) (by simp) ?_
  intro i hi
  obtain rfl := List.mem_singleton.1 hi
  refine wpOp_step rfl (fun K hK => ?_)
  clear hi hS
  go_simp
  refine (plain10_any 2 fr to ab mac true fl _).mono ?_
  rintro e w5 ⟨rfl, hb5⟩
  have z5 := (hb5).size
  try simp at z5
  unfold ndV
  refine hK _ _ (wpAnyH_same ?_ (fun hS => ?_))
  · unfold Held
    refine ⟨?_, ?_⟩ <;> (rw [row_below hb5 (by first | (simp; done) | (simp; omega) | omega)]; simp [go_sem, *])
  clear hK K
  refine wpAnyH_take (i := 6) (v := ?_) (by simp only [List.getElem?_toArray, List.getElem?_cons_succ, List.getElem?_cons_zero]; rfl) (by kernel_rfl) (by kernel_rfl) (by kernel_rfl) (by exact fun _ _ _ h => h) (Or.inl ⟨by rfl, ?_⟩) hS ?_
  rotate_left
  · intro w' hS'
    unfold Held at hS'
    go_simp
    rfl
  (try simp only [Act.put, List.setIfInBounds_toArray, List.set_cons_zero, List.set_cons_succ])
  refine wpAnyH_take (i := 7) (v := ?_) (by simp only [List.getElem?_toArray, List.getElem?_cons_succ, List.getElem?_cons_zero]; rfl) (by kernel_rfl) (by kernel_rfl) (by kernel_rfl) (by exact fun _ _ _ h => h) (Or.inl ⟨by rfl, ?_⟩) hS ?_
  rotate_left
  · intro w' hS'
    unfold Held at hS'
    go_simp
    rfl
  (try simp only [Act.put, List.setIfInBounds_toArray, List.set_cons_zero, List.set_cons_succ])
  refine wpAnyH_take (i := 8) (v := ?_) (by simp only [List.getElem?_toArray, List.getElem?_cons_succ, List.getElem?_cons_zero]; rfl) (by kernel_rfl) (by kernel_rfl) (by kernel_rfl) (by exact fun _ _ _ h => h) (Or.inl ⟨by rfl, ?_⟩) hS ?_
  rotate_left
  · intro w' hS'
    unfold Held at hS'
    go_simp
    rfl
  (try simp only [Act.put, List.setIfInBounds_toArray, List.set_cons_zero, List.set_cons_succ])
  refine wpAnyH_done (by kernel_rfl) ?_ _
  go_wp2_with fail
  go_ret
  refine ⟨by simp, ?_⟩
  refine Below.trans ?_ (Below.mono hb5 (by first | (simp; done) | (simp; omega) | omega))
  (repeat (first | refine Below.alloc ?_ (by first | (simp; done) | (simp; omega) | omega) _ | refine Below.drew ?_ | refine Below.setRow ?_ (by first | (simp; done) | (simp; omega) | omega) _ | refine Below.setCell ?_ (by first | (simp; done) | (simp; omega) | omega) _))
  refine Below.trans ?_ (Below.mono hb4 (by first | (simp; done) | (simp; omega) | omega))
  refine Below.trans ?_ (Below.mono hb3 (by first | (simp; done) | (simp; omega) | omega))
  refine Below.trans ?_ (Below.mono hb2 (by first | (simp; done) | (simp; omega) | omega))
  exact hb1
set_option maxRecDepth 20000 in
set_option maxHeartbeats 2000000 in
theorem ndBack_small_op1 (fr to ab : Vector UInt8 16) (mac : Vector UInt8 6) (fl : Vector UInt8 4) (more : List UInt8) (w : World) (hm : more.length ≤ 1000) :
    Calls Try.prog 7 #[.agg (ndV 1 fr to ab mac0 false fl).toArray, .string ⟨more.toArray⟩] w fun e W' => e = .returned (.bool true) ∧ Below w.heap.size w W' := by
  have hm1 : ¬ (1000 : Int) < more.length := by omega
  have hm2 : (more.length : Int) ≤ 1000 := by omega
  have Hp : ∀ w, Calls Try.prog 26 #[.agg (ndV 1 fr to ab mac0 false fl).toArray] w _ := fun w => ndPrintS_op1 fr to ab fl w
  have Hq : ∀ w, Calls Try.prog 29 #[.string ⟨(ndS 1 fr to ab mac0 false fl ++ more).toArray⟩] w _ := fun w => ndParse_printS_op1 fr to ab fl more w (by omega)
  have hl : (ndS 1 fr to ab mac0 false fl).length ≤ 72 := by rw [ndS_length]; decide
  obtain ⟨s, hs⟩ : ∃ s, ndS 1 fr to ab mac0 false fl = s := ⟨_, rfl⟩
  simp only [hs] at Hp Hq hl
  have hl1 : (s.length : Int) ≤ 72 := by omega
  have HP := Lib.hid Hp
  have HQ := Lib.hid Hq
  clear Hp Hq hs
  unfold ndV at HP HQ
  unfold ndV
  go_enter Try.func7, Try.ntmps7
  go_wp2_with fail
  refine (awake10_any _).mono ?_
  rintro e w1 ⟨rfl, hb1⟩
  have z1 := (hb1).size
  try simp at z1
  have ra : row w1 (w.heap.size) = (Value.int .i64 1 :: (u8v fr ++ (u8v to ++ (u8v ab ++ (u8v mac0 ++ (.bool false :: u8v fl)))))).toArray := by rw [row_below hb1 (by first | (simp; done) | (simp; omega) | omega)]; simp [go_sem]; (try rfl)
  replace hb1 := below_of hb1 (show Below (w).heap.size w _ from by (repeat (first | exact Below.refl _ _ | refine Below.alloc ?_ (by first | (simp; done) | (simp; omega) | omega) _ | refine Below.drew ?_ | refine Below.setRow ?_ (by first | (simp; done) | (simp; omega) | omega) _ | refine Below.setCell ?_ (by first | (simp; done) | (simp; omega) | omega) _))) (by first | (simp; done) | (simp; omega) | omega)
  go_wp2_with fail
  refine (of10_any 1 fr to ab mac0 false fl _).mono ?_
  rintro e w2 ⟨rfl, hb2⟩
  have z2 := (hb2).size
  try simp at z2
  replace ra := (row_below hb2 (by omega)).trans ra
  unfold ndV
  go_wp2_with fail
  refine (HP.out _).mono ?_
  rintro e w3 ⟨rfl, hb3⟩
  have z3 := (hb3).size
  try simp at z3
  replace ra := (row_below hb3 (by omega)).trans ra
  go_wp2_with fail
  refine (HQ.out _).mono ?_
  rintro e w4 ⟨rfl, hb4⟩
  have z4 := (hb4).size
  try simp at z4
  replace ra := (row_below hb4 (by omega)).trans ra
  have q4 : w.heap.size < w4.heap.size := by omega
  go_wp2_with fail
  refine wp_region_beginS (S := Held (fun w' => row w' w.heap.size = (Value.int .i64 1 :: (u8v fr ++ (u8v to ++ (u8v ab ++ (u8v mac0 ++ (.bool false :: u8v fl)))))).toArray ∧ row w' w4.heap.size = (Value.int .i64 1 :: (u8v fr ++ (u8v to ++ (u8v ab ++ (u8v mac0 ++ (.bool false :: u8v fl)))))).toArray)) rfl ?_ (fun hS => ?_)
  · unfold Held
    simp [go_sem, *]
  refine wpAnyH_take (i := 0) (v := ?_) (by simp only [List.getElem?_toArray, List.getElem?_cons_succ, List.getElem?_cons_zero]; rfl) (by kernel_rfl) (by kernel_rfl) (by kernel_rfl) (by exact fun _ _ _ h => h) (Or.inl ⟨by rfl, ?_⟩) hS ?_
  rotate_left
  · intro w' hS'
    unfold Held at hS'
    go_simp
    rfl
  (try simp only [Act.put, List.setIfInBounds_toArray, List.set_cons_zero, List.set_cons_succ])
  refine wpAnyH_take (i := 1) (v := ?_) (by simp only [List.getElem?_toArray, List.getElem?_cons_succ, List.getElem?_cons_zero]; rfl) (by kernel_rfl) (by kernel_rfl) (by kernel_rfl) (by exact fun _ _ _ h => h) (Or.inl ⟨by rfl, ?_⟩) hS ?_
  rotate_left
  · intro w' hS'
    unfold Held at hS'
    go_simp
    rfl
  (try simp only [Act.put, List.setIfInBounds_toArray, List.set_cons_zero, List.set_cons_succ])
  refine wpAnyH_take (i := 2) (v := ?_) (by simp only [List.getElem?_toArray, List.getElem?_cons_succ, List.getElem?_cons_zero]; rfl) (by kernel_rfl) (by kernel_rfl) (by kernel_rfl) (by exact fun _ _ _ h => h) (Or.inl ⟨by rfl, ?_⟩) hS ?_
  rotate_left
  · intro w' hS'
    unfold Held at hS'
    go_simp
    rfl
  (try simp only [Act.put, List.setIfInBounds_toArray, List.set_cons_zero, List.set_cons_succ])
  refine wpAnyH_take (i := 3) (v := ?_) (by simp only [List.getElem?_toArray, List.getElem?_cons_succ, List.getElem?_cons_zero]; rfl) (by kernel_rfl) (by kernel_rfl) (by kernel_rfl) (by exact fun _ _ _ h => h) (Or.inl ⟨by rfl, ?_⟩) hS ?_
  rotate_left
  · intro w' hS'
    unfold Held at hS'
    go_simp
    rfl
  (try simp only [Act.put, List.setIfInBounds_toArray, List.set_cons_zero, List.set_cons_succ])
  refine wpAnyH_take (i := 5) (v := ?_) (by simp only [List.getElem?_toArray, List.getElem?_cons_succ, List.getElem?_cons_zero]; rfl) (by kernel_rfl) (by kernel_rfl) (by kernel_rfl) (by exact fun _ _ _ h => h) (Or.inl ⟨by rfl, ?_⟩) hS ?_
  rotate_left
  · intro w' hS'
    unfold Held at hS'
    go_simp
    rfl
  (try simp only [Act.put, List.setIfInBounds_toArray, List.set_cons_zero, List.set_cons_succ])
  refine wpAnyH_all (rs := [4]) (by kernel_rfl) (by simp) ?_
  intro i hi
  obtain rfl := List.mem_singleton.1 hi
  refine wpOp_step rfl (fun K hK => ?_)
  clear hi hS
  go_simp
  refine (plain10_any 1 fr to ab mac0 false fl _).mono ?_
  rintro e w5 ⟨rfl, hb5⟩
  have z5 := (hb5).size
  try simp at z5
  unfold ndV
  refine hK _ _ (wpAnyH_same ?_ (fun hS => ?_))
  · unfold Held
    refine ⟨?_, ?_⟩ <;> (rw [row_below hb5 (by first | (simp; done) | (simp; omega) | omega)]; simp [go_sem, *])
  clear hK K
  refine wpAnyH_take (i := 6) (v := ?_) (by simp only [List.getElem?_toArray, List.getElem?_cons_succ, List.getElem?_cons_zero]; rfl) (by kernel_rfl) (by kernel_rfl) (by kernel_rfl) (by exact fun _ _ _ h => h) (Or.inl ⟨by rfl, ?_⟩) hS ?_
  rotate_left
  · intro w' hS'
    unfold Held at hS'
    go_simp
    rfl
  (try simp only [Act.put, List.setIfInBounds_toArray, List.set_cons_zero, List.set_cons_succ])
  refine wpAnyH_take (i := 7) (v := ?_) (by simp only [List.getElem?_toArray, List.getElem?_cons_succ, List.getElem?_cons_zero]; rfl) (by kernel_rfl) (by kernel_rfl) (by kernel_rfl) (by exact fun _ _ _ h => h) (Or.inl ⟨by rfl, ?_⟩) hS ?_
  rotate_left
  · intro w' hS'
    unfold Held at hS'
    go_simp
    rfl
  (try simp only [Act.put, List.setIfInBounds_toArray, List.set_cons_zero, List.set_cons_succ])
  refine wpAnyH_take (i := 8) (v := ?_) (by simp only [List.getElem?_toArray, List.getElem?_cons_succ, List.getElem?_cons_zero]; rfl) (by kernel_rfl) (by kernel_rfl) (by kernel_rfl) (by exact fun _ _ _ h => h) (Or.inl ⟨by rfl, ?_⟩) hS ?_
  rotate_left
  · intro w' hS'
    unfold Held at hS'
    go_simp
    rfl
  (try simp only [Act.put, List.setIfInBounds_toArray, List.set_cons_zero, List.set_cons_succ])
  refine wpAnyH_done (by kernel_rfl) ?_ _
  go_wp2_with fail
  go_ret
  refine ⟨by simp, ?_⟩
  refine Below.trans ?_ (Below.mono hb5 (by first | (simp; done) | (simp; omega) | omega))
  (repeat (first | refine Below.alloc ?_ (by first | (simp; done) | (simp; omega) | omega) _ | refine Below.drew ?_ | refine Below.setRow ?_ (by first | (simp; done) | (simp; omega) | omega) _ | refine Below.setCell ?_ (by first | (simp; done) | (simp; omega) | omega) _))
  refine Below.trans ?_ (Below.mono hb4 (by first | (simp; done) | (simp; omega) | omega))
  refine Below.trans ?_ (Below.mono hb3 (by first | (simp; done) | (simp; omega) | omega))
  refine Below.trans ?_ (Below.mono hb2 (by first | (simp; done) | (simp; omega) | omega))
  exact hb1
set_option maxRecDepth 20000 in
set_option maxHeartbeats 2000000 in
theorem ndBack_small_op2 (fr to ab : Vector UInt8 16) (mac : Vector UInt8 6) (fl : Vector UInt8 4) (more : List UInt8) (w : World) (hm : more.length ≤ 1000) :
    Calls Try.prog 7 #[.agg (ndV 2 fr to ab mac0 false fl).toArray, .string ⟨more.toArray⟩] w fun e W' => e = .returned (.bool true) ∧ Below w.heap.size w W' := by
  have hm1 : ¬ (1000 : Int) < more.length := by omega
  have hm2 : (more.length : Int) ≤ 1000 := by omega
  have Hp : ∀ w, Calls Try.prog 26 #[.agg (ndV 2 fr to ab mac0 false fl).toArray] w _ := fun w => ndPrintS_op2 fr to ab fl w
  have Hq : ∀ w, Calls Try.prog 29 #[.string ⟨(ndS 2 fr to ab mac0 false fl ++ more).toArray⟩] w _ := fun w => ndParse_printS_op2 fr to ab fl more w (by omega)
  have hl : (ndS 2 fr to ab mac0 false fl).length ≤ 72 := by rw [ndS_length]; decide
  obtain ⟨s, hs⟩ : ∃ s, ndS 2 fr to ab mac0 false fl = s := ⟨_, rfl⟩
  simp only [hs] at Hp Hq hl
  have hl1 : (s.length : Int) ≤ 72 := by omega
  have HP := Lib.hid Hp
  have HQ := Lib.hid Hq
  clear Hp Hq hs
  unfold ndV at HP HQ
  unfold ndV
  go_enter Try.func7, Try.ntmps7
  go_wp2_with fail
  refine (awake10_any _).mono ?_
  rintro e w1 ⟨rfl, hb1⟩
  have z1 := (hb1).size
  try simp at z1
  have ra : row w1 (w.heap.size) = (Value.int .i64 2 :: (u8v fr ++ (u8v to ++ (u8v ab ++ (u8v mac0 ++ (.bool false :: u8v fl)))))).toArray := by rw [row_below hb1 (by first | (simp; done) | (simp; omega) | omega)]; simp [go_sem]; (try rfl)
  replace hb1 := below_of hb1 (show Below (w).heap.size w _ from by (repeat (first | exact Below.refl _ _ | refine Below.alloc ?_ (by first | (simp; done) | (simp; omega) | omega) _ | refine Below.drew ?_ | refine Below.setRow ?_ (by first | (simp; done) | (simp; omega) | omega) _ | refine Below.setCell ?_ (by first | (simp; done) | (simp; omega) | omega) _))) (by first | (simp; done) | (simp; omega) | omega)
  go_wp2_with fail
  refine (of10_any 2 fr to ab mac0 false fl _).mono ?_
  rintro e w2 ⟨rfl, hb2⟩
  have z2 := (hb2).size
  try simp at z2
  replace ra := (row_below hb2 (by omega)).trans ra
  unfold ndV
  go_wp2_with fail
  refine (HP.out _).mono ?_
  rintro e w3 ⟨rfl, hb3⟩
  have z3 := (hb3).size
  try simp at z3
  replace ra := (row_below hb3 (by omega)).trans ra
  go_wp2_with fail
  refine (HQ.out _).mono ?_
  rintro e w4 ⟨rfl, hb4⟩
  have z4 := (hb4).size
  try simp at z4
  replace ra := (row_below hb4 (by omega)).trans ra
  have q4 : w.heap.size < w4.heap.size := by omega
  go_wp2_with fail
  refine wp_region_beginS (S := Held (fun w' => row w' w.heap.size = (Value.int .i64 2 :: (u8v fr ++ (u8v to ++ (u8v ab ++ (u8v mac0 ++ (.bool false :: u8v fl)))))).toArray ∧ row w' w4.heap.size = (Value.int .i64 2 :: (u8v fr ++ (u8v to ++ (u8v ab ++ (u8v mac0 ++ (.bool false :: u8v fl)))))).toArray)) rfl ?_ (fun hS => ?_)
  · unfold Held
    simp [go_sem, *]
  refine wpAnyH_take (i := 0) (v := ?_) (by simp only [List.getElem?_toArray, List.getElem?_cons_succ, List.getElem?_cons_zero]; rfl) (by kernel_rfl) (by kernel_rfl) (by kernel_rfl) (by exact fun _ _ _ h => h) (Or.inl ⟨by rfl, ?_⟩) hS ?_
  rotate_left
  · intro w' hS'
    unfold Held at hS'
    go_simp
    rfl
  (try simp only [Act.put, List.setIfInBounds_toArray, List.set_cons_zero, List.set_cons_succ])
  refine wpAnyH_take (i := 1) (v := ?_) (by simp only [List.getElem?_toArray, List.getElem?_cons_succ, List.getElem?_cons_zero]; rfl) (by kernel_rfl) (by kernel_rfl) (by kernel_rfl) (by exact fun _ _ _ h => h) (Or.inl ⟨by rfl, ?_⟩) hS ?_
  rotate_left
  · intro w' hS'
    unfold Held at hS'
    go_simp
    rfl
  (try simp only [Act.put, List.setIfInBounds_toArray, List.set_cons_zero, List.set_cons_succ])
  refine wpAnyH_take (i := 2) (v := ?_) (by simp only [List.getElem?_toArray, List.getElem?_cons_succ, List.getElem?_cons_zero]; rfl) (by kernel_rfl) (by kernel_rfl) (by kernel_rfl) (by exact fun _ _ _ h => h) (Or.inl ⟨by rfl, ?_⟩) hS ?_
  rotate_left
  · intro w' hS'
    unfold Held at hS'
    go_simp
    rfl
  (try simp only [Act.put, List.setIfInBounds_toArray, List.set_cons_zero, List.set_cons_succ])
  refine wpAnyH_take (i := 3) (v := ?_) (by simp only [List.getElem?_toArray, List.getElem?_cons_succ, List.getElem?_cons_zero]; rfl) (by kernel_rfl) (by kernel_rfl) (by kernel_rfl) (by exact fun _ _ _ h => h) (Or.inl ⟨by rfl, ?_⟩) hS ?_
  rotate_left
  · intro w' hS'
    unfold Held at hS'
    go_simp
    rfl
  (try simp only [Act.put, List.setIfInBounds_toArray, List.set_cons_zero, List.set_cons_succ])
  refine wpAnyH_take (i := 5) (v := ?_) (by simp only [List.getElem?_toArray, List.getElem?_cons_succ, List.getElem?_cons_zero]; rfl) (by kernel_rfl) (by kernel_rfl) (by kernel_rfl) (by exact fun _ _ _ h => h) (Or.inl ⟨by rfl, ?_⟩) hS ?_
  rotate_left
  · intro w' hS'
    unfold Held at hS'
    go_simp
    rfl
  (try simp only [Act.put, List.setIfInBounds_toArray, List.set_cons_zero, List.set_cons_succ])
  refine wpAnyH_all (rs := [4]) (by kernel_rfl) (by simp) ?_
  intro i hi
  obtain rfl := List.mem_singleton.1 hi
  refine wpOp_step rfl (fun K hK => ?_)
  clear hi hS
  go_simp
  refine (plain10_any 2 fr to ab mac0 false fl _).mono ?_
  rintro e w5 ⟨rfl, hb5⟩
  have z5 := (hb5).size
  try simp at z5
  unfold ndV
  refine hK _ _ (wpAnyH_same ?_ (fun hS => ?_))
  · unfold Held
    refine ⟨?_, ?_⟩ <;> (rw [row_below hb5 (by first | (simp; done) | (simp; omega) | omega)]; simp [go_sem, *])
  clear hK K
  refine wpAnyH_take (i := 6) (v := ?_) (by simp only [List.getElem?_toArray, List.getElem?_cons_succ, List.getElem?_cons_zero]; rfl) (by kernel_rfl) (by kernel_rfl) (by kernel_rfl) (by exact fun _ _ _ h => h) (Or.inl ⟨by rfl, ?_⟩) hS ?_
  rotate_left
  · intro w' hS'
    unfold Held at hS'
    go_simp
    rfl
  (try simp only [Act.put, List.setIfInBounds_toArray, List.set_cons_zero, List.set_cons_succ])
  refine wpAnyH_take (i := 7) (v := ?_) (by simp only [List.getElem?_toArray, List.getElem?_cons_succ, List.getElem?_cons_zero]; rfl) (by kernel_rfl) (by kernel_rfl) (by kernel_rfl) (by exact fun _ _ _ h => h) (Or.inl ⟨by rfl, ?_⟩) hS ?_
  rotate_left
  · intro w' hS'
    unfold Held at hS'
    go_simp
    rfl
  (try simp only [Act.put, List.setIfInBounds_toArray, List.set_cons_zero, List.set_cons_succ])
  refine wpAnyH_take (i := 8) (v := ?_) (by simp only [List.getElem?_toArray, List.getElem?_cons_succ, List.getElem?_cons_zero]; rfl) (by kernel_rfl) (by kernel_rfl) (by kernel_rfl) (by exact fun _ _ _ h => h) (Or.inl ⟨by rfl, ?_⟩) hS ?_
  rotate_left
  · intro w' hS'
    unfold Held at hS'
    go_simp
    rfl
  (try simp only [Act.put, List.setIfInBounds_toArray, List.set_cons_zero, List.set_cons_succ])
  refine wpAnyH_done (by kernel_rfl) ?_ _
  go_wp2_with fail
  go_ret
  refine ⟨by simp, ?_⟩
  refine Below.trans ?_ (Below.mono hb5 (by first | (simp; done) | (simp; omega) | omega))
  (repeat (first | refine Below.alloc ?_ (by first | (simp; done) | (simp; omega) | omega) _ | refine Below.drew ?_ | refine Below.setRow ?_ (by first | (simp; done) | (simp; omega) | omega) _ | refine Below.setCell ?_ (by first | (simp; done) | (simp; omega) | omega) _))
  refine Below.trans ?_ (Below.mono hb4 (by first | (simp; done) | (simp; omega) | omega))
  refine Below.trans ?_ (Below.mono hb3 (by first | (simp; done) | (simp; omega) | omega))
  refine Below.trans ?_ (Below.mono hb2 (by first | (simp; done) | (simp; omega) | omega))
  exact hb1
set_option maxRecDepth 20000 in
set_option maxHeartbeats 2000000 in
theorem ndBack_badop (op : Int) (fr to ab : Vector UInt8 16) (mac : Vector UInt8 6) (has : Bool) (fl : Vector UInt8 4) (more : List UInt8) (w : World) (hm : more.length ≤ 1000) (ho1 : ¬ op = 1) (ho2 : ¬ op = 2) :
    Calls Try.prog 7 #[.agg (ndV op fr to ab mac has fl).toArray, .string ⟨more.toArray⟩] w fun e W' => e = .returned (.bool true) ∧ Below w.heap.size w W' := by
  have hm1 : ¬ (1000 : Int) < more.length := by omega
  have Hp : ∀ w, Calls Try.prog 26 #[.agg (ndV op fr to ab mac has fl).toArray] w _ := fun w => ndPrint_badop op fr to ab mac has fl w (by simp [ho1]) (by simp [ho2])
  have Hq : ∀ w, Calls Try.prog 28 #[.agg (ndV op fr to ab mac has fl).toArray] w _ := fun w => right10_badop op fr to ab mac has fl w (by simp [ho1]) (by simp [ho2])
  have HP := Lib.hid Hp
  have HQ := Lib.hid Hq
  clear Hp Hq
  unfold ndV at HP HQ
  unfold ndV
  go_enter Try.func7, Try.ntmps7
  go_wp2_with fail
  refine (awake10_any _).mono ?_
  rintro e w1 ⟨rfl, hb1⟩
  have z1 := (hb1).size
  try simp at z1
  have ra : row w1 (w.heap.size) = (Value.int .i64 op :: (u8v fr ++ (u8v to ++ (u8v ab ++ (u8v mac ++ (.bool has :: u8v fl)))))).toArray := by rw [row_below hb1 (by first | (simp; done) | (simp; omega) | omega)]; simp [go_sem]; (try rfl)
  replace hb1 := below_of hb1 (show Below (w).heap.size w _ from by (repeat (first | exact Below.refl _ _ | refine Below.alloc ?_ (by first | (simp; done) | (simp; omega) | omega) _ | refine Below.drew ?_ | refine Below.setRow ?_ (by first | (simp; done) | (simp; omega) | omega) _ | refine Below.setCell ?_ (by first | (simp; done) | (simp; omega) | omega) _))) (by first | (simp; done) | (simp; omega) | omega)
  go_wp2_with fail
  refine (of10_any op fr to ab mac has fl _).mono ?_
  rintro e w2 ⟨rfl, hb2⟩
  have z2 := (hb2).size
  try simp at z2
  replace ra := (row_below hb2 (by omega)).trans ra
  unfold ndV
  go_wp2_with fail
  refine (HP.out _).mono ?_
  rintro e w3 ⟨rfl, hb3⟩
  have z3 := (hb3).size
  try simp at z3
  replace ra := (row_below hb3 (by omega)).trans ra
  go_wp2_with fail
  refine (HQ.out _).mono ?_
  rintro e w4 ⟨rfl, hb4⟩
  have z4 := (hb4).size
  try simp at z4
  go_wp2_with fail
  go_ret
  refine ⟨by simp, ?_⟩
  refine Below.trans ?_ (Below.mono hb4 (by first | (simp; done) | (simp; omega) | omega))
  refine Below.trans ?_ (Below.mono hb3 (by first | (simp; done) | (simp; omega) | omega))
  refine Below.trans ?_ (Below.mono hb2 (by first | (simp; done) | (simp; omega) | omega))
  exact hb1
set_option maxRecDepth 20000 in
set_option maxHeartbeats 2000000 in
theorem ndBack_badmac1  (fr to ab : Vector UInt8 16) (mac : Vector UInt8 6)  (fl : Vector UInt8 4) (more : List UInt8) (w : World) (hm : more.length ≤ 1000) (hc : ¬ mac = mac0) :
    Calls Try.prog 7 #[.agg (ndV 1 fr to ab mac false fl).toArray, .string ⟨more.toArray⟩] w fun e W' => e = .returned (.bool true) ∧ Below w.heap.size w W' := by
  have hm1 : ¬ (1000 : Int) < more.length := by omega
  have Hp : ∀ w, Calls Try.prog 26 #[.agg (ndV 1 fr to ab mac false fl).toArray] w _ := fun w => ndPrint_badmac1 fr to ab mac fl w (by simp [hc]) (by simp [hc])
  have Hq : ∀ w, Calls Try.prog 28 #[.agg (ndV 1 fr to ab mac false fl).toArray] w _ := fun w => right10_badmac1 fr to ab mac fl w (by simp [hc])
  have HP := Lib.hid Hp
  have HQ := Lib.hid Hq
  clear Hp Hq
  unfold ndV at HP HQ
  unfold ndV
  go_enter Try.func7, Try.ntmps7
  go_wp2_with fail
  refine (awake10_any _).mono ?_
  rintro e w1 ⟨rfl, hb1⟩
  have z1 := (hb1).size
  try simp at z1
  have ra : row w1 (w.heap.size) = (Value.int .i64 1 :: (u8v fr ++ (u8v to ++ (u8v ab ++ (u8v mac ++ (.bool false :: u8v fl)))))).toArray := by rw [row_below hb1 (by first | (simp; done) | (simp; omega) | omega)]; simp [go_sem]; (try rfl)
  replace hb1 := below_of hb1 (show Below (w).heap.size w _ from by (repeat (first | exact Below.refl _ _ | refine Below.alloc ?_ (by first | (simp; done) | (simp; omega) | omega) _ | refine Below.drew ?_ | refine Below.setRow ?_ (by first | (simp; done) | (simp; omega) | omega) _ | refine Below.setCell ?_ (by first | (simp; done) | (simp; omega) | omega) _))) (by first | (simp; done) | (simp; omega) | omega)
  go_wp2_with fail
  refine (of10_any 1 fr to ab mac false fl _).mono ?_
  rintro e w2 ⟨rfl, hb2⟩
  have z2 := (hb2).size
  try simp at z2
  replace ra := (row_below hb2 (by omega)).trans ra
  unfold ndV
  go_wp2_with fail
  refine (HP.out _).mono ?_
  rintro e w3 ⟨rfl, hb3⟩
  have z3 := (hb3).size
  try simp at z3
  replace ra := (row_below hb3 (by omega)).trans ra
  go_wp2_with fail
  refine (HQ.out _).mono ?_
  rintro e w4 ⟨rfl, hb4⟩
  have z4 := (hb4).size
  try simp at z4
  go_wp2_with fail
  go_ret
  refine ⟨by simp, ?_⟩
  refine Below.trans ?_ (Below.mono hb4 (by first | (simp; done) | (simp; omega) | omega))
  refine Below.trans ?_ (Below.mono hb3 (by first | (simp; done) | (simp; omega) | omega))
  refine Below.trans ?_ (Below.mono hb2 (by first | (simp; done) | (simp; omega) | omega))
  exact hb1
set_option maxRecDepth 20000 in
set_option maxHeartbeats 2000000 in
theorem ndBack_badmac2  (fr to ab : Vector UInt8 16) (mac : Vector UInt8 6)  (fl : Vector UInt8 4) (more : List UInt8) (w : World) (hm : more.length ≤ 1000) (hc : ¬ mac = mac0) :
    Calls Try.prog 7 #[.agg (ndV 2 fr to ab mac false fl).toArray, .string ⟨more.toArray⟩] w fun e W' => e = .returned (.bool true) ∧ Below w.heap.size w W' := by
  have hm1 : ¬ (1000 : Int) < more.length := by omega
  have Hp : ∀ w, Calls Try.prog 26 #[.agg (ndV 2 fr to ab mac false fl).toArray] w _ := fun w => ndPrint_badmac2 fr to ab mac fl w (by simp [hc]) (by simp [hc])
  have Hq : ∀ w, Calls Try.prog 28 #[.agg (ndV 2 fr to ab mac false fl).toArray] w _ := fun w => right10_badmac2 fr to ab mac fl w (by simp [hc])
  have HP := Lib.hid Hp
  have HQ := Lib.hid Hq
  clear Hp Hq
  unfold ndV at HP HQ
  unfold ndV
  go_enter Try.func7, Try.ntmps7
  go_wp2_with fail
  refine (awake10_any _).mono ?_
  rintro e w1 ⟨rfl, hb1⟩
  have z1 := (hb1).size
  try simp at z1
  have ra : row w1 (w.heap.size) = (Value.int .i64 2 :: (u8v fr ++ (u8v to ++ (u8v ab ++ (u8v mac ++ (.bool false :: u8v fl)))))).toArray := by rw [row_below hb1 (by first | (simp; done) | (simp; omega) | omega)]; simp [go_sem]; (try rfl)
  replace hb1 := below_of hb1 (show Below (w).heap.size w _ from by (repeat (first | exact Below.refl _ _ | refine Below.alloc ?_ (by first | (simp; done) | (simp; omega) | omega) _ | refine Below.drew ?_ | refine Below.setRow ?_ (by first | (simp; done) | (simp; omega) | omega) _ | refine Below.setCell ?_ (by first | (simp; done) | (simp; omega) | omega) _))) (by first | (simp; done) | (simp; omega) | omega)
  go_wp2_with fail
  refine (of10_any 2 fr to ab mac false fl _).mono ?_
  rintro e w2 ⟨rfl, hb2⟩
  have z2 := (hb2).size
  try simp at z2
  replace ra := (row_below hb2 (by omega)).trans ra
  unfold ndV
  go_wp2_with fail
  refine (HP.out _).mono ?_
  rintro e w3 ⟨rfl, hb3⟩
  have z3 := (hb3).size
  try simp at z3
  replace ra := (row_below hb3 (by omega)).trans ra
  go_wp2_with fail
  refine (HQ.out _).mono ?_
  rintro e w4 ⟨rfl, hb4⟩
  have z4 := (hb4).size
  try simp at z4
  go_wp2_with fail
  go_ret
  refine ⟨by simp, ?_⟩
  refine Below.trans ?_ (Below.mono hb4 (by first | (simp; done) | (simp; omega) | omega))
  refine Below.trans ?_ (Below.mono hb3 (by first | (simp; done) | (simp; omega) | omega))
  refine Below.trans ?_ (Below.mono hb2 (by first | (simp; done) | (simp; omega) | omega))
  exact hb1
set_option maxHeartbeats 1000000 in
theorem ndBack_long (op : Int) (fr to ab : Vector UInt8 16) (mac : Vector UInt8 6) (has : Bool) (fl : Vector UInt8 4) (more : List UInt8) (w : World) (hl : ¬ more.length ≤ 1000) (hm : more.length ≤ maxLen) :
    Calls Try.prog 7 #[.agg (ndV op fr to ab mac has fl).toArray, .string ⟨more.toArray⟩] w fun e W' => e = .returned (.bool true) ∧ Below w.heap.size w W' := by
  unfold maxLen at hm
  have hl1 : (1000 : Int) < more.length := by omega
  unfold ndV
  go_enter Try.func7, Try.ntmps7
  go_wp2_with fail
  refine (awake10_any _).mono ?_
  rintro e w1 ⟨rfl, hb1⟩
  have z1 := (hb1).size
  try simp at z1
  replace hb1 := below_of hb1 (show Below (w).heap.size w _ from by (repeat (first | exact Below.refl _ _ | refine Below.alloc ?_ (by first | (simp; done) | (simp; omega) | omega) _ | refine Below.drew ?_ | refine Below.setRow ?_ (by first | (simp; done) | (simp; omega) | omega) _ | refine Below.setCell ?_ (by first | (simp; done) | (simp; omega) | omega) _))) (by first | (simp; done) | (simp; omega) | omega)
  go_wp2_with fail
  refine (awake10_any _).mono ?_
  rintro e w2 ⟨rfl, hb2⟩
  go_wp2_with fail
  go_ret
  refine ⟨rfl, ?_⟩
  refine Below.trans ?_ (Below.mono hb2 (by first | (simp; done) | (simp; omega) | omega))
  exact hb1
theorem ndBack_walk (W : World) (base : Nat) (args : Array Value) (hlen : args.size = Try.f7.params.size) (hval : ∀ (j : Nat) t v, Try.f7.params[j]? = some t → args[j]? = some v → Value.okWide Try.prog W .any base t v) :
    Calls Try.prog 7 args W fun e W' => e = .returned (.bool true) ∧ Below W.heap.size W W' := by
  obtain ⟨l⟩ := args
  match l, hlen with
  | [v0, v1], _ =>
  have k0 := hval 0 52 v0 rfl rfl
  have k1 := hval 1 9 v1 rfl rfl
  obtain ⟨op, fr, to, ab, mac, has, fl, rfl⟩ := open_nd k0
  obtain ⟨more, rfl, hm⟩ := open_str Try.underlying9 k1
  by_cases hl : more.length ≤ 1000
  · by_cases ho1 : op = 1
    · subst ho1
      cases has with
      | true => exact ndBack_large_op1 fr to ab mac fl more W hl
      | false =>
        by_cases hc : mac = mac0
        · subst hc
          exact ndBack_small_op1 fr to ab mac0 fl more W hl
        · exact ndBack_badmac1 fr to ab mac fl more W hl hc
    · by_cases ho2 : op = 2
      · subst ho2
        cases has with
        | true => exact ndBack_large_op2 fr to ab mac fl more W hl
        | false =>
          by_cases hc : mac = mac0
          · subst hc
            exact ndBack_small_op2 fr to ab mac0 fl more W hl
          · exact ndBack_badmac2 fr to ab mac fl more W hl hc
      · exact ndBack_badop op fr to ab mac has fl more W hl ho1 ho2
  · exact ndBack_long op fr to ab mac has fl more W hl hm
end Go.Proofs.Ythnjkpecnaglhaa
