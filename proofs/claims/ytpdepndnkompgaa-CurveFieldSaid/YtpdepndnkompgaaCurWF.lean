/- The walk of the law CurveField. -/
import Derived.Test.YtpdepndnkompgaaCurC
import Derived.Test.YtpdepndnkompgaaCurF
set_option linter.unusedSimpArgs false
set_option linter.unusedVariables false
namespace Go.Proofs.Ytpdepndnkompgaa
open Go.ChangeShapes Go.WideShapes Go.ChangeAt Go.RowKit
attribute [local irreducible] mulK invK sharedK
set_option maxRecDepth 20000 in
set_option maxHeartbeats 4000000 in
theorem curveField_any (a b c : List UInt8) (w : World) (ha : a.length = 32) (hb : b.length = 32) (hc : c.length = 32) :
    Calls Try.prog 5 #[.agg (u8s a).toArray, .agg (u8s b).toArray, .agg (u8s c).toArray] w fun e w' => e = .returned (.bool true) ∧ Below w.heap.size w w' := by
  have hk1 := k1_length
  obtain ⟨ab, hab⟩ : ∃ x, mulK a b = x := ⟨_, rfl⟩
  obtain ⟨bc, hbc⟩ : ∃ x, mulK b c = x := ⟨_, rfl⟩
  obtain ⟨abc, habc⟩ : ∃ x, mulK a bc = x := ⟨_, rfl⟩
  obtain ⟨one, hone⟩ : ∃ x, mulK a k1 = x := ⟨_, rfl⟩
  obtain ⟨iv, hiv⟩ : ∃ x, invK a = x := ⟨_, rfl⟩
  have l1 : ab.length = 32 := by rw [← hab]; exact mulK_length _ _
  have l2 : bc.length = 32 := by rw [← hbc]; exact mulK_length _ _
  have l3 : abc.length = 32 := by rw [← habc]; exact mulK_length _ _
  have l4 : one.length = 32 := by rw [← hone]; exact mulK_length _ _
  have l5 : iv.length = 32 := by rw [← hiv]; exact invK_length _
  have hass : mulK ab c = abc := by rw [← hab, ← habc, ← hbc, mulK_assoc]
  have hcom : mulK b a = ab := by rw [mulK_comm, hab]
  have H1 := fun w => mul_any a b w ha hb
  have H2 := fun w => mul_any b a w hb ha
  have H3 := fun w => mul_any b c w hb hc
  have H4 := fun w => mul_any a bc w ha l2
  have H5 := fun w => mul_any ab c w l1 hc
  have H6 := fun w => mul_any a k1 w ha hk1
  have H7 := fun w => inv_any a w ha
  have H8 := fun w => mul_any a iv w ha l5
  have hz : numK a % pN = 0 → one = z32 ∧ iv = z32 := by rw [← hone, ← hiv]; exact field_zero a
  have hnz : numK a % pN ≠ 0 → one ≠ z32 ∧ mulK a iv = k1 := by rw [← hone, ← hiv]; exact field_one a
  rw [hab] at H1
  rw [hcom] at H2
  rw [hbc] at H3
  rw [habc] at H4
  rw [hass] at H5
  rw [hone] at H6
  rw [hiv] at H7
  have K1 := Lib.hid H1
  have K2 := Lib.hid H2
  have K3 := Lib.hid H3
  have K4 := Lib.hid H4
  have K5 := Lib.hid H5
  clear H1 H2 H3 H4 H5 hab hbc habc hone hiv hass hcom
  have Z := Lib.hid hz
  have NZ := Lib.hid hnz
  have K6 := Lib.hid H6
  have K7 := Lib.hid H7
  have K8 := Lib.hid H8
  clear hz hnz H6 H7 H8
  go_enter Try.func5, Try.ntmps5
  go_wp2_with fail
  obtain ⟨W, hW⟩ : ∃ W, (((w.alloc (.cells (u8s a).toArray 23)).alloc (.cells (u8s b).toArray 23)).alloc (.cells (u8s c).toArray 23)) = W := ⟨_, rfl⟩
  have rA : row W w.heap.size = (u8s a).toArray := by rw [← hW]; simp [go_sem]
  have rB : row W (w.heap.size + 1) = (u8s b).toArray := by rw [← hW]; simp [go_sem]
  have rC : row W (w.heap.size + 1 + 1) = (u8s c).toArray := by rw [← hW]; simp [go_sem]
  have zW : W.heap.size = w.heap.size + 1 + 1 + 1 := by rw [← hW]; simp
  have hb0 : Below w.heap.size w W := by rw [← hW]; (repeat (first | exact Below.refl _ _ | refine Below.alloc ?_ (by first | (simp; done) | (simp; omega) | omega) _ | refine Below.drew ?_ | refine Below.setRow ?_ (by first | (simp; done) | (simp; omega) | omega) _ | refine Below.setCell ?_ (by first | (simp; done) | (simp; omega) | omega) _))
  rw [hW]
  clear hW
  refine wp_region_beginR [(w.heap.size, (u8s a).toArray), (w.heap.size + 1, (u8s b).toArray), (w.heap.size + 1 + 1, (u8s c).toArray)] rfl (by simp only [Rws]; (repeat (first | exact trivial | refine ⟨(by first | assumption | (simp [go_sem, *]; done)), (by first | omega | (simp; done) | (simp; omega)), ?_⟩))) (fun hS => ?_)
  refine wpAnyR_take (i := 0) (v := ?_) (by simp only [List.getElem?_toArray, List.getElem?_cons_succ, List.getElem?_cons_zero]; rfl) (by kernel_rfl) (by kernel_rfl) (by kernel_rfl) (by first | exact fun _ _ _ h => h | exact fun _ _ _ h => by cases h.1) (Rws.grow _) (Or.inl ⟨by rfl, ?_⟩) hS ?_
  rotate_left
  · intro w' hS'
    simp only [Rws] at hS'
    go_simp
    with_reducible refine (awake06_any _).mono ?_
    rintro e w'' ⟨rfl, hb⟩
    refine ⟨_, rfl, ?_, hb⟩
    rfl
  (try simp only [Act.put, List.setIfInBounds_toArray, List.set_cons_zero, List.set_cons_succ])
  refine wpAnyR_take (i := 1) (v := ?_) (by simp only [List.getElem?_toArray, List.getElem?_cons_succ, List.getElem?_cons_zero]; rfl) (by kernel_rfl) (by kernel_rfl) (by kernel_rfl) (by first | exact fun _ _ _ h => h | exact fun _ _ _ h => by cases h.1) (Rws.grow _) (Or.inl ⟨by rfl, ?_⟩) hS ?_
  rotate_left
  · intro w' hS'
    simp only [Rws] at hS'
    go_simp
    refine ⟨?_, Below.refl _ _⟩
    rfl
  (try simp only [Act.put, List.setIfInBounds_toArray, List.set_cons_zero, List.set_cons_succ])
  refine wpAnyR_take (i := 2) (v := ?_) (by simp only [List.getElem?_toArray, List.getElem?_cons_succ, List.getElem?_cons_zero]; rfl) (by kernel_rfl) (by kernel_rfl) (by kernel_rfl) (by first | exact fun _ _ _ h => h | exact fun _ _ _ h => by cases h.1) (Rws.grow _) (Or.inl ⟨by rfl, ?_⟩) hS ?_
  rotate_left
  · intro w' hS'
    simp only [Rws] at hS'
    go_simp
    refine ⟨?_, Below.refl _ _⟩
    rfl
  (try simp only [Act.put, List.setIfInBounds_toArray, List.set_cons_zero, List.set_cons_succ])
  refine wpAnyR_take (i := 3) (v := ?_) (by simp only [List.getElem?_toArray, List.getElem?_cons_succ, List.getElem?_cons_zero]; rfl) (by kernel_rfl) (by kernel_rfl) (by kernel_rfl) (by first | exact fun _ _ _ h => h | exact fun _ _ _ h => by cases h.1) (Rws.grow _) (Or.inl ⟨by rfl, ?_⟩) hS ?_
  rotate_left
  · intro w' hS'
    simp only [Rws] at hS'
    go_simp
    refine ⟨?_, Below.refl _ _⟩
    rfl
  (try simp only [Act.put, List.setIfInBounds_toArray, List.set_cons_zero, List.set_cons_succ])
  refine wpAnyR_take (i := 4) (v := ?_) (by simp only [List.getElem?_toArray, List.getElem?_cons_succ, List.getElem?_cons_zero]; rfl) (by kernel_rfl) (by kernel_rfl) (by kernel_rfl) (by first | exact fun _ _ _ h => h | exact fun _ _ _ h => by cases h.1) (Rws.grow _) (Or.inl ⟨by rfl, ?_⟩) hS ?_
  rotate_left
  · intro w' hS'
    simp only [Rws] at hS'
    go_simp
    refine ⟨?_, Below.refl _ _⟩
    rfl
  (try simp only [Act.put, List.setIfInBounds_toArray, List.set_cons_zero, List.set_cons_succ])
  refine wpAnyR_take (i := 6) (v := ?_) (by simp only [List.getElem?_toArray, List.getElem?_cons_succ, List.getElem?_cons_zero]; rfl) (by kernel_rfl) (by kernel_rfl) (by kernel_rfl) (by first | exact fun _ _ _ h => h | exact fun _ _ _ h => by cases h.1) (Rws.grow _) (Or.inl ⟨by rfl, ?_⟩) hS ?_
  rotate_left
  · intro w' hS'
    simp only [Rws] at hS'
    go_simp
    refine ⟨?_, Below.refl _ _⟩
    rfl
  (try simp only [Act.put, List.setIfInBounds_toArray, List.set_cons_zero, List.set_cons_succ])
  refine wpAnyR_take (i := 7) (v := ?_) (by simp only [List.getElem?_toArray, List.getElem?_cons_succ, List.getElem?_cons_zero]; rfl) (by kernel_rfl) (by kernel_rfl) (by kernel_rfl) (by first | exact fun _ _ _ h => h | exact fun _ _ _ h => by cases h.1) (Rws.grow _) (Or.inl ⟨by rfl, ?_⟩) hS ?_
  rotate_left
  · intro w' hS'
    simp only [Rws] at hS'
    go_simp
    refine ⟨?_, Below.refl _ _⟩
    rfl
  (try simp only [Act.put, List.setIfInBounds_toArray, List.set_cons_zero, List.set_cons_succ])
  refine wpAnyR_take (i := 5) (v := ?_) (by simp only [List.getElem?_toArray, List.getElem?_cons_succ, List.getElem?_cons_zero]; rfl) (by kernel_rfl) (by kernel_rfl) (by kernel_rfl) (by first | exact fun _ _ _ h => h | exact fun _ _ _ h => by cases h.1) (Rws.grow _) (Or.inl ⟨by rfl, ?_⟩) hS ?_
  rotate_left
  · intro w' hS'
    simp only [Rws] at hS'
    go_simp
    with_reducible refine (K1.out _).mono ?_
    rintro e w'' ⟨rfl, hb⟩
    refine ⟨_, rfl, ?_, hb⟩
    rfl
  (try simp only [Act.put, List.setIfInBounds_toArray, List.set_cons_zero, List.set_cons_succ])
  refine wpAnyR_take (i := 8) (v := ?_) (by simp only [List.getElem?_toArray, List.getElem?_cons_succ, List.getElem?_cons_zero]; rfl) (by kernel_rfl) (by kernel_rfl) (by kernel_rfl) (by first | exact fun _ _ _ h => h | exact fun _ _ _ h => by cases h.1) (Rws.grow _) (Or.inl ⟨by rfl, ?_⟩) hS ?_
  rotate_left
  · intro w' hS'
    simp only [Rws] at hS'
    go_simp
    with_reducible refine (K2.out _).mono ?_
    rintro e w'' ⟨rfl, hb⟩
    refine ⟨_, rfl, ?_, hb⟩
    rfl
  (try simp only [Act.put, List.setIfInBounds_toArray, List.set_cons_zero, List.set_cons_succ])
  refine wpAnyR_take (i := 9) (v := ?_) (by simp only [List.getElem?_toArray, List.getElem?_cons_succ, List.getElem?_cons_zero]; rfl) (by kernel_rfl) (by kernel_rfl) (by kernel_rfl) (by first | exact fun _ _ _ h => h | exact fun _ _ _ h => by cases h.1) (Rws.grow _) (Or.inl ⟨by rfl, ?_⟩) hS ?_
  rotate_left
  · intro w' hS'
    simp only [Rws] at hS'
    go_simp
    refine ⟨?_, Below.refl _ _⟩
    rfl
  (try simp only [Act.put, List.setIfInBounds_toArray, List.set_cons_zero, List.set_cons_succ])
  refine wpAnyR_take (i := 10) (v := ?_) (by simp only [List.getElem?_toArray, List.getElem?_cons_succ, List.getElem?_cons_zero]; rfl) (by kernel_rfl) (by kernel_rfl) (by kernel_rfl) (by first | exact fun _ _ _ h => h | exact fun _ _ _ h => by cases h.1) (Rws.grow _) (Or.inl ⟨by rfl, ?_⟩) hS ?_
  rotate_left
  · intro w' hS'
    simp only [Rws] at hS'
    go_simp
    refine ⟨?_, Below.refl _ _⟩
    rfl
  (try simp only [Act.put, List.setIfInBounds_toArray, List.set_cons_zero, List.set_cons_succ])
  refine wpAnyR_take (i := 11) (v := ?_) (by simp only [List.getElem?_toArray, List.getElem?_cons_succ, List.getElem?_cons_zero]; rfl) (by kernel_rfl) (by kernel_rfl) (by kernel_rfl) (by first | exact fun _ _ _ h => h | exact fun _ _ _ h => by cases h.1) (Rws.grow _) (Or.inl ⟨by rfl, ?_⟩) hS ?_
  rotate_left
  · intro w' hS'
    simp only [Rws] at hS'
    go_simp
    refine ⟨?_, Below.refl _ _⟩
    rfl
  (try simp only [Act.put, List.setIfInBounds_toArray, List.set_cons_zero, List.set_cons_succ])
  refine wpAnyR_take (i := 12) (v := ?_) (by simp only [List.getElem?_toArray, List.getElem?_cons_succ, List.getElem?_cons_zero]; rfl) (by kernel_rfl) (by kernel_rfl) (by kernel_rfl) (by first | exact fun _ _ _ h => h | exact fun _ _ _ h => by cases h.1) (Rws.grow _) (Or.inl ⟨by rfl, ?_⟩) hS ?_
  rotate_left
  · intro w' hS'
    simp only [Rws] at hS'
    go_simp
    refine ⟨?_, Below.refl _ _⟩
    rfl
  (try simp only [Act.put, List.setIfInBounds_toArray, List.set_cons_zero, List.set_cons_succ])
  refine wpAnyR_take (i := 13) (v := ?_) (by simp only [List.getElem?_toArray, List.getElem?_cons_succ, List.getElem?_cons_zero]; rfl) (by kernel_rfl) (by kernel_rfl) (by kernel_rfl) (by first | exact fun _ _ _ h => h | exact fun _ _ _ h => by cases h.1) (Rws.grow _) (Or.inl ⟨by rfl, ?_⟩) hS ?_
  rotate_left
  · intro w' hS'
    simp only [Rws] at hS'
    go_simp
    refine ⟨?_, Below.refl _ _⟩
    rfl
  (try simp only [Act.put, List.setIfInBounds_toArray, List.set_cons_zero, List.set_cons_succ])
  refine wpAnyR_take (i := 14) (v := ?_) (by simp only [List.getElem?_toArray, List.getElem?_cons_succ, List.getElem?_cons_zero]; rfl) (by kernel_rfl) (by kernel_rfl) (by kernel_rfl) (by first | exact fun _ _ _ h => h | exact fun _ _ _ h => by cases h.1) (Rws.grow _) (Or.inl ⟨by rfl, ?_⟩) hS ?_
  rotate_left
  · intro w' hS'
    simp only [Rws] at hS'
    go_simp
    refine ⟨?_, Below.refl _ _⟩
    rfl
  (try simp only [Act.put, List.setIfInBounds_toArray, List.set_cons_zero, List.set_cons_succ])
  refine wpAnyR_take (i := 17) (v := ?_) (by simp only [List.getElem?_toArray, List.getElem?_cons_succ, List.getElem?_cons_zero]; rfl) (by kernel_rfl) (by kernel_rfl) (by kernel_rfl) (by first | exact fun _ _ _ h => h | exact fun _ _ _ h => by cases h.1) (Rws.grow _) (Or.inl ⟨by rfl, ?_⟩) hS ?_
  rotate_left
  · intro w' hS'
    simp only [Rws] at hS'
    go_simp
    refine ⟨?_, Below.refl _ _⟩
    rfl
  (try simp only [Act.put, List.setIfInBounds_toArray, List.set_cons_zero, List.set_cons_succ])
  refine wpAnyR_take (i := 18) (v := ?_) (by simp only [List.getElem?_toArray, List.getElem?_cons_succ, List.getElem?_cons_zero]; rfl) (by kernel_rfl) (by kernel_rfl) (by kernel_rfl) (by first | exact fun _ _ _ h => h | exact fun _ _ _ h => by cases h.1) (Rws.grow _) (Or.inl ⟨by rfl, ?_⟩) hS ?_
  rotate_left
  · intro w' hS'
    simp only [Rws] at hS'
    go_simp
    refine ⟨?_, Below.refl _ _⟩
    rfl
  (try simp only [Act.put, List.setIfInBounds_toArray, List.set_cons_zero, List.set_cons_succ])
  refine wpAnyR_take (i := 20) (v := ?_) (by simp only [List.getElem?_toArray, List.getElem?_cons_succ, List.getElem?_cons_zero]; rfl) (by kernel_rfl) (by kernel_rfl) (by kernel_rfl) (by first | exact fun _ _ _ h => h | exact fun _ _ _ h => by cases h.1) (Rws.grow _) (Or.inl ⟨by rfl, ?_⟩) hS ?_
  rotate_left
  · intro w' hS'
    simp only [Rws] at hS'
    go_simp
    refine ⟨?_, Below.refl _ _⟩
    rfl
  (try simp only [Act.put, List.setIfInBounds_toArray, List.set_cons_zero, List.set_cons_succ])
  refine wpAnyR_take (i := 15) (v := ?_) (by simp only [List.getElem?_toArray, List.getElem?_cons_succ, List.getElem?_cons_zero]; rfl) (by kernel_rfl) (by kernel_rfl) (by kernel_rfl) (by first | exact fun _ _ _ h => h | exact fun _ _ _ h => by cases h.1) (Rws.grow _) (Or.inl ⟨by rfl, ?_⟩) hS ?_
  rotate_left
  · intro w' hS'
    simp only [Rws] at hS'
    go_simp
    with_reducible refine (K3.out _).mono ?_
    rintro e w'' ⟨rfl, hb⟩
    refine ⟨_, rfl, ?_, hb⟩
    rfl
  (try simp only [Act.put, List.setIfInBounds_toArray, List.set_cons_zero, List.set_cons_succ])
  refine wpAnyR_take (i := 16) (v := ?_) (by simp only [List.getElem?_toArray, List.getElem?_cons_succ, List.getElem?_cons_zero]; rfl) (by kernel_rfl) (by kernel_rfl) (by kernel_rfl) (by first | exact fun _ _ _ h => h | exact fun _ _ _ h => by cases h.1) (Rws.grow _) (Or.inl ⟨by rfl, ?_⟩) hS ?_
  rotate_left
  · intro w' hS'
    simp only [Rws] at hS'
    go_simp
    with_reducible refine (K4.out _).mono ?_
    rintro e w'' ⟨rfl, hb⟩
    refine ⟨_, rfl, ?_, hb⟩
    rfl
  (try simp only [Act.put, List.setIfInBounds_toArray, List.set_cons_zero, List.set_cons_succ])
  refine wpAnyR_take (i := 19) (v := ?_) (by simp only [List.getElem?_toArray, List.getElem?_cons_succ, List.getElem?_cons_zero]; rfl) (by kernel_rfl) (by kernel_rfl) (by kernel_rfl) (by first | exact fun _ _ _ h => h | exact fun _ _ _ h => by cases h.1) (Rws.grow _) (Or.inl ⟨by rfl, ?_⟩) hS ?_
  rotate_left
  · intro w' hS'
    simp only [Rws] at hS'
    go_simp
    with_reducible refine (K1.out _).mono ?_
    rintro e w'' ⟨rfl, hb⟩
    refine ⟨_, rfl, ?_, hb⟩
    rfl
  (try simp only [Act.put, List.setIfInBounds_toArray, List.set_cons_zero, List.set_cons_succ])
  refine wpAnyR_take (i := 21) (v := ?_) (by simp only [List.getElem?_toArray, List.getElem?_cons_succ, List.getElem?_cons_zero]; rfl) (by kernel_rfl) (by kernel_rfl) (by kernel_rfl) (by first | exact fun _ _ _ h => h | exact fun _ _ _ h => by cases h.1) (Rws.grow _) (Or.inl ⟨by rfl, ?_⟩) hS ?_
  rotate_left
  · intro w' hS'
    simp only [Rws] at hS'
    go_simp
    with_reducible refine (K5.out _).mono ?_
    rintro e w'' ⟨rfl, hb⟩
    refine ⟨_, rfl, ?_, hb⟩
    rfl
  (try simp only [Act.put, List.setIfInBounds_toArray, List.set_cons_zero, List.set_cons_succ])
  refine wpAnyR_take (i := 22) (v := ?_) (by simp only [List.getElem?_toArray, List.getElem?_cons_succ, List.getElem?_cons_zero]; rfl) (by kernel_rfl) (by kernel_rfl) (by kernel_rfl) (by first | exact fun _ _ _ h => h | exact fun _ _ _ h => by cases h.1) (Rws.grow _) (Or.inl ⟨by rfl, ?_⟩) hS ?_
  rotate_left
  · intro w' hS'
    simp only [Rws] at hS'
    go_simp
    refine ⟨?_, Below.refl _ _⟩
    rfl
  (try simp only [Act.put, List.setIfInBounds_toArray, List.set_cons_zero, List.set_cons_succ])
  refine wpAnyR_take (i := 23) (v := ?_) (by simp only [List.getElem?_toArray, List.getElem?_cons_succ, List.getElem?_cons_zero]; rfl) (by kernel_rfl) (by kernel_rfl) (by kernel_rfl) (by first | exact fun _ _ _ h => h | exact fun _ _ _ h => by cases h.1) (Rws.grow _) (Or.inl ⟨by rfl, ?_⟩) hS ?_
  rotate_left
  · intro w' hS'
    simp only [Rws] at hS'
    go_simp
    refine ⟨?_, Below.refl _ _⟩
    rfl
  (try simp only [Act.put, List.setIfInBounds_toArray, List.set_cons_zero, List.set_cons_succ])
  refine wpAnyR_done (by kernel_rfl) (fun w1 h1 => ?_) _
  replace h1 : Below (W).heap.size (W) w1 := below_step (Below.drew (Below.refl _ _)) h1
  have z1 := h1.size
  replace rA := (row_below h1 (by omega)).trans rA
  replace hb0 := Below.trans hb0 (h1.mono (by omega))
  clear h1 rB rC K1 K2 K3 K4 K5
  by_cases hA : numK a % pN = 0
  · obtain ⟨e1, e2⟩ := Z.out hA
    have K6' : Hid (∀ w, Calls Try.prog 14 #[.agg (u8s a).toArray, .agg (u8s k1).toArray] w fun e w' => e = .returned (.agg (zeros 32 (.int .u8 0)).toArray) ∧ Below w.heap.size w w') := by
      have := K6.out
      rw [e1, u8s_z32] at this
      exact Lib.hid this
    have K7' : Hid (∀ w, Calls Try.prog 15 #[.agg (u8s a).toArray] w fun e w' => e = .returned (.agg (zeros 32 (.int .u8 0)).toArray) ∧ Below w.heap.size w w') := by
      have := K7.out
      rw [e2, u8s_z32] at this
      exact Lib.hid this
    clear K6 K7 K8 Z NZ e1 e2 hA
    go_wp2_with fail
    refine (K6'.out _).mono ?_
    rintro e w2 ⟨rfl, h2⟩
    have z2 := h2.size
    replace rA := (row_below h2 (by omega)).trans rA
    have q1 : w.heap.size < w2.heap.size := by omega
    go_wp2_with fail
    refine (K7'.out _).mono ?_
    rintro e w3 ⟨rfl, h3⟩
    have rO : row w3 w2.heap.size = (zeros 32 (.int .u8 0)).toArray := by rw [row_below h3 (by simp)]; simp [go_sem]
    have z3 := (h3).size
    try simp at z3
    have q2 : w2.heap.size < w3.heap.size := by omega
    go_wp2_with fail
    go_ret
    have c1 : Below w.heap.size w w2 := Below.trans hb0 (h2.mono (by omega))
    have c2 : Below w.heap.size w w3 := Below.trans (Below.alloc c1 (by omega) _) (h3.mono (by simp; omega))
    exact ⟨rfl, Below.alloc c2 (by omega) _⟩
  · obtain ⟨e1, e2⟩ := NZ.out hA
    have K8' : Hid (∀ w, Calls Try.prog 14 #[.agg (u8s a).toArray, .agg (u8s iv).toArray] w fun e w' => e = .returned (.agg (u8s k1).toArray) ∧ Below w.heap.size w w') := by
      have := K8.out
      rw [e2] at this
      exact Lib.hid this
    have hbeq : (one == z32) = false := by simpa using e1
    clear K8 Z NZ e1 e2 hA
    go_wp2_with fail
    refine (K6.out _).mono ?_
    rintro e w2 ⟨rfl, h2⟩
    have z2 := h2.size
    replace rA := (row_below h2 (by omega)).trans rA
    have q1 : w.heap.size < w2.heap.size := by omega
    go_wp2_with fail
    refine (K7.out _).mono ?_
    rintro e w3 ⟨rfl, h3⟩
    have rO : row w3 w2.heap.size = (u8s one).toArray := by rw [row_below h3 (by simp)]; simp [go_sem]
    have z3 := (h3).size
    try simp at z3
    have q2 : w2.heap.size < w3.heap.size := by omega
    have q3 : w.heap.size < w3.heap.size := by omega
    replace rA : row w3 w.heap.size = (u8s a).toArray := by rw [row_below h3 (by simp; omega)]; simp [go_sem, q1, rA]
    go_wp2_with fail
    refine (K8'.out _).mono ?_
    rintro e w4 ⟨rfl, h4⟩
    have rO4 : row w4 w2.heap.size = (u8s one).toArray := by rw [row_below h4 (by simp; omega)]; simp [go_sem, q2, rO]
    go_wp2_with fail
    go_ret
    have c1 : Below w.heap.size w w2 := Below.trans hb0 (h2.mono (by omega))
    have c2 : Below w.heap.size w w3 := Below.trans (Below.alloc c1 (by omega) _) (h3.mono (by simp; omega))
    exact ⟨rfl, Below.trans (Below.alloc c2 (by omega) _) (h4.mono (by simp; omega))⟩
theorem curveField_walk (W : World) (base : Nat) (args : Array Value) (hlen : args.size = Try.f5.params.size) (hval : ∀ (j : Nat) t v, Try.f5.params[j]? = some t → args[j]? = some v → Value.okWide Try.prog W .any base t v) :
    Calls Try.prog 5 args W fun e W' => e = .returned (.bool true) ∧ Below W.heap.size W W' := by
  obtain ⟨l⟩ := args
  match l, hlen with
  | [v0, v1, v2], _ =>
  obtain ⟨a, rfl, ha⟩ := open_key (hval 0 23 v0 rfl rfl)
  obtain ⟨b, rfl, hb⟩ := open_key (hval 1 23 v1 rfl rfl)
  obtain ⟨c, rfl, hc⟩ := open_key (hval 2 23 v2 rfl rfl)
  exact curveField_any a b c W ha hb hc
end Go.Proofs.Ytpdepndnkompgaa
