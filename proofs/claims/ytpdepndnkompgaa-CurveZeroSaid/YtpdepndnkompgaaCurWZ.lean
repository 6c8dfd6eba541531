/- The walk of the law CurveZero. -/
import Derived.Test.YtpdepndnkompgaaCurJ
set_option linter.unusedSimpArgs false
set_option linter.unusedVariables false
namespace Go.Proofs.Ytpdepndnkompgaa
open Go.ChangeShapes Go.WideShapes Go.ChangeAt Go.RowKit
attribute [local irreducible] mulK invK sharedK
set_option maxRecDepth 20000 in
set_option maxHeartbeats 4000000 in
theorem curveZero_any (a : List UInt8) (w : World) (ha : a.length = 32) :
    Calls Try.prog 8 #[.agg (u8s a).toArray] w fun e w' => e = .returned (.bool true) ∧ Below w.heap.size w w' := by
  have hk1 := k1_length
  obtain ⟨one, hone⟩ : ∃ x, mulK a k1 = x := ⟨_, rfl⟩
  obtain ⟨iv, hiv⟩ : ∃ x, invK a = x := ⟨_, rfl⟩
  have l4 : one.length = 32 := by rw [← hone]; exact mulK_length _ _
  have l5 : iv.length = 32 := by rw [← hiv]; exact invK_length _
  have H1 : ∀ w, Calls Try.prog 12 #[.agg (u8s a).toArray, .agg (zeros 32 (.int .u8 0)).toArray] w fun e w' => e = .returned (.agg (zeros 32 (.int .u8 0)).toArray) ∧ Below w.heap.size w w' := fun w => by
    have := shared_any a z32 w ha rfl
    rw [show sharedK a z32 = z32 from shared_0 a, u8s_z32] at this
    exact this
  have H2 : ∀ w, Calls Try.prog 12 #[.agg (u8s a).toArray, .agg (u8s k1).toArray] w fun e w' => e = .returned (.agg (zeros 32 (.int .u8 0)).toArray) ∧ Below w.heap.size w w' := fun w => by
    have := shared_any a k1 w ha hk1
    rw [show sharedK a k1 = z32 from shared_1 a ha, u8s_z32] at this
    exact this
  have H3 := fun w => inv_any a w ha
  have H4 := fun w => inv_any iv w l5
  have H5 := fun w => mul_any a k1 w ha hk1
  have hii : invK iv = one := by rw [← hiv, ← hone, inv_inv]
  rw [hiv] at H3
  rw [hii] at H4
  rw [hone] at H5
  have K1 := Lib.hid H1
  have K2 := Lib.hid H2
  have K3 := Lib.hid H3
  have K4 := Lib.hid H4
  have K5 := Lib.hid H5
  clear H1 H2 H3 H4 H5 hone hiv hii
  go_enter Try.func8, Try.ntmps8
  go_wp2_with fail
  refine (awake06_any _).mono ?_
  rintro e w1 ⟨rfl, h1⟩
  have rA : row w1 w.heap.size = (u8s a).toArray := by rw [row_below h1 (by simp)]; simp [go_sem]
  have z1 := (h1).size
  try simp at z1
  replace h1 := below_of h1 (show Below (w).heap.size w _ from by (repeat (first | exact Below.refl _ _ | refine Below.alloc ?_ (by first | (simp; done) | (simp; omega) | omega) _ | refine Below.drew ?_ | refine Below.setRow ?_ (by first | (simp; done) | (simp; omega) | omega) _ | refine Below.setCell ?_ (by first | (simp; done) | (simp; omega) | omega) _))) (by first | (simp; done) | (simp; omega) | omega)
  go_wp2_with fail
  refine (K1.out _).mono ?_
  rintro e w2 ⟨rfl, h2⟩
  have z2 := h2.size
  replace rA := (row_below h2 (by omega)).trans rA
  have q1 : w.heap.size < w2.heap.size := by omega
  have c2 : Below w.heap.size w w2 := Below.trans h1 (h2.mono (by omega))
  go_wp2_with fail
  have hN : Below w2.heap.size w2 (w2.alloc (.cells (zeros 32 (.int .u8 0)).toArray 23)) := by (repeat (first | exact Below.refl _ _ | refine Below.alloc ?_ (by first | (simp; done) | (simp; omega) | omega) _ | refine Below.drew ?_ | refine Below.setRow ?_ (by first | (simp; done) | (simp; omega) | omega) _ | refine Below.setCell ?_ (by first | (simp; done) | (simp; omega) | omega) _))
  obtain ⟨W, hW⟩ : ∃ W, w2.alloc (.cells (zeros 32 (.int .u8 0)).toArray 23) = W := ⟨_, rfl⟩
  have rZ : row W w2.heap.size = (zeros 32 (.int .u8 0)).toArray := by rw [← hW]; simp [go_sem]
  have zW : W.heap.size = w2.heap.size + 1 := by rw [← hW]; simp
  rw [hW] at hN ⊢
  replace rA := (row_below hN (by omega)).trans rA
  replace c2 := Below.trans c2 (hN.mono (by omega))
  clear hW hN h1 h2
  refine wp_region_beginR [(w.heap.size, (u8s a).toArray), (w2.heap.size, (zeros 32 (.int .u8 0)).toArray)] rfl (by simp only [Rws]; (repeat (first | exact trivial | refine ⟨(by first | assumption | (simp [go_sem, *]; done)), (by first | omega | (simp; done) | (simp; omega)), ?_⟩))) (fun hS => ?_)
  refine wpAnyR_take (i := 0) (v := ?_) (by simp only [List.getElem?_toArray, List.getElem?_cons_succ, List.getElem?_cons_zero]; rfl) (by kernel_rfl) (by kernel_rfl) (by kernel_rfl) (by first | exact fun _ _ _ h => h | exact fun _ _ _ h => by cases h.1) (Rws.grow _) (Or.inl ⟨by rfl, ?_⟩) hS ?_
  rotate_left
  · intro w' hS'
    simp only [Rws] at hS'
    go_simp
    refine ⟨?_, Below.refl _ _⟩
    rfl
  (try simp only [Act.put, List.setIfInBounds_toArray, List.set_cons_zero, List.set_cons_succ])
  refine wpAnyR_take (i := 1) (v := ?_) (by simp only [List.getElem?_toArray, List.getElem?_cons_succ, List.getElem?_cons_zero]; rfl) (by kernel_rfl) (by kernel_rfl) (by kernel_rfl) (by first | exact fun _ _ _ h => h | exact fun _ _ _ h => by cases h.1) (Rws.grow _) (Or.inl ⟨by rfl, ?_⟩) hS ?_
  rotate_left
  · intro w' hS'
    simp only [Rws] at hS'
    go_simp
    refine ⟨?_, Below.refl _ _⟩
    rfl
  (try simp only [Act.put, List.setIfInBounds_toArray, List.set_cons_zero, List.set_cons_succ])
  refine wpAnyR_take (i := 2) (v := ?_) (by simp only [List.getElem?_toArray, List.getElem?_cons_succ, List.getElem?_cons_zero]; rfl) (by kernel_rfl) (by kernel_rfl) (by kernel_rfl) (by first | exact fun _ _ _ h => h | exact fun _ _ _ h => by cases h.1) (Rws.grow _) (Or.inl ⟨by rfl, ?_⟩) hS ?_
  rotate_left
  · intro w' hS'
    simp only [Rws] at hS'
    go_simp
    refine ⟨?_, Below.refl _ _⟩
    rfl
  (try simp only [Act.put, List.setIfInBounds_toArray, List.set_cons_zero, List.set_cons_succ])
  refine wpAnyR_take (i := 3) (v := ?_) (by simp only [List.getElem?_toArray, List.getElem?_cons_succ, List.getElem?_cons_zero]; rfl) (by kernel_rfl) (by kernel_rfl) (by kernel_rfl) (by first | exact fun _ _ _ h => h | exact fun _ _ _ h => by cases h.1) (Rws.grow _) (Or.inl ⟨by rfl, ?_⟩) hS ?_
  rotate_left
  · intro w' hS'
    simp only [Rws] at hS'
    go_simp
    refine ⟨?_, Below.refl _ _⟩
    rfl
  (try simp only [Act.put, List.setIfInBounds_toArray, List.set_cons_zero, List.set_cons_succ])
  refine wpAnyR_take (i := 4) (v := ?_) (by simp only [List.getElem?_toArray, List.getElem?_cons_succ, List.getElem?_cons_zero]; rfl) (by kernel_rfl) (by kernel_rfl) (by kernel_rfl) (by first | exact fun _ _ _ h => h | exact fun _ _ _ h => by cases h.1) (Rws.grow _) (Or.inl ⟨by rfl, ?_⟩) hS ?_
  rotate_left
  · intro w' hS'
    simp only [Rws] at hS'
    go_simp
    refine ⟨?_, Below.refl _ _⟩
    rfl
  (try simp only [Act.put, List.setIfInBounds_toArray, List.set_cons_zero, List.set_cons_succ])
  refine wpAnyR_take (i := 5) (v := ?_) (by simp only [List.getElem?_toArray, List.getElem?_cons_succ, List.getElem?_cons_zero]; rfl) (by kernel_rfl) (by kernel_rfl) (by kernel_rfl) (by first | exact fun _ _ _ h => h | exact fun _ _ _ h => by cases h.1) (Rws.grow _) (Or.inl ⟨by rfl, ?_⟩) hS ?_
  rotate_left
  · intro w' hS'
    simp only [Rws] at hS'
    go_simp
    refine ⟨?_, Below.refl _ _⟩
    rfl
  (try simp only [Act.put, List.setIfInBounds_toArray, List.set_cons_zero, List.set_cons_succ])
  refine wpAnyR_take (i := 7) (v := ?_) (by simp only [List.getElem?_toArray, List.getElem?_cons_succ, List.getElem?_cons_zero]; rfl) (by kernel_rfl) (by kernel_rfl) (by kernel_rfl) (by first | exact fun _ _ _ h => h | exact fun _ _ _ h => by cases h.1) (Rws.grow _) (Or.inl ⟨by rfl, ?_⟩) hS ?_
  rotate_left
  · intro w' hS'
    simp only [Rws] at hS'
    go_simp
    refine ⟨?_, Below.refl _ _⟩
    rfl
  (try simp only [Act.put, List.setIfInBounds_toArray, List.set_cons_zero, List.set_cons_succ])
  refine wpAnyR_take (i := 6) (v := ?_) (by simp only [List.getElem?_toArray, List.getElem?_cons_succ, List.getElem?_cons_zero]; rfl) (by kernel_rfl) (by kernel_rfl) (by kernel_rfl) (by first | exact fun _ _ _ h => h | exact fun _ _ _ h => by cases h.1) (Rws.grow _) (Or.inl ⟨by rfl, ?_⟩) hS ?_
  rotate_left
  · intro w' hS'
    simp only [Rws] at hS'
    go_simp
    with_reducible refine (K2.out _).mono ?_
    rintro e w'' ⟨rfl, hb⟩
    refine ⟨_, rfl, ?_, hb⟩
    rfl
  (try simp only [Act.put, List.setIfInBounds_toArray, List.set_cons_zero, List.set_cons_succ])
  refine wpAnyR_take (i := 8) (v := ?_) (by simp only [List.getElem?_toArray, List.getElem?_cons_succ, List.getElem?_cons_zero]; rfl) (by kernel_rfl) (by kernel_rfl) (by kernel_rfl) (by first | exact fun _ _ _ h => h | exact fun _ _ _ h => by cases h.1) (Rws.grow _) (Or.inl ⟨by rfl, ?_⟩) hS ?_
  rotate_left
  · intro w' hS'
    simp only [Rws] at hS'
    go_simp
    refine ⟨?_, Below.refl _ _⟩
    rfl
  (try simp only [Act.put, List.setIfInBounds_toArray, List.set_cons_zero, List.set_cons_succ])
  refine wpAnyR_take (i := 9) (v := ?_) (by simp only [List.getElem?_toArray, List.getElem?_cons_succ, List.getElem?_cons_zero]; rfl) (by kernel_rfl) (by kernel_rfl) (by kernel_rfl) (by first | exact fun _ _ _ h => h | exact fun _ _ _ h => by cases h.1) (Rws.grow _) (Or.inl ⟨by rfl, ?_⟩) hS ?_
  rotate_left
  · intro w' hS'
    simp only [Rws] at hS'
    go_simp
    refine ⟨?_, Below.refl _ _⟩
    rfl
  (try simp only [Act.put, List.setIfInBounds_toArray, List.set_cons_zero, List.set_cons_succ])
  refine wpAnyR_take (i := 10) (v := ?_) (by simp only [List.getElem?_toArray, List.getElem?_cons_succ, List.getElem?_cons_zero]; rfl) (by kernel_rfl) (by kernel_rfl) (by kernel_rfl) (by first | exact fun _ _ _ h => h | exact fun _ _ _ h => by cases h.1) (Rws.grow _) (Or.inl ⟨by rfl, ?_⟩) hS ?_
  rotate_left
  · intro w' hS'
    simp only [Rws] at hS'
    go_simp
    refine ⟨?_, Below.refl _ _⟩
    rfl
  (try simp only [Act.put, List.setIfInBounds_toArray, List.set_cons_zero, List.set_cons_succ])
  refine wpAnyR_take (i := 11) (v := ?_) (by simp only [List.getElem?_toArray, List.getElem?_cons_succ, List.getElem?_cons_zero]; rfl) (by kernel_rfl) (by kernel_rfl) (by kernel_rfl) (by first | exact fun _ _ _ h => h | exact fun _ _ _ h => by cases h.1) (Rws.grow _) (Or.inl ⟨by rfl, ?_⟩) hS ?_
  rotate_left
  · intro w' hS'
    simp only [Rws] at hS'
    go_simp
    refine ⟨?_, Below.refl _ _⟩
    rfl
  (try simp only [Act.put, List.setIfInBounds_toArray, List.set_cons_zero, List.set_cons_succ])
  refine wpAnyR_take (i := 14) (v := ?_) (by simp only [List.getElem?_toArray, List.getElem?_cons_succ, List.getElem?_cons_zero]; rfl) (by kernel_rfl) (by kernel_rfl) (by kernel_rfl) (by first | exact fun _ _ _ h => h | exact fun _ _ _ h => by cases h.1) (Rws.grow _) (Or.inl ⟨by rfl, ?_⟩) hS ?_
  rotate_left
  · intro w' hS'
    simp only [Rws] at hS'
    go_simp
    refine ⟨?_, Below.refl _ _⟩
    rfl
  (try simp only [Act.put, List.setIfInBounds_toArray, List.set_cons_zero, List.set_cons_succ])
  refine wpAnyR_take (i := 15) (v := ?_) (by simp only [List.getElem?_toArray, List.getElem?_cons_succ, List.getElem?_cons_zero]; rfl) (by kernel_rfl) (by kernel_rfl) (by kernel_rfl) (by first | exact fun _ _ _ h => h | exact fun _ _ _ h => by cases h.1) (Rws.grow _) (Or.inl ⟨by rfl, ?_⟩) hS ?_
  rotate_left
  · intro w' hS'
    simp only [Rws] at hS'
    go_simp
    refine ⟨?_, Below.refl _ _⟩
    rfl
  (try simp only [Act.put, List.setIfInBounds_toArray, List.set_cons_zero, List.set_cons_succ])
  refine wpAnyR_take (i := 12) (v := ?_) (by simp only [List.getElem?_toArray, List.getElem?_cons_succ, List.getElem?_cons_zero]; rfl) (by kernel_rfl) (by kernel_rfl) (by kernel_rfl) (by first | exact fun _ _ _ h => h | exact fun _ _ _ h => by cases h.1) (Rws.grow _) (Or.inl ⟨by rfl, ?_⟩) hS ?_
  rotate_left
  · intro w' hS'
    simp only [Rws] at hS'
    go_simp
    with_reducible refine (K3.out _).mono ?_
    rintro e w'' ⟨rfl, hb⟩
    refine ⟨_, rfl, ?_, hb⟩
    rfl
  (try simp only [Act.put, List.setIfInBounds_toArray, List.set_cons_zero, List.set_cons_succ])
  refine wpAnyR_take (i := 13) (v := ?_) (by simp only [List.getElem?_toArray, List.getElem?_cons_succ, List.getElem?_cons_zero]; rfl) (by kernel_rfl) (by kernel_rfl) (by kernel_rfl) (by first | exact fun _ _ _ h => h | exact fun _ _ _ h => by cases h.1) (Rws.grow _) (Or.inl ⟨by rfl, ?_⟩) hS ?_
  rotate_left
  · intro w' hS'
    simp only [Rws] at hS'
    go_simp
    with_reducible refine (K4.out _).mono ?_
    rintro e w'' ⟨rfl, hb⟩
    refine ⟨_, rfl, ?_, hb⟩
    rfl
  (try simp only [Act.put, List.setIfInBounds_toArray, List.set_cons_zero, List.set_cons_succ])
  refine wpAnyR_take (i := 16) (v := ?_) (by simp only [List.getElem?_toArray, List.getElem?_cons_succ, List.getElem?_cons_zero]; rfl) (by kernel_rfl) (by kernel_rfl) (by kernel_rfl) (by first | exact fun _ _ _ h => h | exact fun _ _ _ h => by cases h.1) (Rws.grow _) (Or.inl ⟨by rfl, ?_⟩) hS ?_
  rotate_left
  · intro w' hS'
    simp only [Rws] at hS'
    go_simp
    with_reducible refine (K5.out _).mono ?_
    rintro e w'' ⟨rfl, hb⟩
    refine ⟨_, rfl, ?_, hb⟩
    rfl
  (try simp only [Act.put, List.setIfInBounds_toArray, List.set_cons_zero, List.set_cons_succ])
  refine wpAnyR_take (i := 17) (v := ?_) (by simp only [List.getElem?_toArray, List.getElem?_cons_succ, List.getElem?_cons_zero]; rfl) (by kernel_rfl) (by kernel_rfl) (by kernel_rfl) (by first | exact fun _ _ _ h => h | exact fun _ _ _ h => by cases h.1) (Rws.grow _) (Or.inl ⟨by rfl, ?_⟩) hS ?_
  rotate_left
  · intro w' hS'
    simp only [Rws] at hS'
    go_simp
    refine ⟨?_, Below.refl _ _⟩
    rfl
  (try simp only [Act.put, List.setIfInBounds_toArray, List.set_cons_zero, List.set_cons_succ])
  refine wpAnyR_take (i := 18) (v := ?_) (by simp only [List.getElem?_toArray, List.getElem?_cons_succ, List.getElem?_cons_zero]; rfl) (by kernel_rfl) (by kernel_rfl) (by kernel_rfl) (by first | exact fun _ _ _ h => h | exact fun _ _ _ h => by cases h.1) (Rws.grow _) (Or.inl ⟨by rfl, ?_⟩) hS ?_
  rotate_left
  · intro w' hS'
    simp only [Rws] at hS'
    go_simp
    refine ⟨?_, Below.refl _ _⟩
    rfl
  (try simp only [Act.put, List.setIfInBounds_toArray, List.set_cons_zero, List.set_cons_succ])
  refine wpAnyR_take (i := 19) (v := ?_) (by simp only [List.getElem?_toArray, List.getElem?_cons_succ, List.getElem?_cons_zero]; rfl) (by kernel_rfl) (by kernel_rfl) (by kernel_rfl) (by first | exact fun _ _ _ h => h | exact fun _ _ _ h => by cases h.1) (Rws.grow _) (Or.inl ⟨by rfl, ?_⟩) hS ?_
  rotate_left
  · intro w' hS'
    simp only [Rws] at hS'
    go_simp
    refine ⟨?_, Below.refl _ _⟩
    rfl
  (try simp only [Act.put, List.setIfInBounds_toArray, List.set_cons_zero, List.set_cons_succ])
  refine wpAnyR_done (by kernel_rfl) (fun wN hN => ?_) _
  replace hN : Below (W).heap.size (W) wN := below_step (Below.drew (Below.refl _ _)) hN
  go_wp2_with fail
  go_ret
  exact ⟨rfl, Below.trans c2 (hN.mono (by omega))⟩
theorem curveZero_walk (W : World) (base : Nat) (args : Array Value) (hlen : args.size = Try.f8.params.size) (hval : ∀ (j : Nat) t v, Try.f8.params[j]? = some t → args[j]? = some v → Value.okWide Try.prog W .any base t v) :
    Calls Try.prog 8 args W fun e W' => e = .returned (.bool true) ∧ Below W.heap.size W W' := by
  obtain ⟨l⟩ := args
  match l, hlen with
  | [v0], _ =>
  obtain ⟨a, rfl, ha⟩ := open_key (hval 0 23 v0 rfl rfl)
  exact curveZero_any a W ha
end Go.Proofs.Ytpdepndnkompgaa
