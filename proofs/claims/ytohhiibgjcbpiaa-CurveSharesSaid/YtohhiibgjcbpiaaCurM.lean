/- Contracts of package curve: products and inverses of keys. -/
import Derived.Test.YtohhiibgjcbpiaaCurO
set_option linter.unusedSimpArgs false
set_option linter.unusedVariables false
namespace Go.Proofs.Ytohhiibgjcbpiaa
open Go.RowKit
/-- the key of the number 1 -/
def k1 : List UInt8 := 1 :: List.replicate 31 0
theorem k1_length : k1.length = 32 := rfl
def mulK (a b : List UInt8) : List UInt8 := keyL (timesL (ofL a) (ofL b))
def invK (a : List UInt8) : List UInt8 := keyL (invL (ofL a))
theorem mulK_length (a b : List UInt8) : (mulK a b).length = 32 := keyL_length _
theorem invK_length (a : List UInt8) : (invK a).length = 32 := keyL_length _
theorem invL_length (xs : List Int) (hx : xs.length = 16) : (invL xs).length = 16 := invL_upTo_length xs hx 254
attribute [local irreducible] keyL timesL ofL invL upTo
set_option maxRecDepth 20000 in
set_option maxHeartbeats 600000 in
theorem mul_any (a b : List UInt8) (w : World) (ha : a.length = 32) (hb : b.length = 32) :
    Calls Try.prog 14 #[.agg (u8s a).toArray, .agg (u8s b).toArray] w fun e w' => e = .returned (.agg (u8s (mulK a b)).toArray) ∧ Below w.heap.size w w' := by
  have hkl := mulK_length a b
  go_enter Try.func14, Try.ntmps14
  go_wp2_with fail
  obtain ⟨w0, hw0⟩ : ∃ u, ((w.alloc (.cells (u8s a).toArray 23)).alloc (.cells (u8s b).toArray 23)).alloc (.cells (zeros 32 (.int .u8 0)).toArray 23) = u := ⟨_, rfl⟩
  have rA : row w0 w.heap.size = (u8s a).toArray := by rw [← hw0]; simp [go_sem]
  have rB : row w0 (w.heap.size + 1) = (u8s b).toArray := by rw [← hw0]; simp [go_sem]
  have rR : row w0 (w.heap.size + 1 + 1) = (zeros 32 (.int .u8 0)).toArray := by rw [← hw0]; simp [go_sem]
  have z0 : w0.heap.size = w.heap.size + 1 + 1 + 1 := by rw [← hw0]; simp
  have hb0 : Below w.heap.size w w0 := by rw [← hw0]; (repeat (first | exact Below.refl _ _ | refine Below.alloc ?_ (by first | (simp; done) | (simp; omega) | omega) _ | refine Below.drew ?_ | refine Below.setRow ?_ (by first | (simp; done) | (simp; omega) | omega) _ | refine Below.setCell ?_ (by first | (simp; done) | (simp; omega) | omega) _))
  rw [hw0]
  clear hw0
  have zz : w.heap.size + 1 + 1 < w0.heap.size := by omega
  clear z0
  have hv : ∀ w', Held (fun w' => Below (w.heap.size + 1 + 1) w0 w') w' → row w' w.heap.size = (u8s a).toArray ∧ row w' (w.heap.size + 1) = (u8s b).toArray := fun w' h => by
    unfold Held at h
    exact ⟨(row_below h (by omega)).trans rA, (row_below h (by omega)).trans rB⟩
  refine wp_region_beginS (S := Held (fun w' => Below (w.heap.size + 1 + 1) w0 w')) rfl ?_ (fun hS => ?_)
  · unfold Held
    exact Below.drew (Below.refl _ _)
  refine wpAnyH_take (i := 0) (v := ?_) (by simp only [List.getElem?_toArray, List.getElem?_cons_succ, List.getElem?_cons_zero]; rfl) (by kernel_rfl) (by kernel_rfl) (by kernel_rfl) (by first | exact fun _ _ _ h => h | exact fun _ _ _ h => by cases h.1) (Or.inl ⟨by rfl, ?_⟩) hS ?_
  rotate_left
  · intro w' hS'
    have hS2 := hv w' hS'
    clear hS'
    go_simp
    rfl
  (try simp only [Act.put, List.setIfInBounds_toArray, List.set_cons_zero, List.set_cons_succ])
  refine wpAnyH_take (i := 2) (v := ?_) (by simp only [List.getElem?_toArray, List.getElem?_cons_succ, List.getElem?_cons_zero]; rfl) (by kernel_rfl) (by kernel_rfl) (by kernel_rfl) (by first | exact fun _ _ _ h => h | exact fun _ _ _ h => by cases h.1) (Or.inl ⟨by rfl, ?_⟩) hS ?_
  rotate_left
  · intro w' hS'
    have hS2 := hv w' hS'
    clear hS'
    go_simp
    rfl
  (try simp only [Act.put, List.setIfInBounds_toArray, List.set_cons_zero, List.set_cons_succ])
  clear hv rA rB
  refine wpAnyH_all (rs := [1]) (by kernel_rfl) (by simp) ?_
  intro i hi
  obtain rfl := List.mem_singleton.1 hi
  refine wpOp_step rfl (fun K hK => ?_)
  have hSW := hS
  unfold Held at hSW
  clear hi hS
  go_simp
  refine (of_any a _ ha).mono ?_
  rintro e w1 ⟨rfl, hb1⟩
  have z1 := (hb1).size
  try simp at z1
  have rR1 := (row_below hb1 (show w.heap.size + 1 + 1 < _ by exact zz)).trans rR
  refine hK _ _ (wpAnyH_same (by unfold Held; exact Below.trans hSW (Below.mono hb1 (by have := hSW.size; omega))) (fun hS => ?_))
  clear hK K hSW
  refine wpAnyH_all (rs := [3]) (by kernel_rfl) (by simp) ?_
  intro i hi
  obtain rfl := List.mem_singleton.1 hi
  refine wpOp_step rfl (fun K hK => ?_)
  have hSW := hS
  unfold Held at hSW
  clear hi hS
  go_simp
  refine (of_any b _ hb).mono ?_
  rintro e w2 ⟨rfl, hb2⟩
  have z2 := (hb2).size
  try simp at z2
  replace rR1 := (row_below hb2 (by omega)).trans rR1
  refine hK _ _ (wpAnyH_same (by unfold Held; exact Below.trans hSW (Below.mono hb2 (by have := hSW.size; omega))) (fun hS => ?_))
  clear hK K hSW
  refine wpAnyH_all (rs := [4]) (by kernel_rfl) (by simp) ?_
  intro i hi
  obtain rfl := List.mem_singleton.1 hi
  refine wpOp_step rfl (fun K hK => ?_)
  have hSW := hS
  unfold Held at hSW
  clear hi hS
  go_simp
  refine (times_any _ _ _ (ofL_length a) (ofL_length b)).mono ?_
  rintro e w3 ⟨rfl, hb3⟩
  have z3 := (hb3).size
  try simp at z3
  replace rR1 := (row_below hb3 (by omega)).trans rR1
  refine hK _ _ (wpAnyH_same (by unfold Held; exact Below.trans hSW (Below.mono hb3 (by have := hSW.size; omega))) (fun hS => ?_))
  clear hK K hSW
  refine wpAnyH_all (rs := [5]) (by kernel_rfl) (by simp) ?_
  intro i hi
  obtain rfl := List.mem_singleton.1 hi
  refine wpOp_step rfl (fun K hK => ?_)
  have hSW := hS
  unfold Held at hSW
  clear hi hS
  go_simp
  refine (key_any _ _ (timesL_length _ _)).mono ?_
  rintro e w4 ⟨rfl, hb4⟩
  have z4 := (hb4).size
  try simp at z4
  replace rR1 := (row_below hb4 (by omega)).trans rR1
  rw [show keyL (timesL (ofL a) (ofL b)) = mulK a b from rfl]
  refine hK _ _ (wpAnyH_same (by unfold Held; exact Below.trans hSW (Below.mono hb4 (by have := hSW.size; omega))) (fun hS => ?_))
  clear hK K hSW
  refine wpAnyH_all (rs := [6]) (by kernel_rfl) (by simp) ?_
  intro i hi
  obtain rfl := List.mem_singleton.1 hi
  refine wpOp_step rfl (fun K hK => ?_)
  have hSW := hS
  unfold Held at hSW
  clear hi hS
  go_simp
  refine hK _ _ (wpAnyH_same (by unfold Held; exact Below.setRow hSW (by omega) _) (fun hS => ?_))
  clear hK K
  refine wpAnyH_done (by kernel_rfl) ?_ _
  go_wp2_with fail
  have hfin := row_setRow_same (w := w4) (g := w.heap.size + 1 + 1) (c := (u8s (mulK a b)).toArray) (by rw [rR1]; simp) (by rw [rR1]; simp [hkl])
  (try simp only [Exit.inBlock, Exit.then])
  refine bodyPost_ret (results_1 rfl (resOk_row rfl ?_)) rfl ?_
  · rw [hfin]
    simp [hkl]
  refine ⟨by rw [hfin], ?_⟩
  refine Below.setRow ?_ (by omega) _
  exact Below.trans hb0 (Below.mono hSW (by omega))
set_option maxRecDepth 20000 in
set_option maxHeartbeats 600000 in
theorem inv_any (a : List UInt8) (w : World) (ha : a.length = 32) :
    Calls Try.prog 15 #[.agg (u8s a).toArray] w fun e w' => e = .returned (.agg (u8s (invK a)).toArray) ∧ Below w.heap.size w w' := by
  have hkl := invK_length a
  go_enter Try.func15, Try.ntmps15
  go_wp2_with fail
  refine (of_any a _ ha).mono ?_
  rintro e w1 ⟨rfl, hb1⟩
  have z1 := (hb1).size
  try simp at z1
  have rR : row w1 (w.heap.size + 1) = (zeros 32 (Value.int .u8 0)).toArray := by rw [row_below hb1 (by first | (simp; done) | (simp; omega) | omega)]; simp [go_sem]; (try rfl)
  replace hb1 := below_of hb1 (show Below (w).heap.size w _ from by (repeat (first | exact Below.refl _ _ | refine Below.alloc ?_ (by first | (simp; done) | (simp; omega) | omega) _ | refine Below.drew ?_ | refine Below.setRow ?_ (by first | (simp; done) | (simp; omega) | omega) _ | refine Below.setCell ?_ (by first | (simp; done) | (simp; omega) | omega) _))) (by first | (simp; done) | (simp; omega) | omega)
  go_wp2_with fail
  refine (inverse_any _ _ (ofL_length a)).mono ?_
  rintro e w2 ⟨rfl, hb2⟩
  have z2 := (hb2).size
  try simp at z2
  replace rR := (row_below hb2 (by omega)).trans rR
  go_wp2_with fail
  refine (key_any _ _ (invL_length _ (ofL_length a))).mono ?_
  rintro e w3 ⟨rfl, hb3⟩
  have z3 := (hb3).size
  try simp at z3
  replace rR := (row_below hb3 (by omega)).trans rR
  rw [show keyL (invL (ofL a)) = invK a from rfl]
  go_wp2_with fail
  have hfin := row_setRow_same (w := w3) (g := w.heap.size + 1) (c := (u8s (invK a)).toArray) (by rw [rR]; simp) (by rw [rR]; simp [hkl])
  (try simp only [Exit.inBlock, Exit.then])
  refine bodyPost_ret (results_1 rfl (resOk_row rfl ?_)) rfl ?_
  · rw [hfin]
    simp [hkl]
  refine ⟨by rw [hfin], ?_⟩
  refine Below.setRow ?_ (by omega) _
  refine Below.trans ?_ (Below.mono hb3 (by first | (simp; done) | (simp; omega) | omega))
  refine Below.trans ?_ (Below.mono hb2 (by first | (simp; done) | (simp; omega) | omega))
  exact hb1
end Go.Proofs.Ytohhiibgjcbpiaa
