/- Package curve: the statements' awake, and the walk of CurveClamps. -/
import Derived.Test.YtohhiibgjcbpiaaCurZ
set_option linter.unusedSimpArgs false
set_option linter.unusedVariables false
namespace Go.Proofs.Ytohhiibgjcbpiaa
open Go.ChangeShapes Go.WideShapes Go.ChangeAt Go.RowKit
theorem awake06_any (w : World) : Calls Try.prog 10 #[] w fun e w' => e = .returned (.bool true) ∧ Below w.heap.size w w' := by
  have H1 : ∀ w, Calls Try.prog 12 #[.agg (zeros 32 (.int .u8 0)).toArray, .agg (zeros 32 (.int .u8 0)).toArray] w fun e w' => e = .returned (.agg (zeros 32 (.int .u8 0)).toArray) ∧ Below w.heap.size w w' := fun w => by
    have := shared_any z32 z32 w rfl rfl
    rw [shared_z, u8s_z32] at this
    exact this
  have H2 : ∀ w, Calls Try.prog 14 #[.agg (u8s (3 :: List.replicate 31 0)).toArray, .agg (u8s (5 :: List.replicate 31 0)).toArray] w fun e w' => e = .returned (.agg (u8s (15 :: List.replicate 31 0)).toArray) ∧ Below w.heap.size w w' := fun w => by
    have := mul_any (3 :: List.replicate 31 0) (5 :: List.replicate 31 0) w rfl rfl
    rw [mul35] at this
    exact this
  have h1 := Lib.hid H1
  have h2 := Lib.hid H2
  clear H1 H2
  go_enter Try.func10, Try.ntmps10
  go_wp2_with fail
  refine (h1.out _).mono ?_
  rintro e w1 ⟨rfl, hb1⟩
  go_wp2_with fail
  refine (h2.out _).mono ?_
  rintro e w2 ⟨rfl, hb2⟩
  go_wp2_with fail
  go_ret
  exact ⟨rfl, Below.trans hb1 (hb2.mono (by have := hb1.size; omega))⟩
/-! ### plain: a secret's scalar -/
theorem clamp_at (l : List UInt8) (hl : l.length = 32) : (clampL l).getD 0 0 = l.getD 0 0 &&& 248 ∧ (clampL l).getD 31 0 = (l.getD 31 0 &&& 127) ||| 64 := by
  simp [clampL, List.getD_eq_getElem?_getD, hl]
theorem clamp_clamp (l : List UInt8) (hl : l.length = 32) : clampL (clampL l) = clampL l := by
  have h1 : ∀ b : UInt8, (b &&& 248) &&& 248 = b &&& 248 := all_u8 (by decide +kernel)
  have h2 : ∀ b : UInt8, (((b &&& 127) ||| 64) &&& 127) ||| 64 = (b &&& 127) ||| 64 := all_u8 (by decide +kernel)
  obtain ⟨e1, e2⟩ := clamp_at l hl
  rw [show clampL (clampL l) = ((clampL l).set 0 ((clampL l).getD 0 0 &&& 248)).set 31 (((clampL l).getD 31 0 &&& 127) ||| 64) from rfl, e1, e2, h1, h2]
  unfold clampL
  apply List.ext_getElem (by simp)
  intro i h3 h4
  simp only [List.getElem_set]
  split
  · rfl
  · split
    · simp
    · simp [*]
theorem clamp_low (l : List UInt8) (hl : l.length = 32) (h : 0 < (clampL l).length) : bits .and .u8 ((clampL l)[0].toNat : Int) 7 = 0 := by
  have h1 : ∀ b : UInt8, (b &&& 248) &&& 7 = 0 := all_u8 (by decide +kernel)
  have e := (clamp_at l hl).1
  rw [List.getD_eq_getElem?_getD, List.getElem?_eq_getElem h, Option.getD_some] at e
  have := and_u8 ((clampL l)[0]) 7
  rw [show ((7 : UInt8).toNat : Int) = 7 from rfl] at this
  rw [this, e, h1]
  rfl
theorem clamp_high (l : List UInt8) (hl : l.length = 32) (h : 31 < (clampL l).length) : ((clampL l)[31].toNat : Int) / 64 = 1 := by
  have h1 : ∀ b : UInt8, (((b &&& 127) ||| 64).toNat : Int) / 64 = 1 := all_u8 (by decide +kernel)
  have e := (clamp_at l hl).2
  rw [List.getD_eq_getElem?_getD, List.getElem?_eq_getElem h, Option.getD_some] at e
  rw [e, h1]
/-- the highest bit of a public key is not looked at -/
theorem of_top (l : List UInt8) (hl : l.length = 32) : ofL (l.set 31 (l.getD 31 0 ^^^ 128)) = ofL l := by
  have h1 : ∀ b : UInt8, ((b ^^^ 128).toNat : Int) % 128 = (b.toNat : Int) % 128 := all_u8 (by decide +kernel)
  obtain ⟨v, hv⟩ : ∃ v, l.set 31 (l.getD 31 0 ^^^ 128) = v := ⟨_, rfl⟩
  rw [hv]
  have g1 : ∀ i, i ≠ 31 → v.getD i 0 = l.getD i 0 := by
    intro i hi
    rw [← hv, List.getD_eq_getElem?_getD, List.getElem?_set_ne (Ne.symm hi), List.getD_eq_getElem?_getD]
  have g2 : v.getD 31 0 = l.getD 31 0 ^^^ 128 := by
    rw [← hv]
    simp [List.getD_eq_getElem?_getD, hl]
  have e1 : upTo (ofF v) 15 (List.replicate 16 0) = upTo (ofF l) 15 (List.replicate 16 0) := upTo_congr (n := 15) (fun k x hk => by
    unfold ofF byteAt
    rw [g1 _ (by omega), g1 _ (by omega)]) _ 15 (by omega)
  have hu : ∀ m, ofL m = (ofF m 15 (upTo (ofF m) 15 (List.replicate 16 0))).set 15 ((ofF m 15 (upTo (ofF m) 15 (List.replicate 16 0))).getD 15 0 % 32768) := fun _ => rfl
  obtain ⟨Y, hY⟩ : ∃ Y, upTo (ofF l) 15 (List.replicate 16 0) = Y := ⟨_, rfl⟩
  have hYl : Y.length = 16 := by rw [← hY, upTo_length (ofF_length l)]; simp
  rw [hu v, hu l, e1, hY]
  unfold ofF byteAt
  rw [g1 30 (by omega), g2]
  have h2 := h1 (l.getD 31 0)
  have e3 : ∀ x : Int, (Y.set 15 x).getD 15 0 = x := fun x => by simp [List.getD_eq_getElem?_getD, hYl]
  simp only [Nat.reduceMul, Nat.reduceAdd, e3, List.set_set]
  have h4 : ∀ x p q : Int, p % 128 = q % 128 → (x + p * 256) % 32768 = (x + q * 256) % 32768 := by intro x p q h; omega
  rw [h4 _ _ _ h2]
theorem clampL_lt (a : List UInt8) (ha : a.length = 32) : 31 < (clampL a).length := by rw [clampL_length]; omega
attribute [local irreducible] sharedK clampL ofL in
set_option maxRecDepth 20000 in
set_option maxHeartbeats 4000000 in
theorem curveClamps_any (a u : List UInt8) (w : World) (ha : a.length = 32) (hu : u.length = 32) :
    Calls Try.prog 3 #[.agg (u8s a).toArray, .agg (u8s u).toArray] w fun e w' => e = .returned (.bool true) ∧ Below w.heap.size w w' := by
  have e0 := clamp_low a ha (by rw [clampL_length]; omega)
  have e31 := clamp_high a ha (clampL_lt a ha)
  have hcc := clamp_clamp a ha
  have hcl : (clampL a).length = 32 := by rw [clampL_length, ha]
  obtain ⟨x, hx⟩ : ∃ x, sharedK a u = x := ⟨_, rfl⟩
  obtain ⟨v31, hv31⟩ : ∃ b : UInt8, u[31]'(by omega) ^^^ 128 = b := ⟨_, rfl⟩
  have hxor : bits .xor .u8 ((u[31]'(by omega)).toNat : Int) 128 = (v31.toNat : Int) := by rw [← hv31]; exact xor_u8 (u[31]'(by omega)) 128
  have hset := u8s_setB u 31 v31
  have hvl : (u.set 31 v31).length = 32 := by simpa using hu
  have hsv : sharedK a (u.set 31 v31) = x := by
    have := of_top u hu
    rw [List.getD_eq_getElem?_getD, List.getElem?_eq_getElem (by omega), Option.getD_some, hv31] at this
    rw [← hx]
    unfold sharedK
    rw [this]
  have hxl : x.length = 32 := by rw [← hx]; exact sharedK_length _ _
  have H1 := fun w => shared_any a u w ha hu
  have H2 := fun w => shared_any (clampL a) u w hcl hu
  have H3 := fun w => shared_any a (u.set 31 v31) w ha hvl
  have H4 := fun w => clamp_any a w ha
  have H5 := fun w => clamp_any (clampL a) w hcl
  have h2 : sharedK (clampL a) u = x := by
    rw [← hx]
    unfold sharedK
    rw [hcc]
  rw [hx] at H1
  rw [h2] at H2
  rw [hsv] at H3
  rw [hcc] at H5
  clear hx h2 hsv hcc hv31
  obtain ⟨c, hc⟩ : ∃ c, clampL a = c := ⟨_, rfl⟩
  have e0' : ∀ h : 0 < c.length, bits .and .u8 (c[0].toNat : Int) 7 = 0 := by subst hc; exact fun h => e0
  have e31' : ∀ h : 31 < c.length, (c[31].toNat : Int) / 64 = 1 := by subst hc; exact fun h => e31
  clear e0 e31
  simp only [hc] at H2 H4 H5 hcl
  clear hc
  have K1 := Lib.hid H1
  have K2 := Lib.hid H2
  have K3 := Lib.hid H3
  have K4 := Lib.hid H4
  have K5 := Lib.hid H5
  clear H1 H2 H3 H4 H5
  have hc0 : 0 < c.length := by omega
  have hc31 : 31 < c.length := by omega
  have hu31 : 31 < u.length := by omega
  have e0 := e0' hc0
  have e31 := e31' hc31
  clear e0' e31'
  go_enter Try.func3, Try.ntmps3
  go_wp2_with fail
  refine (awake06_any _).mono ?_
  rintro e w1 ⟨rfl, hb1⟩
  have rA : row w1 w.heap.size = (u8s a).toArray := by rw [row_below hb1 (by simp; omega)]; simp [go_sem]
  have rU : row w1 (w.heap.size + 1) = (u8s u).toArray := by rw [row_below hb1 (by simp)]; simp [go_sem]
  have z1 := (hb1).size
  try simp at z1
  replace hb1 := below_of hb1 (show Below (w).heap.size w _ from by (repeat (first | exact Below.refl _ _ | refine Below.alloc ?_ (by first | (simp; done) | (simp; omega) | omega) _ | refine Below.drew ?_ | refine Below.setRow ?_ (by first | (simp; done) | (simp; omega) | omega) _ | refine Below.setCell ?_ (by first | (simp; done) | (simp; omega) | omega) _))) (by first | (simp; done) | (simp; omega) | omega)
  go_wp2_with fail
  refine (K4.out _).mono ?_
  rintro e w2 ⟨rfl, hb2⟩
  have zb2 := hb2.size
  replace rA := (row_below hb2 (by omega)).trans rA
  replace rU := (row_below hb2 (by omega)).trans rU
  replace hb1 := Below.trans hb1 (hb2.mono (by omega))
  clear hb2
  have q1 : w.heap.size < w2.heap.size := by omega
  have q2 : w.heap.size + 1 < w2.heap.size := by omega
  go_wp2_with fail
  have hN : Below w2.heap.size w2 ((w2.alloc (.cells (u8s c).toArray 23)).alloc (.cells (u8s (u.set 31 v31)).toArray 23)) := by (repeat (first | exact Below.refl _ _ | refine Below.alloc ?_ (by first | (simp; done) | (simp; omega) | omega) _ | refine Below.drew ?_ | refine Below.setRow ?_ (by first | (simp; done) | (simp; omega) | omega) _ | refine Below.setCell ?_ (by first | (simp; done) | (simp; omega) | omega) _))
  obtain ⟨W, hW⟩ : ∃ W, (w2.alloc (.cells (u8s c).toArray 23)).alloc (.cells (u8s (u.set 31 v31)).toArray 23) = W := ⟨_, rfl⟩
  have rC : row W w2.heap.size = (u8s c).toArray := by rw [← hW]; simp [go_sem]
  have rV : row W (w2.heap.size + 1) = (u8s (u.set 31 v31)).toArray := by rw [← hW]; simp [go_sem]
  have zW : W.heap.size = w2.heap.size + 1 + 1 := by rw [← hW]; simp
  rw [hW] at hN ⊢
  replace rA := (row_below hN (by omega)).trans rA
  replace rU := (row_below hN (by omega)).trans rU
  replace hb1 := Below.trans hb1 (hN.mono (by omega))
  clear hW hN
  refine wp_region_beginR [(w.heap.size, (u8s a).toArray), (w.heap.size + 1, (u8s u).toArray), (w2.heap.size, (u8s c).toArray), (w2.heap.size + 1, (u8s (u.set 31 v31)).toArray)] rfl (by simp only [Rws]; (repeat (first | exact trivial | refine ⟨(by first | assumption | (simp [go_sem, *]; done)), (by first | omega | (simp; done) | (simp; omega)), ?_⟩))) (fun hS => ?_)
  refine wpAnyR_take (i := 0) (v := ?_) (by simp only [List.getElem?_toArray, List.getElem?_cons_succ, List.getElem?_cons_zero]; rfl) (by kernel_rfl) (by kernel_rfl) (by kernel_rfl) (by first | exact fun _ _ _ h => h | exact fun _ _ _ h => by cases h.1) (Rws.grow _) (Or.inl ⟨by rfl, ?_⟩) hS ?_
  rotate_left
  · intro w' hS'
    simp only [Rws] at hS'
    go_simp
    refine ⟨?_, Below.refl _ _⟩
    rfl
  (try simp only [Act.put, List.setIfInBounds_toArray, List.set_cons_zero, List.set_cons_succ])
  refine wpAnyR_take (i := 1) (v := ?_) (by simp only [List.getElem?_toArray, List.getElem?_cons_succ, List.getElem?_cons_zero]; rfl) (by kernel_rfl) (by kernel_rfl) (by kernel_rfl) (by first | exact fun _ _ _ h => h | exact fun _ _ _ h => by cases h.1) (Rws.grow _) (Or.inl ⟨by rfl, ?_⟩) hS ?_
  rotate_left
  · intro w' hS'
    simp only [Rws] at hS'
    go_simp
    refine ⟨?_, Below.refl _ _⟩
    rfl
  (try simp only [Act.put, List.setIfInBounds_toArray, List.set_cons_zero, List.set_cons_succ])
  refine wpAnyR_take (i := 3) (v := ?_) (by simp only [List.getElem?_toArray, List.getElem?_cons_succ, List.getElem?_cons_zero]; rfl) (by kernel_rfl) (by kernel_rfl) (by kernel_rfl) (by first | exact fun _ _ _ h => h | exact fun _ _ _ h => by cases h.1) (Rws.grow _) (Or.inl ⟨by rfl, ?_⟩) hS ?_
  rotate_left
  · intro w' hS'
    simp only [Rws] at hS'
    go_simp
    refine ⟨?_, Below.refl _ _⟩
    rfl
  (try simp only [Act.put, List.setIfInBounds_toArray, List.set_cons_zero, List.set_cons_succ])
  refine wpAnyR_take (i := 4) (v := ?_) (by simp only [List.getElem?_toArray, List.getElem?_cons_succ, List.getElem?_cons_zero]; rfl) (by kernel_rfl) (by kernel_rfl) (by kernel_rfl) (by first | exact fun _ _ _ h => h | exact fun _ _ _ h => by cases h.1) (Rws.grow _) (Or.inl ⟨by rfl, ?_⟩) hS ?_
  rotate_left
  · intro w' hS'
    simp only [Rws] at hS'
    go_simp
    refine ⟨?_, Below.refl _ _⟩
    rfl
  (try simp only [Act.put, List.setIfInBounds_toArray, List.set_cons_zero, List.set_cons_succ])
  refine wpAnyR_take (i := 2) (v := ?_) (by simp only [List.getElem?_toArray, List.getElem?_cons_succ, List.getElem?_cons_zero]; rfl) (by kernel_rfl) (by kernel_rfl) (by kernel_rfl) (by first | exact fun _ _ _ h => h | exact fun _ _ _ h => by cases h.1) (Rws.grow _) (Or.inl ⟨by rfl, ?_⟩) hS ?_
  rotate_left
  · intro w' hS'
    simp only [Rws] at hS'
    go_simp
    with_reducible refine (K2.out _).mono ?_
    rintro e w'' ⟨rfl, hb⟩
    refine ⟨_, rfl, ?_, hb⟩
    rfl
  (try simp only [Act.put, List.setIfInBounds_toArray, List.set_cons_zero, List.set_cons_succ])
  refine wpAnyR_take (i := 5) (v := ?_) (by simp only [List.getElem?_toArray, List.getElem?_cons_succ, List.getElem?_cons_zero]; rfl) (by kernel_rfl) (by kernel_rfl) (by kernel_rfl) (by first | exact fun _ _ _ h => h | exact fun _ _ _ h => by cases h.1) (Rws.grow _) (Or.inl ⟨by rfl, ?_⟩) hS ?_
  rotate_left
  · intro w' hS'
    simp only [Rws] at hS'
    go_simp
    with_reducible refine (K1.out _).mono ?_
    rintro e w'' ⟨rfl, hb⟩
    refine ⟨_, rfl, ?_, hb⟩
    rfl
  (try simp only [Act.put, List.setIfInBounds_toArray, List.set_cons_zero, List.set_cons_succ])
  refine wpAnyR_take (i := 6) (v := ?_) (by simp only [List.getElem?_toArray, List.getElem?_cons_succ, List.getElem?_cons_zero]; rfl) (by kernel_rfl) (by kernel_rfl) (by kernel_rfl) (by first | exact fun _ _ _ h => h | exact fun _ _ _ h => by cases h.1) (Rws.grow _) (Or.inl ⟨by rfl, ?_⟩) hS ?_
  rotate_left
  · intro w' hS'
    simp only [Rws] at hS'
    go_simp
    refine ⟨?_, Below.refl _ _⟩
    rfl
  (try simp only [Act.put, List.setIfInBounds_toArray, List.set_cons_zero, List.set_cons_succ])
  refine wpAnyR_take (i := 7) (v := ?_) (by simp only [List.getElem?_toArray, List.getElem?_cons_succ, List.getElem?_cons_zero]; rfl) (by kernel_rfl) (by kernel_rfl) (by kernel_rfl) (by first | exact fun _ _ _ h => h | exact fun _ _ _ h => by cases h.1) (Rws.grow _) (Or.inl ⟨by rfl, ?_⟩) hS ?_
  rotate_left
  · intro w' hS'
    simp only [Rws] at hS'
    go_simp
    refine ⟨?_, Below.refl _ _⟩
    rfl
  (try simp only [Act.put, List.setIfInBounds_toArray, List.set_cons_zero, List.set_cons_succ])
  refine wpAnyR_take (i := 8) (v := ?_) (by simp only [List.getElem?_toArray, List.getElem?_cons_succ, List.getElem?_cons_zero]; rfl) (by kernel_rfl) (by kernel_rfl) (by kernel_rfl) (by first | exact fun _ _ _ h => h | exact fun _ _ _ h => by cases h.1) (Rws.grow _) (Or.inl ⟨by rfl, ?_⟩) hS ?_
  rotate_left
  · intro w' hS'
    simp only [Rws] at hS'
    go_simp
    refine ⟨?_, Below.refl _ _⟩
    rfl
  (try simp only [Act.put, List.setIfInBounds_toArray, List.set_cons_zero, List.set_cons_succ])
  refine wpAnyR_take (i := 10) (v := ?_) (by simp only [List.getElem?_toArray, List.getElem?_cons_succ, List.getElem?_cons_zero]; rfl) (by kernel_rfl) (by kernel_rfl) (by kernel_rfl) (by first | exact fun _ _ _ h => h | exact fun _ _ _ h => by cases h.1) (Rws.grow _) (Or.inl ⟨by rfl, ?_⟩) hS ?_
  rotate_left
  · intro w' hS'
    simp only [Rws] at hS'
    go_simp
    refine ⟨?_, Below.refl _ _⟩
    rfl
  (try simp only [Act.put, List.setIfInBounds_toArray, List.set_cons_zero, List.set_cons_succ])
  refine wpAnyR_take (i := 9) (v := ?_) (by simp only [List.getElem?_toArray, List.getElem?_cons_succ, List.getElem?_cons_zero]; rfl) (by kernel_rfl) (by kernel_rfl) (by kernel_rfl) (by first | exact fun _ _ _ h => h | exact fun _ _ _ h => by cases h.1) (Rws.grow _) (Or.inl ⟨by rfl, ?_⟩) hS ?_
  rotate_left
  · intro w' hS'
    simp only [Rws] at hS'
    go_simp
    with_reducible refine (K5.out _).mono ?_
    rintro e w'' ⟨rfl, hb⟩
    refine ⟨_, rfl, ?_, hb⟩
    rfl
  (try simp only [Act.put, List.setIfInBounds_toArray, List.set_cons_zero, List.set_cons_succ])
  refine wpAnyR_take (i := 11) (v := ?_) (by simp only [List.getElem?_toArray, List.getElem?_cons_succ, List.getElem?_cons_zero]; rfl) (by kernel_rfl) (by kernel_rfl) (by kernel_rfl) (by first | exact fun _ _ _ h => h | exact fun _ _ _ h => by cases h.1) (Rws.grow _) (Or.inl ⟨by rfl, ?_⟩) hS ?_
  rotate_left
  · intro w' hS'
    simp only [Rws] at hS'
    go_simp
    refine ⟨?_, Below.refl _ _⟩
    rfl
  (try simp only [Act.put, List.setIfInBounds_toArray, List.set_cons_zero, List.set_cons_succ])
  refine wpAnyR_take (i := 12) (v := ?_) (by simp only [List.getElem?_toArray, List.getElem?_cons_succ, List.getElem?_cons_zero]; rfl) (by kernel_rfl) (by kernel_rfl) (by kernel_rfl) (by first | exact fun _ _ _ h => h | exact fun _ _ _ h => by cases h.1) (Rws.grow _) (Or.inl ⟨by rfl, ?_⟩) hS ?_
  rotate_left
  · intro w' hS'
    simp only [Rws] at hS'
    go_simp
    refine ⟨?_, Below.refl _ _⟩
    rfl
  (try simp only [Act.put, List.setIfInBounds_toArray, List.set_cons_zero, List.set_cons_succ])
  refine wpAnyR_take (i := 13) (v := ?_) (by simp only [List.getElem?_toArray, List.getElem?_cons_succ, List.getElem?_cons_zero]; rfl) (by kernel_rfl) (by kernel_rfl) (by kernel_rfl) (by first | exact fun _ _ _ h => h | exact fun _ _ _ h => by cases h.1) (Rws.grow _) (Or.inl ⟨by rfl, ?_⟩) hS ?_
  rotate_left
  · intro w' hS'
    simp only [Rws] at hS'
    go_simp
    refine ⟨?_, Below.refl _ _⟩
    rfl
  (try simp only [Act.put, List.setIfInBounds_toArray, List.set_cons_zero, List.set_cons_succ])
  refine wpAnyR_take (i := 14) (v := ?_) (by simp only [List.getElem?_toArray, List.getElem?_cons_succ, List.getElem?_cons_zero]; rfl) (by kernel_rfl) (by kernel_rfl) (by kernel_rfl) (by first | exact fun _ _ _ h => h | exact fun _ _ _ h => by cases h.1) (Rws.grow _) (Or.inl ⟨by rfl, ?_⟩) hS ?_
  rotate_left
  · intro w' hS'
    simp only [Rws] at hS'
    go_simp
    refine ⟨?_, Below.refl _ _⟩
    rfl
  (try simp only [Act.put, List.setIfInBounds_toArray, List.set_cons_zero, List.set_cons_succ])
  refine wpAnyR_take (i := 15) (v := ?_) (by simp only [List.getElem?_toArray, List.getElem?_cons_succ, List.getElem?_cons_zero]; rfl) (by kernel_rfl) (by kernel_rfl) (by kernel_rfl) (by first | exact fun _ _ _ h => h | exact fun _ _ _ h => by cases h.1) (Rws.grow _) (Or.inl ⟨by rfl, ?_⟩) hS ?_
  rotate_left
  · intro w' hS'
    simp only [Rws] at hS'
    go_simp
    refine ⟨?_, Below.refl _ _⟩
    rfl
  (try simp only [Act.put, List.setIfInBounds_toArray, List.set_cons_zero, List.set_cons_succ])
  refine wpAnyR_take (i := 17) (v := ?_) (by simp only [List.getElem?_toArray, List.getElem?_cons_succ, List.getElem?_cons_zero]; rfl) (by kernel_rfl) (by kernel_rfl) (by kernel_rfl) (by first | exact fun _ _ _ h => h | exact fun _ _ _ h => by cases h.1) (Rws.grow _) (Or.inl ⟨by rfl, ?_⟩) hS ?_
  rotate_left
  · intro w' hS'
    simp only [Rws] at hS'
    go_simp
    refine ⟨?_, Below.refl _ _⟩
    rfl
  (try simp only [Act.put, List.setIfInBounds_toArray, List.set_cons_zero, List.set_cons_succ])
  refine wpAnyR_take (i := 18) (v := ?_) (by simp only [List.getElem?_toArray, List.getElem?_cons_succ, List.getElem?_cons_zero]; rfl) (by kernel_rfl) (by kernel_rfl) (by kernel_rfl) (by first | exact fun _ _ _ h => h | exact fun _ _ _ h => by cases h.1) (Rws.grow _) (Or.inl ⟨by rfl, ?_⟩) hS ?_
  rotate_left
  · intro w' hS'
    simp only [Rws] at hS'
    go_simp
    refine ⟨?_, Below.refl _ _⟩
    rfl
  (try simp only [Act.put, List.setIfInBounds_toArray, List.set_cons_zero, List.set_cons_succ])
  refine wpAnyR_take (i := 16) (v := ?_) (by simp only [List.getElem?_toArray, List.getElem?_cons_succ, List.getElem?_cons_zero]; rfl) (by kernel_rfl) (by kernel_rfl) (by kernel_rfl) (by first | exact fun _ _ _ h => h | exact fun _ _ _ h => by cases h.1) (Rws.grow _) (Or.inl ⟨by rfl, ?_⟩) hS ?_
  rotate_left
  · intro w' hS'
    simp only [Rws] at hS'
    go_simp
    with_reducible refine (K3.out _).mono ?_
    rintro e w'' ⟨rfl, hb⟩
    refine ⟨_, rfl, ?_, hb⟩
    rfl
  (try simp only [Act.put, List.setIfInBounds_toArray, List.set_cons_zero, List.set_cons_succ])
  refine wpAnyR_take (i := 19) (v := ?_) (by simp only [List.getElem?_toArray, List.getElem?_cons_succ, List.getElem?_cons_zero]; rfl) (by kernel_rfl) (by kernel_rfl) (by kernel_rfl) (by first | exact fun _ _ _ h => h | exact fun _ _ _ h => by cases h.1) (Rws.grow _) (Or.inl ⟨by rfl, ?_⟩) hS ?_
  rotate_left
  · intro w' hS'
    simp only [Rws] at hS'
    go_simp
    with_reducible refine (K1.out _).mono ?_
    rintro e w'' ⟨rfl, hb⟩
    refine ⟨_, rfl, ?_, hb⟩
    rfl
  (try simp only [Act.put, List.setIfInBounds_toArray, List.set_cons_zero, List.set_cons_succ])
  refine wpAnyR_take (i := 20) (v := ?_) (by simp only [List.getElem?_toArray, List.getElem?_cons_succ, List.getElem?_cons_zero]; rfl) (by kernel_rfl) (by kernel_rfl) (by kernel_rfl) (by first | exact fun _ _ _ h => h | exact fun _ _ _ h => by cases h.1) (Rws.grow _) (Or.inl ⟨by rfl, ?_⟩) hS ?_
  rotate_left
  · intro w' hS'
    simp only [Rws] at hS'
    go_simp
    refine ⟨?_, Below.refl _ _⟩
    rfl
  (try simp only [Act.put, List.setIfInBounds_toArray, List.set_cons_zero, List.set_cons_succ])
  refine wpAnyR_take (i := 21) (v := ?_) (by simp only [List.getElem?_toArray, List.getElem?_cons_succ, List.getElem?_cons_zero]; rfl) (by kernel_rfl) (by kernel_rfl) (by kernel_rfl) (by first | exact fun _ _ _ h => h | exact fun _ _ _ h => by cases h.1) (Rws.grow _) (Or.inl ⟨by rfl, ?_⟩) hS ?_
  rotate_left
  · intro w' hS'
    simp only [Rws] at hS'
    go_simp
    refine ⟨?_, Below.refl _ _⟩
    rfl
  (try simp only [Act.put, List.setIfInBounds_toArray, List.set_cons_zero, List.set_cons_succ])
  refine wpAnyR_take (i := 22) (v := ?_) (by simp only [List.getElem?_toArray, List.getElem?_cons_succ, List.getElem?_cons_zero]; rfl) (by kernel_rfl) (by kernel_rfl) (by kernel_rfl) (by first | exact fun _ _ _ h => h | exact fun _ _ _ h => by cases h.1) (Rws.grow _) (Or.inl ⟨by rfl, ?_⟩) hS ?_
  rotate_left
  · intro w' hS'
    simp only [Rws] at hS'
    go_simp
    refine ⟨?_, Below.refl _ _⟩
    rfl
  (try simp only [Act.put, List.setIfInBounds_toArray, List.set_cons_zero, List.set_cons_succ])
  refine wpAnyR_take (i := 23) (v := ?_) (by simp only [List.getElem?_toArray, List.getElem?_cons_succ, List.getElem?_cons_zero]; rfl) (by kernel_rfl) (by kernel_rfl) (by kernel_rfl) (by first | exact fun _ _ _ h => h | exact fun _ _ _ h => by cases h.1) (Rws.grow _) (Or.inl ⟨by rfl, ?_⟩) hS ?_
  rotate_left
  · intro w' hS'
    simp only [Rws] at hS'
    go_simp
    refine ⟨?_, Below.refl _ _⟩
    rfl
  (try simp only [Act.put, List.setIfInBounds_toArray, List.set_cons_zero, List.set_cons_succ])
  refine wpAnyR_take (i := 24) (v := ?_) (by simp only [List.getElem?_toArray, List.getElem?_cons_succ, List.getElem?_cons_zero]; rfl) (by kernel_rfl) (by kernel_rfl) (by kernel_rfl) (by first | exact fun _ _ _ h => h | exact fun _ _ _ h => by cases h.1) (Rws.grow _) (Or.inl ⟨by rfl, ?_⟩) hS ?_
  rotate_left
  · intro w' hS'
    simp only [Rws] at hS'
    go_simp
    refine ⟨?_, Below.refl _ _⟩
    rfl
  (try simp only [Act.put, List.setIfInBounds_toArray, List.set_cons_zero, List.set_cons_succ])
  refine wpAnyR_take (i := 25) (v := ?_) (by simp only [List.getElem?_toArray, List.getElem?_cons_succ, List.getElem?_cons_zero]; rfl) (by kernel_rfl) (by kernel_rfl) (by kernel_rfl) (by first | exact fun _ _ _ h => h | exact fun _ _ _ h => by cases h.1) (Rws.grow _) (Or.inl ⟨by rfl, ?_⟩) hS ?_
  rotate_left
  · intro w' hS'
    simp only [Rws] at hS'
    go_simp
    refine ⟨?_, Below.refl _ _⟩
    rfl
  (try simp only [Act.put, List.setIfInBounds_toArray, List.set_cons_zero, List.set_cons_succ])
  refine wpAnyR_take (i := 26) (v := ?_) (by simp only [List.getElem?_toArray, List.getElem?_cons_succ, List.getElem?_cons_zero]; rfl) (by kernel_rfl) (by kernel_rfl) (by kernel_rfl) (by first | exact fun _ _ _ h => h | exact fun _ _ _ h => by cases h.1) (Rws.grow _) (Or.inl ⟨by rfl, ?_⟩) hS ?_
  rotate_left
  · intro w' hS'
    simp only [Rws] at hS'
    go_simp
    refine ⟨?_, Below.refl _ _⟩
    rfl
  (try simp only [Act.put, List.setIfInBounds_toArray, List.set_cons_zero, List.set_cons_succ])
  refine wpAnyR_take (i := 27) (v := ?_) (by simp only [List.getElem?_toArray, List.getElem?_cons_succ, List.getElem?_cons_zero]; rfl) (by kernel_rfl) (by kernel_rfl) (by kernel_rfl) (by first | exact fun _ _ _ h => h | exact fun _ _ _ h => by cases h.1) (Rws.grow _) (Or.inl ⟨by rfl, ?_⟩) hS ?_
  rotate_left
  · intro w' hS'
    simp only [Rws] at hS'
    go_simp
    refine ⟨?_, Below.refl _ _⟩
    rfl
  (try simp only [Act.put, List.setIfInBounds_toArray, List.set_cons_zero, List.set_cons_succ])
  refine wpAnyR_take (i := 28) (v := ?_) (by simp only [List.getElem?_toArray, List.getElem?_cons_succ, List.getElem?_cons_zero]; rfl) (by kernel_rfl) (by kernel_rfl) (by kernel_rfl) (by first | exact fun _ _ _ h => h | exact fun _ _ _ h => by cases h.1) (Rws.grow _) (Or.inl ⟨by rfl, ?_⟩) hS ?_
  rotate_left
  · intro w' hS'
    simp only [Rws] at hS'
    go_simp
    refine ⟨?_, Below.refl _ _⟩
    rfl
  (try simp only [Act.put, List.setIfInBounds_toArray, List.set_cons_zero, List.set_cons_succ])
  refine wpAnyR_take (i := 29) (v := ?_) (by simp only [List.getElem?_toArray, List.getElem?_cons_succ, List.getElem?_cons_zero]; rfl) (by kernel_rfl) (by kernel_rfl) (by kernel_rfl) (by first | exact fun _ _ _ h => h | exact fun _ _ _ h => by cases h.1) (Rws.grow _) (Or.inl ⟨by rfl, ?_⟩) hS ?_
  rotate_left
  · intro w' hS'
    simp only [Rws] at hS'
    go_simp
    refine ⟨?_, Below.refl _ _⟩
    rfl
  (try simp only [Act.put, List.setIfInBounds_toArray, List.set_cons_zero, List.set_cons_succ])
  refine wpAnyR_take (i := 30) (v := ?_) (by simp only [List.getElem?_toArray, List.getElem?_cons_succ, List.getElem?_cons_zero]; rfl) (by kernel_rfl) (by kernel_rfl) (by kernel_rfl) (by first | exact fun _ _ _ h => h | exact fun _ _ _ h => by cases h.1) (Rws.grow _) (Or.inl ⟨by rfl, ?_⟩) hS ?_
  rotate_left
  · intro w' hS'
    simp only [Rws] at hS'
    go_simp
    refine ⟨?_, Below.refl _ _⟩
    rfl
  (try simp only [Act.put, List.setIfInBounds_toArray, List.set_cons_zero, List.set_cons_succ])
  refine wpAnyR_take (i := 31) (v := ?_) (by simp only [List.getElem?_toArray, List.getElem?_cons_succ, List.getElem?_cons_zero]; rfl) (by kernel_rfl) (by kernel_rfl) (by kernel_rfl) (by first | exact fun _ _ _ h => h | exact fun _ _ _ h => by cases h.1) (Rws.grow _) (Or.inl ⟨by rfl, ?_⟩) hS ?_
  rotate_left
  · intro w' hS'
    simp only [Rws] at hS'
    go_simp
    refine ⟨?_, Below.refl _ _⟩
    rfl
  (try simp only [Act.put, List.setIfInBounds_toArray, List.set_cons_zero, List.set_cons_succ])
  refine wpAnyR_take (i := 32) (v := ?_) (by simp only [List.getElem?_toArray, List.getElem?_cons_succ, List.getElem?_cons_zero]; rfl) (by kernel_rfl) (by kernel_rfl) (by kernel_rfl) (by first | exact fun _ _ _ h => h | exact fun _ _ _ h => by cases h.1) (Rws.grow _) (Or.inl ⟨by rfl, ?_⟩) hS ?_
  rotate_left
  · intro w' hS'
    simp only [Rws] at hS'
    go_simp
    refine ⟨?_, Below.refl _ _⟩
    rfl
  (try simp only [Act.put, List.setIfInBounds_toArray, List.set_cons_zero, List.set_cons_succ])
  refine wpAnyR_take (i := 33) (v := ?_) (by simp only [List.getElem?_toArray, List.getElem?_cons_succ, List.getElem?_cons_zero]; rfl) (by kernel_rfl) (by kernel_rfl) (by kernel_rfl) (by first | exact fun _ _ _ h => h | exact fun _ _ _ h => by cases h.1) (Rws.grow _) (Or.inl ⟨by rfl, ?_⟩) hS ?_
  rotate_left
  · intro w' hS'
    simp only [Rws] at hS'
    go_simp
    refine ⟨?_, Below.refl _ _⟩
    rfl
  (try simp only [Act.put, List.setIfInBounds_toArray, List.set_cons_zero, List.set_cons_succ])
  refine wpAnyR_take (i := 34) (v := ?_) (by simp only [List.getElem?_toArray, List.getElem?_cons_succ, List.getElem?_cons_zero]; rfl) (by kernel_rfl) (by kernel_rfl) (by kernel_rfl) (by first | exact fun _ _ _ h => h | exact fun _ _ _ h => by cases h.1) (Rws.grow _) (Or.inl ⟨by rfl, ?_⟩) hS ?_
  rotate_left
  · intro w' hS'
    simp only [Rws] at hS'
    go_simp
    refine ⟨?_, Below.refl _ _⟩
    rfl
  (try simp only [Act.put, List.setIfInBounds_toArray, List.set_cons_zero, List.set_cons_succ])
  refine wpAnyR_done (by kernel_rfl) (fun wN hN => ?_) _
  replace hN : Below (W).heap.size (W) wN := below_step (Below.drew (Below.refl _ _)) hN
  go_wp2_with fail
  go_ret
  exact ⟨rfl, Below.trans hb1 (hN.mono (by omega))⟩
theorem open_key {W : World} {base : Nat} {v : Value} (h : Value.okWide Try.prog W .any base 23 v) : ∃ l : List UInt8, v = .agg (u8s l).toArray ∧ l.length = 32 := by
  obtain ⟨vs, hv, hg⟩ := open_plain (ls := leaves 32 (.int .u8) ++ []) Try.underlying23 rfl (by kernel_rfl) (by kernel_rfl) h
  obtain ⟨m, r, e, hr⟩ := goods_u8 hg
  have := goods_nil hr
  subst this
  exact ⟨m.toList, by rw [hv, e, List.append_nil]; rfl, by simp⟩
theorem curveClamps_walk (W : World) (base : Nat) (args : Array Value) (hlen : args.size = Try.f3.params.size) (hval : ∀ (j : Nat) t v, Try.f3.params[j]? = some t → args[j]? = some v → Value.okWide Try.prog W .any base t v) :
    Calls Try.prog 3 args W fun e W' => e = .returned (.bool true) ∧ Below W.heap.size W W' := by
  obtain ⟨l⟩ := args
  match l, hlen with
  | [v0, v1], _ =>
  obtain ⟨a, rfl, ha⟩ := open_key (hval 0 23 v0 rfl rfl)
  obtain ⟨u, rfl, hu⟩ := open_key (hval 1 23 v1 rfl rfl)
  exact curveClamps_any a u W ha hu
end Go.Proofs.Ytohhiibgjcbpiaa
