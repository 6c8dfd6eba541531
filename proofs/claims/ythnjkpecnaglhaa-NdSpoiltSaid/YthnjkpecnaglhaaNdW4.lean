/- The walk of the law NdSpoilt. -/
import Derived.Test.YthnjkpecnaglhaaNdX5
import Derived.Test.YthnjkpecnaglhaaNdW2
import Derived.Test.YthnjkpecnaglhaaByt
set_option linter.unusedSimpArgs false
set_option linter.unusedVariables false
namespace Go.Proofs.Ythnjkpecnaglhaa
open Go.ChangeShapes Go.WideShapes Go.ChangeAt Go.RowKit
set_option maxRecDepth 20000 in
set_option maxHeartbeats 2000000 in
theorem ndSpoilt_large_op1 (fr to ab : Vector UInt8 16) (mac : Vector UInt8 6) (fl : Vector UInt8 4) (a : Nat) (y : UInt8) (w : World) (ha : a < 256) (hy : y ≠ 0) :
    Calls Try.prog 8 #[.agg (ndV 1 fr to ab mac true fl).toArray, .int .u8 a, .int .u8 (y.toNat : Int)] w fun e W' => e = .returned (.bool true) ∧ Below w.heap.size w W' := by
  have Hp : ∀ w, Calls Try.prog 26 #[.agg (ndV 1 fr to ab mac true fl).toArray] w _ := fun w => ndPrint_op1 fr to ab mac fl w
  have hl : (ndS 1 fr to ab mac true fl).length = 72 := by rw [ndS_length]; rfl
  obtain ⟨j, hj⟩ : ∃ j, a % 32 = j := ⟨_, rfl⟩
  have hjl : j < 32 := by rw [← hj]; exact Nat.mod_lt _ (by decide)
  have hpl : 40 + j < (ndS 1 fr to ab mac true fl).length := by omega
  obtain ⟨v, hv⟩ : ∃ v, (ndS 1 fr to ab mac true fl)[40 + j] ^^^ y = v := ⟨_, rfl⟩
  have hvne : ∀ h, v ≠ (ndS 1 fr to ab mac true fl)[40 + j]'h := by
    intro h0 h
    apply hy
    rw [← hv] at h
    generalize (ndS 1 fr to ab mac true fl)[40 + j] = q at h
    have : q ^^^ (q ^^^ y) = q ^^^ q := by rw [h]
    rwa [← UInt8.xor_assoc, UInt8.xor_self, UInt8.zero_xor] at this
  obtain ⟨n, hn, Hq⟩ := ndParse_spoilt 1 fr to ab mac true fl j v hjl hvne
  have hxor := xor_u8 (ndS 1 fr to ab mac true fl)[40 + j] y
  rw [hv] at hxor
  obtain ⟨c, hc⟩ : ∃ s, ndS 1 fr to ab mac true fl = s := ⟨_, rfl⟩
  simp only [hc] at Hp Hq hl hpl hxor
  obtain ⟨p, hp⟩ : ∃ p, 40 + j = p := ⟨_, rfl⟩
  simp only [hp] at Hq hpl hxor
  have hset := u8s_setB c p v
  obtain ⟨d, hd⟩ : ∃ d, c.set p v = d := ⟨_, rfl⟩
  have hdl : d.length = 72 := by rw [← hd, List.length_set]; exact hl
  rw [hd] at hset Hq
  have hl1 : (c.length : Int) = 72 := by omega
  have hn1 : (a : Int) % 32 = j := by omega
  have hn2 : 40 + (j : Int) = p := by omega
  have hn3 : (p : Int) < 72 := by omega
  have hn4 : p < 72 := by omega
  have hn0 : (n != 0) = true := by rcases hn with rfl | rfl <;> rfl
  have y0 : ((y.toNat : Int) == 0) = false := by
    simp only [beq_eq_false_iff_ne, ne_eq]
    intro h
    exact hy (UInt8.toNat_inj.1 (by simp; omega))
  have a256 : (a : Int) < 256 := by omega
  have aw : wrap64 (a : Int) = a := by unfold wrap64; omega
  have HP := Lib.hid Hp
  have HQ := Lib.hid Hq
  have hxor2 : bits .xor .u8 ((c[p]'hpl).toNat : Int) (y.toNat : Int) = (v.toNat : Int) := hxor
  clear hxor
  clear Hp Hq hc hj hv hvne hp hd hn
  unfold ndV at HP HQ
  unfold ndV
  go_enter Try.func8, Try.ntmps8
  go_wp2_with fail
  refine (of10_any 1 fr to ab mac true fl _).mono ?_
  rintro e w2 ⟨rfl, hb2⟩
  have z2 := (hb2).size
  try simp at z2
  replace hb2 := below_of hb2 (show Below (w).heap.size w _ from by (repeat (first | exact Below.refl _ _ | refine Below.alloc ?_ (by first | (simp; done) | (simp; omega) | omega) _ | refine Below.drew ?_ | refine Below.setRow ?_ (by first | (simp; done) | (simp; omega) | omega) _ | refine Below.setCell ?_ (by first | (simp; done) | (simp; omega) | omega) _))) (by first | (simp; done) | (simp; omega) | omega)
  unfold ndV
  go_wp2_with fail
  refine (HP.out _).mono ?_
  rintro e w3 ⟨rfl, hb3⟩
  have z3 := (hb3).size
  try simp at z3
  go_wp2_with fail
  refine (awake10_any _).mono ?_
  rintro e w4 ⟨rfl, hb4⟩
  have z4 := (hb4).size
  try simp at z4
  have B4 : Below w.heap.size w w4 := Below.trans hb2 (Below.trans (hb3.mono (by omega)) (hb4.mono (by omega)))
  clear hb2 hb3 hb4
  obtain ⟨sp, hsp⟩ : ∃ q, spareOf w4 ⟨c.toArray⟩ 5 = q := ⟨_, rfl⟩
  obtain ⟨W, hW⟩ : ∃ W, (w4.alloc (.cells (u8s c ++ zeros sp (Value.int .u8 0)).toArray 5 (72 + sp, 72 + sp + 1))).drew = W := ⟨_, rfl⟩
  have bW : Below w4.heap.size w4 W := by rw [← hW]; exact Below.drew (Below.alloc (Below.refl _ _) (Nat.le_refl _) _)
  have zW : W.heap.size = w4.heap.size + 1 := by rw [← hW]; simp
  have rW : row W w4.heap.size = (u8s c ++ zeros sp (Value.int .u8 0)).toArray := by rw [← hW, row_drew, row_alloc_mark _ _ _ _ _ rfl (by simp; omega)]
  have BW : Below w.heap.size w W := B4.trans (bW.mono (by omega))
  have hps : p < 72 + sp := by omega
  clear bW B4
  obtain ⟨V, hV⟩ : ∃ V, W.setCell ⟨w4.heap.size, p, none⟩ (.int .u8 (v.toNat : Int)) = V := ⟨_, rfl⟩
  have eV : V = W.setRow w4.heap.size (u8s d ++ zeros sp (Value.int .u8 0)).toArray := by
    rw [← hV, setCell_row _ (by rw [rW]; simp; omega), rW]
    congr 1
    simp only [List.setIfInBounds_toArray]
    rw [List.set_append_left _ _ (by simp; omega), hset]
  have zV : V.heap.size = w4.heap.size + 1 := by rw [eV]; simpa using zW
  have rV : row V w4.heap.size = (u8s d ++ zeros sp (Value.int .u8 0)).toArray := by rw [eV]; exact row_setRow_same (by rw [rW]; simp; omega) (by rw [rW]; simp; omega)
  have BV : Below w.heap.size w V := by rw [eV]; exact Below.setRow BW (by omega) _
  clear eV BW hset
  go_wp2_with fail
  refine (HQ.out _).mono ?_
  rintro e w5 ⟨rfl, hb5⟩
  have z5 := (hb5).size
  try simp at z5
  have B5 : Below w.heap.size w w5 := Below.trans BV (hb5.mono (by omega))
  clear hb5 BV
  go_wp2_with fail
  go_ret
  refine ⟨by simp, ?_⟩
  (repeat (first | refine Below.alloc ?_ (by first | (simp; done) | (simp; omega) | omega) _ | refine Below.drew ?_ | refine Below.setRow ?_ (by first | (simp; done) | (simp; omega) | omega) _ | refine Below.setCell ?_ (by first | (simp; done) | (simp; omega) | omega) _))
  exact B5
set_option maxRecDepth 20000 in
set_option maxHeartbeats 2000000 in
theorem ndSpoilt_large_op2 (fr to ab : Vector UInt8 16) (mac : Vector UInt8 6) (fl : Vector UInt8 4) (a : Nat) (y : UInt8) (w : World) (ha : a < 256) (hy : y ≠ 0) :
    Calls Try.prog 8 #[.agg (ndV 2 fr to ab mac true fl).toArray, .int .u8 a, .int .u8 (y.toNat : Int)] w fun e W' => e = .returned (.bool true) ∧ Below w.heap.size w W' := by
  have Hp : ∀ w, Calls Try.prog 26 #[.agg (ndV 2 fr to ab mac true fl).toArray] w _ := fun w => ndPrint_op2 fr to ab mac fl w
  have hl : (ndS 2 fr to ab mac true fl).length = 72 := by rw [ndS_length]; rfl
  obtain ⟨j, hj⟩ : ∃ j, a % 32 = j := ⟨_, rfl⟩
  have hjl : j < 32 := by rw [← hj]; exact Nat.mod_lt _ (by decide)
  have hpl : 40 + j < (ndS 2 fr to ab mac true fl).length := by omega
  obtain ⟨v, hv⟩ : ∃ v, (ndS 2 fr to ab mac true fl)[40 + j] ^^^ y = v := ⟨_, rfl⟩
  have hvne : ∀ h, v ≠ (ndS 2 fr to ab mac true fl)[40 + j]'h := by
    intro h0 h
    apply hy
    rw [← hv] at h
    generalize (ndS 2 fr to ab mac true fl)[40 + j] = q at h
    have : q ^^^ (q ^^^ y) = q ^^^ q := by rw [h]
    rwa [← UInt8.xor_assoc, UInt8.xor_self, UInt8.zero_xor] at this
  obtain ⟨n, hn, Hq⟩ := ndParse_spoilt 2 fr to ab mac true fl j v hjl hvne
  have hxor := xor_u8 (ndS 2 fr to ab mac true fl)[40 + j] y
  rw [hv] at hxor
  obtain ⟨c, hc⟩ : ∃ s, ndS 2 fr to ab mac true fl = s := ⟨_, rfl⟩
  simp only [hc] at Hp Hq hl hpl hxor
  obtain ⟨p, hp⟩ : ∃ p, 40 + j = p := ⟨_, rfl⟩
  simp only [hp] at Hq hpl hxor
  have hset := u8s_setB c p v
  obtain ⟨d, hd⟩ : ∃ d, c.set p v = d := ⟨_, rfl⟩
  have hdl : d.length = 72 := by rw [← hd, List.length_set]; exact hl
  rw [hd] at hset Hq
  have hl1 : (c.length : Int) = 72 := by omega
  have hn1 : (a : Int) % 32 = j := by omega
  have hn2 : 40 + (j : Int) = p := by omega
  have hn3 : (p : Int) < 72 := by omega
  have hn4 : p < 72 := by omega
  have hn0 : (n != 0) = true := by rcases hn with rfl | rfl <;> rfl
  have y0 : ((y.toNat : Int) == 0) = false := by
    simp only [beq_eq_false_iff_ne, ne_eq]
    intro h
    exact hy (UInt8.toNat_inj.1 (by simp; omega))
  have a256 : (a : Int) < 256 := by omega
  have aw : wrap64 (a : Int) = a := by unfold wrap64; omega
  have HP := Lib.hid Hp
  have HQ := Lib.hid Hq
  have hxor2 : bits .xor .u8 ((c[p]'hpl).toNat : Int) (y.toNat : Int) = (v.toNat : Int) := hxor
  clear hxor
  clear Hp Hq hc hj hv hvne hp hd hn
  unfold ndV at HP HQ
  unfold ndV
  go_enter Try.func8, Try.ntmps8
  go_wp2_with fail
  refine (of10_any 2 fr to ab mac true fl _).mono ?_
  rintro e w2 ⟨rfl, hb2⟩
  have z2 := (hb2).size
  try simp at z2
  replace hb2 := below_of hb2 (show Below (w).heap.size w _ from by (repeat (first | exact Below.refl _ _ | refine Below.alloc ?_ (by first | (simp; done) | (simp; omega) | omega) _ | refine Below.drew ?_ | refine Below.setRow ?_ (by first | (simp; done) | (simp; omega) | omega) _ | refine Below.setCell ?_ (by first | (simp; done) | (simp; omega) | omega) _))) (by first | (simp; done) | (simp; omega) | omega)
  unfold ndV
  go_wp2_with fail
  refine (HP.out _).mono ?_
  rintro e w3 ⟨rfl, hb3⟩
  have z3 := (hb3).size
  try simp at z3
  go_wp2_with fail
  refine (awake10_any _).mono ?_
  rintro e w4 ⟨rfl, hb4⟩
  have z4 := (hb4).size
  try simp at z4
  have B4 : Below w.heap.size w w4 := Below.trans hb2 (Below.trans (hb3.mono (by omega)) (hb4.mono (by omega)))
  clear hb2 hb3 hb4
  obtain ⟨sp, hsp⟩ : ∃ q, spareOf w4 ⟨c.toArray⟩ 5 = q := ⟨_, rfl⟩
  obtain ⟨W, hW⟩ : ∃ W, (w4.alloc (.cells (u8s c ++ zeros sp (Value.int .u8 0)).toArray 5 (72 + sp, 72 + sp + 1))).drew = W := ⟨_, rfl⟩
  have bW : Below w4.heap.size w4 W := by rw [← hW]; exact Below.drew (Below.alloc (Below.refl _ _) (Nat.le_refl _) _)
  have zW : W.heap.size = w4.heap.size + 1 := by rw [← hW]; simp
  have rW : row W w4.heap.size = (u8s c ++ zeros sp (Value.int .u8 0)).toArray := by rw [← hW, row_drew, row_alloc_mark _ _ _ _ _ rfl (by simp; omega)]
  have BW : Below w.heap.size w W := B4.trans (bW.mono (by omega))
  have hps : p < 72 + sp := by omega
  clear bW B4
  obtain ⟨V, hV⟩ : ∃ V, W.setCell ⟨w4.heap.size, p, none⟩ (.int .u8 (v.toNat : Int)) = V := ⟨_, rfl⟩
  have eV : V = W.setRow w4.heap.size (u8s d ++ zeros sp (Value.int .u8 0)).toArray := by
    rw [← hV, setCell_row _ (by rw [rW]; simp; omega), rW]
    congr 1
    simp only [List.setIfInBounds_toArray]
    rw [List.set_append_left _ _ (by simp; omega), hset]
  have zV : V.heap.size = w4.heap.size + 1 := by rw [eV]; simpa using zW
  have rV : row V w4.heap.size = (u8s d ++ zeros sp (Value.int .u8 0)).toArray := by rw [eV]; exact row_setRow_same (by rw [rW]; simp; omega) (by rw [rW]; simp; omega)
  have BV : Below w.heap.size w V := by rw [eV]; exact Below.setRow BW (by omega) _
  clear eV BW hset
  go_wp2_with fail
  refine (HQ.out _).mono ?_
  rintro e w5 ⟨rfl, hb5⟩
  have z5 := (hb5).size
  try simp at z5
  have B5 : Below w.heap.size w w5 := Below.trans BV (hb5.mono (by omega))
  clear hb5 BV
  go_wp2_with fail
  go_ret
  refine ⟨by simp, ?_⟩
  (repeat (first | refine Below.alloc ?_ (by first | (simp; done) | (simp; omega) | omega) _ | refine Below.drew ?_ | refine Below.setRow ?_ (by first | (simp; done) | (simp; omega) | omega) _ | refine Below.setCell ?_ (by first | (simp; done) | (simp; omega) | omega) _))
  exact B5
set_option maxRecDepth 20000 in
set_option maxHeartbeats 2000000 in
theorem ndSpoilt_small_op1 (fr to ab : Vector UInt8 16) (mac : Vector UInt8 6) (fl : Vector UInt8 4) (a : Nat) (y : UInt8) (w : World) (ha : a < 256) (hy : y ≠ 0) :
    Calls Try.prog 8 #[.agg (ndV 1 fr to ab mac0 false fl).toArray, .int .u8 a, .int .u8 (y.toNat : Int)] w fun e W' => e = .returned (.bool true) ∧ Below w.heap.size w W' := by
  have Hp : ∀ w, Calls Try.prog 26 #[.agg (ndV 1 fr to ab mac0 false fl).toArray] w _ := fun w => ndPrintS_op1 fr to ab fl w
  have hl : (ndS 1 fr to ab mac0 false fl).length = 64 := by rw [ndS_length]; rfl
  obtain ⟨j, hj⟩ : ∃ j, a % 24 = j := ⟨_, rfl⟩
  have hjl : j < 24 := by rw [← hj]; exact Nat.mod_lt _ (by decide)
  have hpl : 40 + j < (ndS 1 fr to ab mac0 false fl).length := by omega
  obtain ⟨v, hv⟩ : ∃ v, (ndS 1 fr to ab mac0 false fl)[40 + j] ^^^ y = v := ⟨_, rfl⟩
  have hvne : ∀ h, v ≠ (ndS 1 fr to ab mac0 false fl)[40 + j]'h := by
    intro h0 h
    apply hy
    rw [← hv] at h
    generalize (ndS 1 fr to ab mac0 false fl)[40 + j] = q at h
    have : q ^^^ (q ^^^ y) = q ^^^ q := by rw [h]
    rwa [← UInt8.xor_assoc, UInt8.xor_self, UInt8.zero_xor] at this
  obtain ⟨n, hn, Hq⟩ := ndParse_spoilt 1 fr to ab mac0 false fl j v hjl hvne
  have hxor := xor_u8 (ndS 1 fr to ab mac0 false fl)[40 + j] y
  rw [hv] at hxor
  obtain ⟨c, hc⟩ : ∃ s, ndS 1 fr to ab mac0 false fl = s := ⟨_, rfl⟩
  simp only [hc] at Hp Hq hl hpl hxor
  obtain ⟨p, hp⟩ : ∃ p, 40 + j = p := ⟨_, rfl⟩
  simp only [hp] at Hq hpl hxor
  have hset := u8s_setB c p v
  obtain ⟨d, hd⟩ : ∃ d, c.set p v = d := ⟨_, rfl⟩
  have hdl : d.length = 64 := by rw [← hd, List.length_set]; exact hl
  rw [hd] at hset Hq
  have hl1 : (c.length : Int) = 64 := by omega
  have hn1 : (a : Int) % 24 = j := by omega
  have hn2 : 40 + (j : Int) = p := by omega
  have hn3 : (p : Int) < 64 := by omega
  have hn4 : p < 64 := by omega
  have hn0 : (n != 0) = true := by rcases hn with rfl | rfl <;> rfl
  have y0 : ((y.toNat : Int) == 0) = false := by
    simp only [beq_eq_false_iff_ne, ne_eq]
    intro h
    exact hy (UInt8.toNat_inj.1 (by simp; omega))
  have a256 : (a : Int) < 256 := by omega
  have aw : wrap64 (a : Int) = a := by unfold wrap64; omega
  have HP := Lib.hid Hp
  have HQ := Lib.hid Hq
  have hxor2 : bits .xor .u8 ((c[p]'hpl).toNat : Int) (y.toNat : Int) = (v.toNat : Int) := hxor
  clear hxor
  clear Hp Hq hc hj hv hvne hp hd hn
  unfold ndV at HP HQ
  unfold ndV
  go_enter Try.func8, Try.ntmps8
  go_wp2_with fail
  refine (of10_any 1 fr to ab mac0 false fl _).mono ?_
  rintro e w2 ⟨rfl, hb2⟩
  have z2 := (hb2).size
  try simp at z2
  replace hb2 := below_of hb2 (show Below (w).heap.size w _ from by (repeat (first | exact Below.refl _ _ | refine Below.alloc ?_ (by first | (simp; done) | (simp; omega) | omega) _ | refine Below.drew ?_ | refine Below.setRow ?_ (by first | (simp; done) | (simp; omega) | omega) _ | refine Below.setCell ?_ (by first | (simp; done) | (simp; omega) | omega) _))) (by first | (simp; done) | (simp; omega) | omega)
  unfold ndV
  go_wp2_with fail
  refine (HP.out _).mono ?_
  rintro e w3 ⟨rfl, hb3⟩
  have z3 := (hb3).size
  try simp at z3
  go_wp2_with fail
  refine (awake10_any _).mono ?_
  rintro e w4 ⟨rfl, hb4⟩
  have z4 := (hb4).size
  try simp at z4
  have B4 : Below w.heap.size w w4 := Below.trans hb2 (Below.trans (hb3.mono (by omega)) (hb4.mono (by omega)))
  clear hb2 hb3 hb4
  obtain ⟨sp, hsp⟩ : ∃ q, spareOf w4 ⟨c.toArray⟩ 5 = q := ⟨_, rfl⟩
  obtain ⟨W, hW⟩ : ∃ W, (w4.alloc (.cells (u8s c ++ zeros sp (Value.int .u8 0)).toArray 5 (64 + sp, 64 + sp + 1))).drew = W := ⟨_, rfl⟩
  have bW : Below w4.heap.size w4 W := by rw [← hW]; exact Below.drew (Below.alloc (Below.refl _ _) (Nat.le_refl _) _)
  have zW : W.heap.size = w4.heap.size + 1 := by rw [← hW]; simp
  have rW : row W w4.heap.size = (u8s c ++ zeros sp (Value.int .u8 0)).toArray := by rw [← hW, row_drew, row_alloc_mark _ _ _ _ _ rfl (by simp; omega)]
  have BW : Below w.heap.size w W := B4.trans (bW.mono (by omega))
  have hps : p < 64 + sp := by omega
  clear bW B4
  obtain ⟨V, hV⟩ : ∃ V, W.setCell ⟨w4.heap.size, p, none⟩ (.int .u8 (v.toNat : Int)) = V := ⟨_, rfl⟩
  have eV : V = W.setRow w4.heap.size (u8s d ++ zeros sp (Value.int .u8 0)).toArray := by
    rw [← hV, setCell_row _ (by rw [rW]; simp; omega), rW]
    congr 1
    simp only [List.setIfInBounds_toArray]
    rw [List.set_append_left _ _ (by simp; omega), hset]
  have zV : V.heap.size = w4.heap.size + 1 := by rw [eV]; simpa using zW
  have rV : row V w4.heap.size = (u8s d ++ zeros sp (Value.int .u8 0)).toArray := by rw [eV]; exact row_setRow_same (by rw [rW]; simp; omega) (by rw [rW]; simp; omega)
  have BV : Below w.heap.size w V := by rw [eV]; exact Below.setRow BW (by omega) _
  clear eV BW hset
  go_wp2_with fail
  refine (HQ.out _).mono ?_
  rintro e w5 ⟨rfl, hb5⟩
  have z5 := (hb5).size
  try simp at z5
  have B5 : Below w.heap.size w w5 := Below.trans BV (hb5.mono (by omega))
  clear hb5 BV
  go_wp2_with fail
  go_ret
  refine ⟨by simp, ?_⟩
  (repeat (first | refine Below.alloc ?_ (by first | (simp; done) | (simp; omega) | omega) _ | refine Below.drew ?_ | refine Below.setRow ?_ (by first | (simp; done) | (simp; omega) | omega) _ | refine Below.setCell ?_ (by first | (simp; done) | (simp; omega) | omega) _))
  exact B5
set_option maxRecDepth 20000 in
set_option maxHeartbeats 2000000 in
theorem ndSpoilt_small_op2 (fr to ab : Vector UInt8 16) (mac : Vector UInt8 6) (fl : Vector UInt8 4) (a : Nat) (y : UInt8) (w : World) (ha : a < 256) (hy : y ≠ 0) :
    Calls Try.prog 8 #[.agg (ndV 2 fr to ab mac0 false fl).toArray, .int .u8 a, .int .u8 (y.toNat : Int)] w fun e W' => e = .returned (.bool true) ∧ Below w.heap.size w W' := by
  have Hp : ∀ w, Calls Try.prog 26 #[.agg (ndV 2 fr to ab mac0 false fl).toArray] w _ := fun w => ndPrintS_op2 fr to ab fl w
  have hl : (ndS 2 fr to ab mac0 false fl).length = 64 := by rw [ndS_length]; rfl
  obtain ⟨j, hj⟩ : ∃ j, a % 24 = j := ⟨_, rfl⟩
  have hjl : j < 24 := by rw [← hj]; exact Nat.mod_lt _ (by decide)
  have hpl : 40 + j < (ndS 2 fr to ab mac0 false fl).length := by omega
  obtain ⟨v, hv⟩ : ∃ v, (ndS 2 fr to ab mac0 false fl)[40 + j] ^^^ y = v := ⟨_, rfl⟩
  have hvne : ∀ h, v ≠ (ndS 2 fr to ab mac0 false fl)[40 + j]'h := by
    intro h0 h
    apply hy
    rw [← hv] at h
    generalize (ndS 2 fr to ab mac0 false fl)[40 + j] = q at h
    have : q ^^^ (q ^^^ y) = q ^^^ q := by rw [h]
    rwa [← UInt8.xor_assoc, UInt8.xor_self, UInt8.zero_xor] at this
  obtain ⟨n, hn, Hq⟩ := ndParse_spoilt 2 fr to ab mac0 false fl j v hjl hvne
  have hxor := xor_u8 (ndS 2 fr to ab mac0 false fl)[40 + j] y
  rw [hv] at hxor
  obtain ⟨c, hc⟩ : ∃ s, ndS 2 fr to ab mac0 false fl = s := ⟨_, rfl⟩
  simp only [hc] at Hp Hq hl hpl hxor
  obtain ⟨p, hp⟩ : ∃ p, 40 + j = p := ⟨_, rfl⟩
  simp only [hp] at Hq hpl hxor
  have hset := u8s_setB c p v
  obtain ⟨d, hd⟩ : ∃ d, c.set p v = d := ⟨_, rfl⟩
  have hdl : d.length = 64 := by rw [← hd, List.length_set]; exact hl
  rw [hd] at hset Hq
  have hl1 : (c.length : Int) = 64 := by omega
  have hn1 : (a : Int) % 24 = j := by omega
  have hn2 : 40 + (j : Int) = p := by omega
  have hn3 : (p : Int) < 64 := by omega
  have hn4 : p < 64 := by omega
  have hn0 : (n != 0) = true := by rcases hn with rfl | rfl <;> rfl
  have y0 : ((y.toNat : Int) == 0) = false := by
    simp only [beq_eq_false_iff_ne, ne_eq]
    intro h
    exact hy (UInt8.toNat_inj.1 (by simp; omega))
  have a256 : (a : Int) < 256 := by omega
  have aw : wrap64 (a : Int) = a := by unfold wrap64; omega
  have HP := Lib.hid Hp
  have HQ := Lib.hid Hq
  have hxor2 : bits .xor .u8 ((c[p]'hpl).toNat : Int) (y.toNat : Int) = (v.toNat : Int) := hxor
  clear hxor
  clear Hp Hq hc hj hv hvne hp hd hn
  unfold ndV at HP HQ
  unfold ndV
  go_enter Try.func8, Try.ntmps8
  go_wp2_with fail
  refine (of10_any 2 fr to ab mac0 false fl _).mono ?_
  rintro e w2 ⟨rfl, hb2⟩
  have z2 := (hb2).size
  try simp at z2
  replace hb2 := below_of hb2 (show Below (w).heap.size w _ from by (repeat (first | exact Below.refl _ _ | refine Below.alloc ?_ (by first | (simp; done) | (simp; omega) | omega) _ | refine Below.drew ?_ | refine Below.setRow ?_ (by first | (simp; done) | (simp; omega) | omega) _ | refine Below.setCell ?_ (by first | (simp; done) | (simp; omega) | omega) _))) (by first | (simp; done) | (simp; omega) | omega)
  unfold ndV
  go_wp2_with fail
  refine (HP.out _).mono ?_
  rintro e w3 ⟨rfl, hb3⟩
  have z3 := (hb3).size
  try simp at z3
  go_wp2_with fail
  refine (awake10_any _).mono ?_
  rintro e w4 ⟨rfl, hb4⟩
  have z4 := (hb4).size
  try simp at z4
  have B4 : Below w.heap.size w w4 := Below.trans hb2 (Below.trans (hb3.mono (by omega)) (hb4.mono (by omega)))
  clear hb2 hb3 hb4
  obtain ⟨sp, hsp⟩ : ∃ q, spareOf w4 ⟨c.toArray⟩ 5 = q := ⟨_, rfl⟩
  obtain ⟨W, hW⟩ : ∃ W, (w4.alloc (.cells (u8s c ++ zeros sp (Value.int .u8 0)).toArray 5 (64 + sp, 64 + sp + 1))).drew = W := ⟨_, rfl⟩
  have bW : Below w4.heap.size w4 W := by rw [← hW]; exact Below.drew (Below.alloc (Below.refl _ _) (Nat.le_refl _) _)
  have zW : W.heap.size = w4.heap.size + 1 := by rw [← hW]; simp
  have rW : row W w4.heap.size = (u8s c ++ zeros sp (Value.int .u8 0)).toArray := by rw [← hW, row_drew, row_alloc_mark _ _ _ _ _ rfl (by simp; omega)]
  have BW : Below w.heap.size w W := B4.trans (bW.mono (by omega))
  have hps : p < 64 + sp := by omega
  clear bW B4
  obtain ⟨V, hV⟩ : ∃ V, W.setCell ⟨w4.heap.size, p, none⟩ (.int .u8 (v.toNat : Int)) = V := ⟨_, rfl⟩
  have eV : V = W.setRow w4.heap.size (u8s d ++ zeros sp (Value.int .u8 0)).toArray := by
    rw [← hV, setCell_row _ (by rw [rW]; simp; omega), rW]
    congr 1
    simp only [List.setIfInBounds_toArray]
    rw [List.set_append_left _ _ (by simp; omega), hset]
  have zV : V.heap.size = w4.heap.size + 1 := by rw [eV]; simpa using zW
  have rV : row V w4.heap.size = (u8s d ++ zeros sp (Value.int .u8 0)).toArray := by rw [eV]; exact row_setRow_same (by rw [rW]; simp; omega) (by rw [rW]; simp; omega)
  have BV : Below w.heap.size w V := by rw [eV]; exact Below.setRow BW (by omega) _
  clear eV BW hset
  go_wp2_with fail
  refine (HQ.out _).mono ?_
  rintro e w5 ⟨rfl, hb5⟩
  have z5 := (hb5).size
  try simp at z5
  have B5 : Below w.heap.size w w5 := Below.trans BV (hb5.mono (by omega))
  clear hb5 BV
  go_wp2_with fail
  go_ret
  refine ⟨by simp, ?_⟩
  (repeat (first | refine Below.alloc ?_ (by first | (simp; done) | (simp; omega) | omega) _ | refine Below.drew ?_ | refine Below.setRow ?_ (by first | (simp; done) | (simp; omega) | omega) _ | refine Below.setCell ?_ (by first | (simp; done) | (simp; omega) | omega) _))
  exact B5
set_option maxRecDepth 20000 in
set_option maxHeartbeats 2000000 in
theorem ndSpoilt_badop (op : Int) (fr to ab : Vector UInt8 16) (mac : Vector UInt8 6) (has : Bool) (fl : Vector UInt8 4) (at_ : Int) (w : World) (y : Int) (ho1 : ¬ op = 1) (ho2 : ¬ op = 2) :
    Calls Try.prog 8 #[.agg (ndV op fr to ab mac has fl).toArray, .int .u8 at_, .int .u8 y] w fun e W' => e = .returned (.bool true) ∧ Below w.heap.size w W' := by
  have Hp : ∀ w, Calls Try.prog 26 #[.agg (ndV op fr to ab mac has fl).toArray] w _ := fun w => ndPrint_badop op fr to ab mac has fl w (by simp [ho1]) (by simp [ho2])
  have HP := Lib.hid Hp
  clear Hp
  unfold ndV at HP
  unfold ndV
  go_enter Try.func8, Try.ntmps8
  go_wp2_with fail
  refine (of10_any op fr to ab mac has fl _).mono ?_
  rintro e w2 ⟨rfl, hb2⟩
  have z2 := (hb2).size
  try simp at z2
  replace hb2 := below_of hb2 (show Below (w).heap.size w _ from by (repeat (first | exact Below.refl _ _ | refine Below.alloc ?_ (by first | (simp; done) | (simp; omega) | omega) _ | refine Below.drew ?_ | refine Below.setRow ?_ (by first | (simp; done) | (simp; omega) | omega) _ | refine Below.setCell ?_ (by first | (simp; done) | (simp; omega) | omega) _))) (by first | (simp; done) | (simp; omega) | omega)
  unfold ndV
  go_wp2_with fail
  refine (HP.out _).mono ?_
  rintro e w3 ⟨rfl, hb3⟩
  have z3 := (hb3).size
  try simp at z3
  go_wp2_with fail
  refine (awake10_any _).mono ?_
  rintro e w4 ⟨rfl, hb4⟩
  have z4 := (hb4).size
  try simp at z4
  go_wp2_with fail
  refine (awake10_any _).mono ?_
  rintro e w5 ⟨rfl, hb5⟩
  go_wp2_with fail
  go_ret
  refine ⟨rfl, ?_⟩
  refine Below.trans ?_ (Below.mono hb5 (by first | (simp; done) | (simp; omega) | omega))
  refine Below.trans ?_ (Below.mono hb4 (by first | (simp; done) | (simp; omega) | omega))
  refine Below.trans ?_ (Below.mono hb3 (by first | (simp; done) | (simp; omega) | omega))
  exact hb2
set_option maxRecDepth 20000 in
set_option maxHeartbeats 2000000 in
theorem ndSpoilt_badmac1  (fr to ab : Vector UInt8 16) (mac : Vector UInt8 6)  (fl : Vector UInt8 4) (at_ : Int) (w : World) (y : Int) (hc : ¬ mac = mac0) :
    Calls Try.prog 8 #[.agg (ndV 1 fr to ab mac false fl).toArray, .int .u8 at_, .int .u8 y] w fun e W' => e = .returned (.bool true) ∧ Below w.heap.size w W' := by
  have Hp : ∀ w, Calls Try.prog 26 #[.agg (ndV 1 fr to ab mac false fl).toArray] w _ := fun w => ndPrint_badmac1 fr to ab mac fl w (by simp [hc]) (by simp [hc])
  have HP := Lib.hid Hp
  clear Hp
  unfold ndV at HP
  unfold ndV
  go_enter Try.func8, Try.ntmps8
  go_wp2_with fail
  refine (of10_any 1 fr to ab mac false fl _).mono ?_
  rintro e w2 ⟨rfl, hb2⟩
  have z2 := (hb2).size
  try simp at z2
  replace hb2 := below_of hb2 (show Below (w).heap.size w _ from by (repeat (first | exact Below.refl _ _ | refine Below.alloc ?_ (by first | (simp; done) | (simp; omega) | omega) _ | refine Below.drew ?_ | refine Below.setRow ?_ (by first | (simp; done) | (simp; omega) | omega) _ | refine Below.setCell ?_ (by first | (simp; done) | (simp; omega) | omega) _))) (by first | (simp; done) | (simp; omega) | omega)
  unfold ndV
  go_wp2_with fail
  refine (HP.out _).mono ?_
  rintro e w3 ⟨rfl, hb3⟩
  have z3 := (hb3).size
  try simp at z3
  go_wp2_with fail
  refine (awake10_any _).mono ?_
  rintro e w4 ⟨rfl, hb4⟩
  have z4 := (hb4).size
  try simp at z4
  go_wp2_with fail
  refine (awake10_any _).mono ?_
  rintro e w5 ⟨rfl, hb5⟩
  go_wp2_with fail
  go_ret
  refine ⟨rfl, ?_⟩
  refine Below.trans ?_ (Below.mono hb5 (by first | (simp; done) | (simp; omega) | omega))
  refine Below.trans ?_ (Below.mono hb4 (by first | (simp; done) | (simp; omega) | omega))
  refine Below.trans ?_ (Below.mono hb3 (by first | (simp; done) | (simp; omega) | omega))
  exact hb2
set_option maxRecDepth 20000 in
set_option maxHeartbeats 2000000 in
theorem ndSpoilt_badmac2  (fr to ab : Vector UInt8 16) (mac : Vector UInt8 6)  (fl : Vector UInt8 4) (at_ : Int) (w : World) (y : Int) (hc : ¬ mac = mac0) :
    Calls Try.prog 8 #[.agg (ndV 2 fr to ab mac false fl).toArray, .int .u8 at_, .int .u8 y] w fun e W' => e = .returned (.bool true) ∧ Below w.heap.size w W' := by
  have Hp : ∀ w, Calls Try.prog 26 #[.agg (ndV 2 fr to ab mac false fl).toArray] w _ := fun w => ndPrint_badmac2 fr to ab mac fl w (by simp [hc]) (by simp [hc])
  have HP := Lib.hid Hp
  clear Hp
  unfold ndV at HP
  unfold ndV
  go_enter Try.func8, Try.ntmps8
  go_wp2_with fail
  refine (of10_any 2 fr to ab mac false fl _).mono ?_
  rintro e w2 ⟨rfl, hb2⟩
  have z2 := (hb2).size
  try simp at z2
  replace hb2 := below_of hb2 (show Below (w).heap.size w _ from by (repeat (first | exact Below.refl _ _ | refine Below.alloc ?_ (by first | (simp; done) | (simp; omega) | omega) _ | refine Below.drew ?_ | refine Below.setRow ?_ (by first | (simp; done) | (simp; omega) | omega) _ | refine Below.setCell ?_ (by first | (simp; done) | (simp; omega) | omega) _))) (by first | (simp; done) | (simp; omega) | omega)
  unfold ndV
  go_wp2_with fail
  refine (HP.out _).mono ?_
  rintro e w3 ⟨rfl, hb3⟩
  have z3 := (hb3).size
  try simp at z3
  go_wp2_with fail
  refine (awake10_any _).mono ?_
  rintro e w4 ⟨rfl, hb4⟩
  have z4 := (hb4).size
  try simp at z4
  go_wp2_with fail
  refine (awake10_any _).mono ?_
  rintro e w5 ⟨rfl, hb5⟩
  go_wp2_with fail
  go_ret
  refine ⟨rfl, ?_⟩
  refine Below.trans ?_ (Below.mono hb5 (by first | (simp; done) | (simp; omega) | omega))
  refine Below.trans ?_ (Below.mono hb4 (by first | (simp; done) | (simp; omega) | omega))
  refine Below.trans ?_ (Below.mono hb3 (by first | (simp; done) | (simp; omega) | omega))
  exact hb2
set_option maxRecDepth 20000 in
set_option maxHeartbeats 2000000 in
theorem ndSpoilt_zero1t (fr to ab : Vector UInt8 16) (mac : Vector UInt8 6) (fl : Vector UInt8 4) (at_ : Int) (w : World) :
    Calls Try.prog 8 #[.agg (ndV 1 fr to ab mac true fl).toArray, .int .u8 at_, .int .u8 0] w fun e W' => e = .returned (.bool true) ∧ Below w.heap.size w W' := by
  have Hp : ∀ w, Calls Try.prog 26 #[.agg (ndV 1 fr to ab mac true fl).toArray] w _ := fun w => ndPrint_op1 fr to ab mac fl w
  have HP := Lib.hid Hp
  clear Hp
  unfold ndV at HP
  unfold ndV
  go_enter Try.func8, Try.ntmps8
  go_wp2_with fail
  refine (of10_any 1 fr to ab mac true fl _).mono ?_
  rintro e w2 ⟨rfl, hb2⟩
  have z2 := (hb2).size
  try simp at z2
  replace hb2 := below_of hb2 (show Below (w).heap.size w _ from by (repeat (first | exact Below.refl _ _ | refine Below.alloc ?_ (by first | (simp; done) | (simp; omega) | omega) _ | refine Below.drew ?_ | refine Below.setRow ?_ (by first | (simp; done) | (simp; omega) | omega) _ | refine Below.setCell ?_ (by first | (simp; done) | (simp; omega) | omega) _))) (by first | (simp; done) | (simp; omega) | omega)
  unfold ndV
  go_wp2_with fail
  refine (HP.out _).mono ?_
  rintro e w3 ⟨rfl, hb3⟩
  have z3 := (hb3).size
  try simp at z3
  go_wp2_with fail
  refine (awake10_any _).mono ?_
  rintro e w4 ⟨rfl, hb4⟩
  have z4 := (hb4).size
  try simp at z4
  go_wp2_with fail
  refine (awake10_any _).mono ?_
  rintro e w5 ⟨rfl, hb5⟩
  go_wp2_with fail
  go_ret
  refine ⟨rfl, ?_⟩
  refine Below.trans ?_ (Below.mono hb5 (by first | (simp; done) | (simp; omega) | omega))
  refine Below.trans ?_ (Below.mono hb4 (by first | (simp; done) | (simp; omega) | omega))
  refine Below.trans ?_ (Below.mono hb3 (by first | (simp; done) | (simp; omega) | omega))
  exact hb2
set_option maxRecDepth 20000 in
set_option maxHeartbeats 2000000 in
theorem ndSpoilt_zero2t (fr to ab : Vector UInt8 16) (mac : Vector UInt8 6) (fl : Vector UInt8 4) (at_ : Int) (w : World) :
    Calls Try.prog 8 #[.agg (ndV 2 fr to ab mac true fl).toArray, .int .u8 at_, .int .u8 0] w fun e W' => e = .returned (.bool true) ∧ Below w.heap.size w W' := by
  have Hp : ∀ w, Calls Try.prog 26 #[.agg (ndV 2 fr to ab mac true fl).toArray] w _ := fun w => ndPrint_op2 fr to ab mac fl w
  have HP := Lib.hid Hp
  clear Hp
  unfold ndV at HP
  unfold ndV
  go_enter Try.func8, Try.ntmps8
  go_wp2_with fail
  refine (of10_any 2 fr to ab mac true fl _).mono ?_
  rintro e w2 ⟨rfl, hb2⟩
  have z2 := (hb2).size
  try simp at z2
  replace hb2 := below_of hb2 (show Below (w).heap.size w _ from by (repeat (first | exact Below.refl _ _ | refine Below.alloc ?_ (by first | (simp; done) | (simp; omega) | omega) _ | refine Below.drew ?_ | refine Below.setRow ?_ (by first | (simp; done) | (simp; omega) | omega) _ | refine Below.setCell ?_ (by first | (simp; done) | (simp; omega) | omega) _))) (by first | (simp; done) | (simp; omega) | omega)
  unfold ndV
  go_wp2_with fail
  refine (HP.out _).mono ?_
  rintro e w3 ⟨rfl, hb3⟩
  have z3 := (hb3).size
  try simp at z3
  go_wp2_with fail
  refine (awake10_any _).mono ?_
  rintro e w4 ⟨rfl, hb4⟩
  have z4 := (hb4).size
  try simp at z4
  go_wp2_with fail
  refine (awake10_any _).mono ?_
  rintro e w5 ⟨rfl, hb5⟩
  go_wp2_with fail
  go_ret
  refine ⟨rfl, ?_⟩
  refine Below.trans ?_ (Below.mono hb5 (by first | (simp; done) | (simp; omega) | omega))
  refine Below.trans ?_ (Below.mono hb4 (by first | (simp; done) | (simp; omega) | omega))
  refine Below.trans ?_ (Below.mono hb3 (by first | (simp; done) | (simp; omega) | omega))
  exact hb2
set_option maxRecDepth 20000 in
set_option maxHeartbeats 2000000 in
theorem ndSpoilt_zero1f (fr to ab : Vector UInt8 16) (mac : Vector UInt8 6) (fl : Vector UInt8 4) (at_ : Int) (w : World) :
    Calls Try.prog 8 #[.agg (ndV 1 fr to ab mac0 false fl).toArray, .int .u8 at_, .int .u8 0] w fun e W' => e = .returned (.bool true) ∧ Below w.heap.size w W' := by
  have Hp : ∀ w, Calls Try.prog 26 #[.agg (ndV 1 fr to ab mac0 false fl).toArray] w _ := fun w => ndPrintS_op1 fr to ab fl w
  have HP := Lib.hid Hp
  clear Hp
  unfold ndV at HP
  unfold ndV
  go_enter Try.func8, Try.ntmps8
  go_wp2_with fail
  refine (of10_any 1 fr to ab mac0 false fl _).mono ?_
  rintro e w2 ⟨rfl, hb2⟩
  have z2 := (hb2).size
  try simp at z2
  replace hb2 := below_of hb2 (show Below (w).heap.size w _ from by (repeat (first | exact Below.refl _ _ | refine Below.alloc ?_ (by first | (simp; done) | (simp; omega) | omega) _ | refine Below.drew ?_ | refine Below.setRow ?_ (by first | (simp; done) | (simp; omega) | omega) _ | refine Below.setCell ?_ (by first | (simp; done) | (simp; omega) | omega) _))) (by first | (simp; done) | (simp; omega) | omega)
  unfold ndV
  go_wp2_with fail
  refine (HP.out _).mono ?_
  rintro e w3 ⟨rfl, hb3⟩
  have z3 := (hb3).size
  try simp at z3
  go_wp2_with fail
  refine (awake10_any _).mono ?_
  rintro e w4 ⟨rfl, hb4⟩
  have z4 := (hb4).size
  try simp at z4
  go_wp2_with fail
  refine (awake10_any _).mono ?_
  rintro e w5 ⟨rfl, hb5⟩
  go_wp2_with fail
  go_ret
  refine ⟨rfl, ?_⟩
  refine Below.trans ?_ (Below.mono hb5 (by first | (simp; done) | (simp; omega) | omega))
  refine Below.trans ?_ (Below.mono hb4 (by first | (simp; done) | (simp; omega) | omega))
  refine Below.trans ?_ (Below.mono hb3 (by first | (simp; done) | (simp; omega) | omega))
  exact hb2
set_option maxRecDepth 20000 in
set_option maxHeartbeats 2000000 in
theorem ndSpoilt_zero2f (fr to ab : Vector UInt8 16) (mac : Vector UInt8 6) (fl : Vector UInt8 4) (at_ : Int) (w : World) :
    Calls Try.prog 8 #[.agg (ndV 2 fr to ab mac0 false fl).toArray, .int .u8 at_, .int .u8 0] w fun e W' => e = .returned (.bool true) ∧ Below w.heap.size w W' := by
  have Hp : ∀ w, Calls Try.prog 26 #[.agg (ndV 2 fr to ab mac0 false fl).toArray] w _ := fun w => ndPrintS_op2 fr to ab fl w
  have HP := Lib.hid Hp
  clear Hp
  unfold ndV at HP
  unfold ndV
  go_enter Try.func8, Try.ntmps8
  go_wp2_with fail
  refine (of10_any 2 fr to ab mac0 false fl _).mono ?_
  rintro e w2 ⟨rfl, hb2⟩
  have z2 := (hb2).size
  try simp at z2
  replace hb2 := below_of hb2 (show Below (w).heap.size w _ from by (repeat (first | exact Below.refl _ _ | refine Below.alloc ?_ (by first | (simp; done) | (simp; omega) | omega) _ | refine Below.drew ?_ | refine Below.setRow ?_ (by first | (simp; done) | (simp; omega) | omega) _ | refine Below.setCell ?_ (by first | (simp; done) | (simp; omega) | omega) _))) (by first | (simp; done) | (simp; omega) | omega)
  unfold ndV
  go_wp2_with fail
  refine (HP.out _).mono ?_
  rintro e w3 ⟨rfl, hb3⟩
  have z3 := (hb3).size
  try simp at z3
  go_wp2_with fail
  refine (awake10_any _).mono ?_
  rintro e w4 ⟨rfl, hb4⟩
  have z4 := (hb4).size
  try simp at z4
  go_wp2_with fail
  refine (awake10_any _).mono ?_
  rintro e w5 ⟨rfl, hb5⟩
  go_wp2_with fail
  go_ret
  refine ⟨rfl, ?_⟩
  refine Below.trans ?_ (Below.mono hb5 (by first | (simp; done) | (simp; omega) | omega))
  refine Below.trans ?_ (Below.mono hb4 (by first | (simp; done) | (simp; omega) | omega))
  refine Below.trans ?_ (Below.mono hb3 (by first | (simp; done) | (simp; omega) | omega))
  exact hb2
theorem u8_nat {n : Int} (h : IntKind.u8.has n) : ∃ y : UInt8, n = (y.toNat : Int) := by
  have h1 : 0 ≤ n ∧ n ≤ 255 := by simpa [IntKind.has, IntKind.min, IntKind.max, IntKind.bits, IntKind.signed] using h
  refine ⟨UInt8.ofNat n.toNat, ?_⟩
  rw [UInt8.toNat_ofNat']
  omega
theorem ndSpoilt_walk (W : World) (base : Nat) (args : Array Value) (hlen : args.size = Try.f8.params.size) (hval : ∀ (j : Nat) t v, Try.f8.params[j]? = some t → args[j]? = some v → Value.okWide Try.prog W .any base t v) :
    Calls Try.prog 8 args W fun e W' => e = .returned (.bool true) ∧ Below W.heap.size W W' := by
  obtain ⟨l⟩ := args
  match l, hlen with
  | [v0, v1, v2], _ =>
  have k0 := hval 0 52 v0 rfl rfl
  obtain ⟨op, fr, to, ab, mac, has, fl, rfl⟩ := open_nd k0
  obtain ⟨a, rfl, ha⟩ := open_num Try.underlying5 (hval 1 5 v1 rfl rfl)
  obtain ⟨y, rfl, hy⟩ := open_num Try.underlying5 (hval 2 5 v2 rfl rfl)
  obtain ⟨a, rfl⟩ := u8_nat ha
  obtain ⟨y, rfl⟩ := u8_nat hy
  have a256 : a.toNat < 256 := a.toNat_lt
  by_cases ho1 : op = 1
  · subst ho1
    cases has with
    | true =>
      by_cases h3 : y = 0
      · subst h3
        exact ndSpoilt_zero1t fr to ab mac fl _ W
      · exact ndSpoilt_large_op1 fr to ab mac fl a.toNat y W a256 h3
    | false =>
      by_cases hc : mac = mac0
      · subst hc
        by_cases h3 : y = 0
        · subst h3
          exact ndSpoilt_zero1f fr to ab mac0 fl _ W
        · exact ndSpoilt_small_op1 fr to ab mac0 fl a.toNat y W a256 h3
      · exact ndSpoilt_badmac1 fr to ab mac fl _ W _ hc
  · by_cases ho2 : op = 2
    · subst ho2
      cases has with
      | true =>
        by_cases h3 : y = 0
        · subst h3
          exact ndSpoilt_zero2t fr to ab mac fl _ W
        · exact ndSpoilt_large_op2 fr to ab mac fl a.toNat y W a256 h3
      | false =>
        by_cases hc : mac = mac0
        · subst hc
          by_cases h3 : y = 0
          · subst h3
            exact ndSpoilt_zero2f fr to ab mac0 fl _ W
          · exact ndSpoilt_small_op2 fr to ab mac0 fl a.toNat y W a256 h3
        · exact ndSpoilt_badmac2 fr to ab mac fl _ W _ hc
    · exact ndSpoilt_badop op fr to ab mac has fl _ W _ ho1 ho2
end Go.Proofs.Ythnjkpecnaglhaa
