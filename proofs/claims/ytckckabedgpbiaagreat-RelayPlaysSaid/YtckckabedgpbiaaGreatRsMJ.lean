/- Contracts of the reference of chapter 10: a message, its print. -/
import Derived.Test.YtckckabedgpbiaaGreatRsAJ
import Derived.Test.YtckckabedgpbiaaGreatJ21
set_option linter.unusedSimpArgs false
set_option linter.unusedVariables false
set_option maxRecDepth 4000
namespace Go.Proofs.YtckckabedgpbiaaGreat
open Go.RowKit
set_option maxRecDepth 20000 in
set_option maxHeartbeats 2000000 in
theorem rmessage_op1 (s : List UInt8) (fr to ab : Vector UInt8 16) (mac : Vector UInt8 6) (has : Bool) (fl : Vector UInt8 4) (w : World) (hs : s.length = 2) :
  Calls Tryz.prog 102 #[.agg (ndV 1 fr to ab mac has fl).toArray, .string ⟨s.toArray⟩] w fun e w' => e = .returned (.string ⟨(msgS 1 s ab mac has fl).toArray⟩) ∧ Below w.heap.size w w' := by
 unfold ndV
 go_enter Tryz.func102, Tryz.ntmps102
 go_wp2_with fail
 refine wp_region_beginS (S := Held (fun w' => row w' w.heap.size = (.int .i64 1 :: (u8v fr ++ (u8v to ++ (u8v ab ++ (u8v mac ++ (.bool has :: u8v fl)))))).toArray)) rfl ?_ (fun hS => ?_)
 ·
  unfold Held
  simp [go_sem, *]
 refine rp 0 hS ?_
 refine rp 1 hS ?_
 refine rp 2 hS ?_
 refine rp 3 hS ?_
 refine rp 6 hS ?_
 refine rp 8 hS ?_
 refine rp 9 hS ?_
 refine rp 10 hS ?_
 refine rp 12 hS ?_
 refine rp 13 hS ?_
 refine rp 14 hS ?_
 refine wpAnyH_all (rs := [4]) (by kernel_rfl) (by simp) ?_
 intro i hi
 obtain rfl := List.mem_singleton.1 hi
 refine wpOp_step rfl (fun K hK => ?_)
 clear hi hS
 go_simp
 rw [show IntKind.u8.wrap (IntKind.i64.wrap 135) = 135 by decide]
 rw [show (#[Value.int .u8 135, Value.int .u8 0] : Array Value) = (u8s [135, 0]).toArray from rfl]
 refine hK _ _ (wpAnyH_next (S2 := Held (fun w' => row w' w.heap.size = (.int .i64 1 :: (u8v fr ++ (u8v to ++ (u8v ab ++ (u8v mac ++ (.bool has :: u8v fl)))))).toArray ∧ row w' (w.heap.size + 1) = (u8s [135, 0]).toArray)) ?_ ?_ (fun hS => ?_))
 ·
  unfold Held
  simp [go_sem]
 ·
  intro w' hS'
  unfold Held at *
  simp at hS'
  simp [hS']
 clear hK K
 refine rp 5 hS ?_
 refine rp 7 hS ?_
 refine rp 11 hS ?_
 refine rp 15 hS ?_
 refine rp 16 hS ?_
 refine wpAnyH_done (by kernel_rfl) ?_ _
 cases has with
 | false =>
  go_wp2_with fail
  go_ret
  refine ⟨by simp [msgS], ?_⟩
  (repeat (first | exact Below.refl _ _ | refine Below.al ?_ _ | refine Below.drew ?_ | refine Below.sr ?_ _ | refine Below.sc ?_ _))
 | true =>
  go_wp2_with fail
  refine wp_region_beginS (S := Held (fun w' => row w' w.heap.size = (.int .i64 1 :: (u8v fr ++ (u8v to ++ (u8v ab ++ (u8v mac ++ (.bool true :: u8v fl)))))).toArray)) rfl ?_ (fun hS => ?_)
  ·
   unfold Held
   simp [go_sem, *]
  refine rp 0 hS ?_
  refine rp 1 hS ?_
  refine rp 2 hS ?_
  refine rp 3 hS ?_
  refine rp 7 hS ?_
  refine rp 8 hS ?_
  refine rp 9 hS ?_
  refine wpAnyH_all (rs := [4]) (by kernel_rfl) (by simp) ?_
  intro i hi
  obtain rfl := List.mem_singleton.1 hi
  refine wpOp_step rfl (fun K hK => ?_)
  clear hi hS
  go_simp
  rw [show IntKind.u8.wrap 1 = 1 by decide]
  rw [show (#[Value.int .u8 1, Value.int .u8 1] : Array Value) = (u8s [1, 1]).toArray from rfl]
  refine hK _ _ (wpAnyH_next (S2 := Held (fun w' => row w' w.heap.size = (.int .i64 1 :: (u8v fr ++ (u8v to ++ (u8v ab ++ (u8v mac ++ (.bool true :: u8v fl)))))).toArray ∧ row w' (w.heap.size + 1 + 1) = (u8s [1, 1]).toArray)) ?_ ?_ (fun hS => ?_))
  ·
   unfold Held
   simp [go_sem]
  ·
   intro w' hS'
   unfold Held at *
   simp at hS'
   simp [hS']
  clear hK K
  refine rp 5 hS ?_
  refine rp 6 hS ?_
  refine rp 10 hS ?_
  refine rp 11 hS ?_
  refine wpAnyH_done (by kernel_rfl) ?_ _
  go_wp2_with fail
  go_ret
  refine ⟨by simp [msgS], ?_⟩
  (repeat (first | exact Below.refl _ _ | refine Below.al ?_ _ | refine Below.drew ?_ | refine Below.sr ?_ _ | refine Below.sc ?_ _))
set_option maxRecDepth 20000 in
set_option maxHeartbeats 2000000 in
theorem rmessage_op2 (s : List UInt8) (fr to ab : Vector UInt8 16) (mac : Vector UInt8 6) (has : Bool) (fl : Vector UInt8 4) (w : World) (hs : s.length = 2) :
  Calls Tryz.prog 102 #[.agg (ndV 2 fr to ab mac has fl).toArray, .string ⟨s.toArray⟩] w fun e w' => e = .returned (.string ⟨(msgS 2 s ab mac has fl).toArray⟩) ∧ Below w.heap.size w w' := by
 unfold ndV
 go_enter Tryz.func102, Tryz.ntmps102
 go_wp2_with fail
 refine wp_region_beginS (S := Held (fun w' => row w' w.heap.size = (.int .i64 2 :: (u8v fr ++ (u8v to ++ (u8v ab ++ (u8v mac ++ (.bool has :: u8v fl)))))).toArray)) rfl ?_ (fun hS => ?_)
 ·
  unfold Held
  simp [go_sem, *]
 refine rp 0 hS ?_
 refine rp 1 hS ?_
 refine rp 2 hS ?_
 refine rp 3 hS ?_
 refine rp 6 hS ?_
 refine rp 8 hS ?_
 refine rp 9 hS ?_
 refine rp 10 hS ?_
 refine rp 12 hS ?_
 refine rp 13 hS ?_
 refine rp 14 hS ?_
 refine wpAnyH_all (rs := [4]) (by kernel_rfl) (by simp) ?_
 intro i hi
 obtain rfl := List.mem_singleton.1 hi
 refine wpOp_step rfl (fun K hK => ?_)
 clear hi hS
 go_simp
 rw [show IntKind.u8.wrap (IntKind.i64.wrap 136) = 136 by decide]
 rw [show (#[Value.int .u8 136, Value.int .u8 0] : Array Value) = (u8s [136, 0]).toArray from rfl]
 refine hK _ _ (wpAnyH_next (S2 := Held (fun w' => row w' w.heap.size = (.int .i64 2 :: (u8v fr ++ (u8v to ++ (u8v ab ++ (u8v mac ++ (.bool has :: u8v fl)))))).toArray ∧ row w' (w.heap.size + 1) = (u8s [136, 0]).toArray)) ?_ ?_ (fun hS => ?_))
 ·
  unfold Held
  simp [go_sem]
 ·
  intro w' hS'
  unfold Held at *
  simp at hS'
  simp [hS']
 clear hK K
 refine rp 5 hS ?_
 refine rp 7 hS ?_
 refine rp 11 hS ?_
 refine rp 15 hS ?_
 refine rp 16 hS ?_
 refine wpAnyH_done (by kernel_rfl) ?_ _
 cases has with
 | false =>
  go_wp2_with fail
  go_ret
  refine ⟨by simp [msgS], ?_⟩
  (repeat (first | exact Below.refl _ _ | refine Below.al ?_ _ | refine Below.drew ?_ | refine Below.sr ?_ _ | refine Below.sc ?_ _))
 | true =>
  go_wp2_with fail
  refine wp_region_beginS (S := Held (fun w' => row w' w.heap.size = (.int .i64 2 :: (u8v fr ++ (u8v to ++ (u8v ab ++ (u8v mac ++ (.bool true :: u8v fl)))))).toArray)) rfl ?_ (fun hS => ?_)
  ·
   unfold Held
   simp [go_sem, *]
  refine rp 0 hS ?_
  refine rp 1 hS ?_
  refine rp 2 hS ?_
  refine rp 3 hS ?_
  refine rp 7 hS ?_
  refine rp 8 hS ?_
  refine rp 9 hS ?_
  refine wpAnyH_all (rs := [4]) (by kernel_rfl) (by simp) ?_
  intro i hi
  obtain rfl := List.mem_singleton.1 hi
  refine wpOp_step rfl (fun K hK => ?_)
  clear hi hS
  go_simp
  rw [show IntKind.u8.wrap 2 = 2 by decide]
  rw [show (#[Value.int .u8 2, Value.int .u8 1] : Array Value) = (u8s [2, 1]).toArray from rfl]
  refine hK _ _ (wpAnyH_next (S2 := Held (fun w' => row w' w.heap.size = (.int .i64 2 :: (u8v fr ++ (u8v to ++ (u8v ab ++ (u8v mac ++ (.bool true :: u8v fl)))))).toArray ∧ row w' (w.heap.size + 1 + 1) = (u8s [2, 1]).toArray)) ?_ ?_ (fun hS => ?_))
  ·
   unfold Held
   simp [go_sem]
  ·
   intro w' hS'
   unfold Held at *
   simp at hS'
   simp [hS']
  clear hK K
  refine rp 5 hS ?_
  refine rp 6 hS ?_
  refine rp 10 hS ?_
  refine rp 11 hS ?_
  refine wpAnyH_done (by kernel_rfl) ?_ _
  go_wp2_with fail
  go_ret
  refine ⟨by simp [msgS], ?_⟩
  (repeat (first | exact Below.refl _ _ | refine Below.al ?_ _ | refine Below.drew ?_ | refine Below.sr ?_ _ | refine Below.sc ?_ _))
attribute [local irreducible] sum16 bytesN
set_option maxRecDepth 20000 in
set_option maxHeartbeats 2000000 in
theorem rprint_op1 (fr to ab : Vector UInt8 16) (mac : Vector UInt8 6) (has : Bool) (fl : Vector UInt8 4) (w : World) :
  Calls Tryz.prog 84 #[.agg (ndV 1 fr to ab mac has fl).toArray] w fun e w' => e = .returned (.string ⟨(ndS 1 fr to ab mac has fl).toArray⟩) ∧ Below w.heap.size w w' := by
 have Hm := fun w => rmessage_op1 [0, 0] fr to ab mac has fl w rfl
 have Hm2 := fun w => rmessage_op1 (bytesN (sumN 1 fr to ab mac has fl) 2) fr to ab mac has fl w (by simp)
 obtain ⟨m, hm⟩ : ∃ m, msgS 1 [0, 0] ab mac has fl = m := ⟨_, rfl⟩
 obtain ⟨m2, hm2⟩ : ∃ m, msgS 1 (bytesN (sumN 1 fr to ab mac has fl) 2) ab mac has fl = m := ⟨_, rfl⟩
 have hml : m.length = szN has := by rw [← hm]; exact msgS_len2 _ _ _ _ _ _ rfl
 have hml2 : m2.length = szN has := by rw [← hm2]; exact msgS_len2 _ _ _ _ _ _ (by simp)
 have hS : sumN 1 fr to ab mac has fl = sum16 (fr.toList ++ (to.toList ++ (bytesN m.length 4 ++ ([0, 0, 0, 58] ++ m)))) := by
  rw [sumN, sumS, hm, hml]
  cases has <;> rfl
 have hE := ndS_eq 1 fr to ab mac has fl
 rw [hm2, ← hml] at hE
 have HE := Lib.hid hE
 rw [hm] at Hm
 rw [hm2] at Hm2
 have hsz : szN has ≤ 32 := by cases has <;> decide
 have hev : ∃ k, szN has = 2 * k := by cases has; exact ⟨12, rfl⟩; exact ⟨16, rfl⟩
 obtain ⟨hk, hke⟩ := hev
 have hle := sumN_le 1 fr to ab mac has fl
 have HB4 := Lib.hid (fun w => rbytes_any m.length 4 w (by omega) (by omega))
 have HB2 := Lib.hid (fun w => rbytes_any m.length 2 w (by omega) (by omega))
 have HX := Lib.hid (fun w => rbytes_any (sumN 1 fr to ab mac has fl) 2 w (by omega) (by omega))
 have HS0 := fun w => rsum16_any (fr.toList ++ (to.toList ++ (bytesN m.length 4 ++ ([0, 0, 0, 58] ++ m)))) w (by simp; omega) (20 + hk) (by simp; omega)
 rw [← hS] at HS0
 obtain ⟨sm, hsm⟩ : ∃ v, sumN 1 fr to ab mac has fl = v := ⟨_, rfl⟩
 obtain ⟨b4, hb4⟩ : ∃ v, bytesN m.length 4 = v := ⟨_, rfl⟩
 obtain ⟨b2, hb2⟩ : ∃ v, bytesN m.length 2 = v := ⟨_, rfl⟩
 have lb4 : b4.length = 4 := by rw [← hb4]; simp
 have lb2 : b2.length = 2 := by rw [← hb2]; simp
 rw [hsm] at HX HS0 Hm2
 rw [hb4] at HS0 HB4
 rw [hb2] at HE HB2
 obtain ⟨x2, hx2⟩ : ∃ v, bytesN sm 2 = v := ⟨_, rfl⟩
 rw [hx2] at HX Hm2
 rw [show ([0, 0, 0, 58] ++ m : List UInt8) = 0 :: 0 :: 0 :: 58 :: m from rfl] at HS0
 have HS := Lib.hid HS0
 have HM := Lib.hid Hm
 have HM2 := Lib.hid Hm2
 have lm1 : m.length ≤ 32 := by omega
 have lm2 : m2.length ≤ 32 := by omega
 have lmI : (m.length : Int) ≤ 32 := by omega
 have k1 : ¬ 9223372036854775807 < 40 + m.length := by omega
 have k2 : ¬ 9223372036854775807 < 40 + m2.length := by omega
 rw [show ((2 : Nat) : Int) = 2 from rfl] at HB2 HX
 rw [show ((4 : Nat) : Int) = 4 from rfl] at HB4
 clear HS0 Hm Hm2 hS hm hm2 hml hml2 hE hsm hb4 hb2 hx2 hle hke hsz
 unfold ndV at HM HM2
 unfold ndV
 go_enter Tryz.func84, Tryz.ntmps84
 obtain ⟨W, hW⟩ : ∃ v, w.alloc (.cells (.int .i64 1 :: (u8v fr ++ (u8v to ++ (u8v ab ++ (u8v mac ++ (.bool has :: u8v fl)))))).toArray 181) = v := ⟨_, rfl⟩
 have rA : row W w.heap.size = (.int .i64 1 :: (u8v fr ++ (u8v to ++ (u8v ab ++ (u8v mac ++ (.bool has :: u8v fl)))))).toArray := by rw [← hW]; simp [go_sem]
 have zW : W.heap.size = w.heap.size + 1 := by rw [← hW]; simp
 have bW : Below w.heap.size w W := by
  rw [← hW]
  (repeat (first | exact Below.refl _ _ | refine Below.al ?_ _ | refine Below.drew ?_ | refine Below.sr ?_ _ | refine Below.sc ?_ _))
 go_wp2_with fail
 clear hW
 refine (HM.out _).mono ?_
 rintro e w1 ⟨rfl, b1⟩
 have z1 := b1.size
 have rA1 := (row_below b1 (by omega)).trans rA
 have bb1 := bW.trans (b1.mono (by omega))
 clear b1 bW rA
 go_wp2_with fail
 refine wp_region_beginR [(w.heap.size, (.int .i64 1 :: (u8v fr ++ (u8v to ++ (u8v ab ++ (u8v mac ++ (.bool has :: u8v fl)))))).toArray)] rfl (by simp only [Rws]; (repeat (first | exact trivial | refine ⟨(by first | assumption | (simp [go_sem, *]; done)), (by first | omega | (simp; done) | (simp; omega)), ?_⟩))) (fun hS => ?_)
 refine qp 0 hS ?_
 refine qp 1 hS ?_
 refine qp 2 hS ?_
 refine qp 3 hS ?_
 refine qp 4 hS ?_
 refine qp 5 hS ?_
 refine qp 6 hS ?_
 refine qp 7 hS ?_
 refine qp 8 hS ?_
 refine qp 12 hS ?_
 refine qc 9 (v := ?_) hS ?_ ?_
 rotate_left
 ·
  intro w' hS'
  simp only [Rws] at hS'
  go_simp
  with_reducible refine (HB4.out _).mono ?_
  rintro e w'' ⟨rfl, hb⟩
  exact ⟨_, rfl, by rfl, hb⟩
 refine qp 10 hS ?_
 refine qp 11 hS ?_
 refine qp 13 hS ?_
 refine qc 14 (v := ?_) hS ?_ ?_
 rotate_left
 ·
  intro w' hS'
  simp only [Rws] at hS'
  go_simp
  with_reducible refine (HS.out _).mono ?_
  rintro e w'' ⟨rfl, hb⟩
  exact ⟨_, rfl, by rfl, hb⟩
 refine qp 15 hS ?_
 refine wpAnyR_done (by kernel_rfl) (fun w2 h2 => ?_) _
 have z2 := h2.size
 replace z2 : w1.heap.size ≤ w2.heap.size := z2
 have b2' : Below w1.heap.size w1 w2 := Below.trans (Below.drew (Below.refl _ _)) h2
 have rA2 := (row_below b2' (by omega)).trans rA1
 have bb2 := bb1.trans (b2'.mono (by omega))
 clear hS h2 b2' bb1 rA1
 go_wp2_with fail
 refine wp_region_beginR [(w.heap.size, (.int .i64 1 :: (u8v fr ++ (u8v to ++ (u8v ab ++ (u8v mac ++ (.bool has :: u8v fl)))))).toArray)] rfl (by simp only [Rws]; (repeat (first | exact trivial | refine ⟨(by first | assumption | (simp [go_sem, *]; done)), (by first | omega | (simp; done) | (simp; omega)), ?_⟩))) (fun hS => ?_)
 refine qp 0 hS ?_
 refine qp 1 hS ?_
 refine qp 5 hS ?_
 refine qp 6 hS ?_
 refine qp 7 hS ?_
 refine qp 9 hS ?_
 refine qp 10 hS ?_
 refine qp 11 hS ?_
 refine qp 13 hS ?_
 refine qp 14 hS ?_
 refine qc 2 (v := ?_) hS ?_ ?_
 rotate_left
 ·
  intro w' hS'
  simp only [Rws] at hS'
  go_simp
  with_reducible refine (HB2.out _).mono ?_
  rintro e w'' ⟨rfl, hb⟩
  exact ⟨_, rfl, by rfl, hb⟩
 refine qp 3 hS ?_
 refine qp 4 hS ?_
 refine qp 8 hS ?_
 refine qp 12 hS ?_
 refine qc 15 (v := ?_) hS ?_ ?_
 rotate_left
 ·
  intro w' hS'
  simp only [Rws] at hS'
  go_simp
  with_reducible refine (HX.out _).mono ?_
  rintro e w'' ⟨rfl, hb⟩
  exact ⟨_, rfl, by rfl, hb⟩
 refine qc 16 (v := ?_) hS ?_ ?_
 rotate_left
 ·
  intro w' hS'
  simp only [Rws] at hS'
  go_simp
  with_reducible refine (HM2.out _).mono ?_
  rintro e w'' ⟨rfl, hb⟩
  exact ⟨_, rfl, by rfl, hb⟩
 refine qp 17 hS ?_
 refine qp 18 hS ?_
 refine wpAnyR_done (by kernel_rfl) (fun w3 h3 => ?_) _
 have b3 : Below w2.heap.size w2 w3 := Below.trans (Below.drew (Below.refl _ _)) h3
 have bb3 := bb2.trans (b3.mono (by omega))
 clear hS h3 b3 bb2 rA2
 go_wp2_with fail
 go_ret
 exact ⟨by rw [HE.out]; simp, bb3⟩
set_option maxRecDepth 20000 in
set_option maxHeartbeats 2000000 in
theorem rprint_op2 (fr to ab : Vector UInt8 16) (mac : Vector UInt8 6) (has : Bool) (fl : Vector UInt8 4) (w : World) :
  Calls Tryz.prog 84 #[.agg (ndV 2 fr to ab mac has fl).toArray] w fun e w' => e = .returned (.string ⟨(ndS 2 fr to ab mac has fl).toArray⟩) ∧ Below w.heap.size w w' := by
 have Hm := fun w => rmessage_op2 [0, 0] fr to ab mac has fl w rfl
 have Hm2 := fun w => rmessage_op2 (bytesN (sumN 2 fr to ab mac has fl) 2) fr to ab mac has fl w (by simp)
 obtain ⟨m, hm⟩ : ∃ m, msgS 2 [0, 0] ab mac has fl = m := ⟨_, rfl⟩
 obtain ⟨m2, hm2⟩ : ∃ m, msgS 2 (bytesN (sumN 2 fr to ab mac has fl) 2) ab mac has fl = m := ⟨_, rfl⟩
 have hml : m.length = szN has := by rw [← hm]; exact msgS_len2 _ _ _ _ _ _ rfl
 have hml2 : m2.length = szN has := by rw [← hm2]; exact msgS_len2 _ _ _ _ _ _ (by simp)
 have hS : sumN 2 fr to ab mac has fl = sum16 (fr.toList ++ (to.toList ++ (bytesN m.length 4 ++ ([0, 0, 0, 58] ++ m)))) := by
  rw [sumN, sumS, hm, hml]
  cases has <;> rfl
 have hE := ndS_eq 2 fr to ab mac has fl
 rw [hm2, ← hml] at hE
 have HE := Lib.hid hE
 rw [hm] at Hm
 rw [hm2] at Hm2
 have hsz : szN has ≤ 32 := by cases has <;> decide
 have hev : ∃ k, szN has = 2 * k := by cases has; exact ⟨12, rfl⟩; exact ⟨16, rfl⟩
 obtain ⟨hk, hke⟩ := hev
 have hle := sumN_le 2 fr to ab mac has fl
 have HB4 := Lib.hid (fun w => rbytes_any m.length 4 w (by omega) (by omega))
 have HB2 := Lib.hid (fun w => rbytes_any m.length 2 w (by omega) (by omega))
 have HX := Lib.hid (fun w => rbytes_any (sumN 2 fr to ab mac has fl) 2 w (by omega) (by omega))
 have HS0 := fun w => rsum16_any (fr.toList ++ (to.toList ++ (bytesN m.length 4 ++ ([0, 0, 0, 58] ++ m)))) w (by simp; omega) (20 + hk) (by simp; omega)
 rw [← hS] at HS0
 obtain ⟨sm, hsm⟩ : ∃ v, sumN 2 fr to ab mac has fl = v := ⟨_, rfl⟩
 obtain ⟨b4, hb4⟩ : ∃ v, bytesN m.length 4 = v := ⟨_, rfl⟩
 obtain ⟨b2, hb2⟩ : ∃ v, bytesN m.length 2 = v := ⟨_, rfl⟩
 have lb4 : b4.length = 4 := by rw [← hb4]; simp
 have lb2 : b2.length = 2 := by rw [← hb2]; simp
 rw [hsm] at HX HS0 Hm2
 rw [hb4] at HS0 HB4
 rw [hb2] at HE HB2
 obtain ⟨x2, hx2⟩ : ∃ v, bytesN sm 2 = v := ⟨_, rfl⟩
 rw [hx2] at HX Hm2
 rw [show ([0, 0, 0, 58] ++ m : List UInt8) = 0 :: 0 :: 0 :: 58 :: m from rfl] at HS0
 have HS := Lib.hid HS0
 have HM := Lib.hid Hm
 have HM2 := Lib.hid Hm2
 have lm1 : m.length ≤ 32 := by omega
 have lm2 : m2.length ≤ 32 := by omega
 have lmI : (m.length : Int) ≤ 32 := by omega
 have k1 : ¬ 9223372036854775807 < 40 + m.length := by omega
 have k2 : ¬ 9223372036854775807 < 40 + m2.length := by omega
 rw [show ((2 : Nat) : Int) = 2 from rfl] at HB2 HX
 rw [show ((4 : Nat) : Int) = 4 from rfl] at HB4
 clear HS0 Hm Hm2 hS hm hm2 hml hml2 hE hsm hb4 hb2 hx2 hle hke hsz
 unfold ndV at HM HM2
 unfold ndV
 go_enter Tryz.func84, Tryz.ntmps84
 obtain ⟨W, hW⟩ : ∃ v, w.alloc (.cells (.int .i64 2 :: (u8v fr ++ (u8v to ++ (u8v ab ++ (u8v mac ++ (.bool has :: u8v fl)))))).toArray 181) = v := ⟨_, rfl⟩
 have rA : row W w.heap.size = (.int .i64 2 :: (u8v fr ++ (u8v to ++ (u8v ab ++ (u8v mac ++ (.bool has :: u8v fl)))))).toArray := by rw [← hW]; simp [go_sem]
 have zW : W.heap.size = w.heap.size + 1 := by rw [← hW]; simp
 have bW : Below w.heap.size w W := by
  rw [← hW]
  (repeat (first | exact Below.refl _ _ | refine Below.al ?_ _ | refine Below.drew ?_ | refine Below.sr ?_ _ | refine Below.sc ?_ _))
 go_wp2_with fail
 clear hW
 refine (HM.out _).mono ?_
 rintro e w1 ⟨rfl, b1⟩
 have z1 := b1.size
 have rA1 := (row_below b1 (by omega)).trans rA
 have bb1 := bW.trans (b1.mono (by omega))
 clear b1 bW rA
 go_wp2_with fail
 refine wp_region_beginR [(w.heap.size, (.int .i64 2 :: (u8v fr ++ (u8v to ++ (u8v ab ++ (u8v mac ++ (.bool has :: u8v fl)))))).toArray)] rfl (by simp only [Rws]; (repeat (first | exact trivial | refine ⟨(by first | assumption | (simp [go_sem, *]; done)), (by first | omega | (simp; done) | (simp; omega)), ?_⟩))) (fun hS => ?_)
 refine qp 0 hS ?_
 refine qp 1 hS ?_
 refine qp 2 hS ?_
 refine qp 3 hS ?_
 refine qp 4 hS ?_
 refine qp 5 hS ?_
 refine qp 6 hS ?_
 refine qp 7 hS ?_
 refine qp 8 hS ?_
 refine qp 12 hS ?_
 refine qc 9 (v := ?_) hS ?_ ?_
 rotate_left
 ·
  intro w' hS'
  simp only [Rws] at hS'
  go_simp
  with_reducible refine (HB4.out _).mono ?_
  rintro e w'' ⟨rfl, hb⟩
  exact ⟨_, rfl, by rfl, hb⟩
 refine qp 10 hS ?_
 refine qp 11 hS ?_
 refine qp 13 hS ?_
 refine qc 14 (v := ?_) hS ?_ ?_
 rotate_left
 ·
  intro w' hS'
  simp only [Rws] at hS'
  go_simp
  with_reducible refine (HS.out _).mono ?_
  rintro e w'' ⟨rfl, hb⟩
  exact ⟨_, rfl, by rfl, hb⟩
 refine qp 15 hS ?_
 refine wpAnyR_done (by kernel_rfl) (fun w2 h2 => ?_) _
 have z2 := h2.size
 replace z2 : w1.heap.size ≤ w2.heap.size := z2
 have b2' : Below w1.heap.size w1 w2 := Below.trans (Below.drew (Below.refl _ _)) h2
 have rA2 := (row_below b2' (by omega)).trans rA1
 have bb2 := bb1.trans (b2'.mono (by omega))
 clear hS h2 b2' bb1 rA1
 go_wp2_with fail
 refine wp_region_beginR [(w.heap.size, (.int .i64 2 :: (u8v fr ++ (u8v to ++ (u8v ab ++ (u8v mac ++ (.bool has :: u8v fl)))))).toArray)] rfl (by simp only [Rws]; (repeat (first | exact trivial | refine ⟨(by first | assumption | (simp [go_sem, *]; done)), (by first | omega | (simp; done) | (simp; omega)), ?_⟩))) (fun hS => ?_)
 refine qp 0 hS ?_
 refine qp 1 hS ?_
 refine qp 5 hS ?_
 refine qp 6 hS ?_
 refine qp 7 hS ?_
 refine qp 9 hS ?_
 refine qp 10 hS ?_
 refine qp 11 hS ?_
 refine qp 13 hS ?_
 refine qp 14 hS ?_
 refine qc 2 (v := ?_) hS ?_ ?_
 rotate_left
 ·
  intro w' hS'
  simp only [Rws] at hS'
  go_simp
  with_reducible refine (HB2.out _).mono ?_
  rintro e w'' ⟨rfl, hb⟩
  exact ⟨_, rfl, by rfl, hb⟩
 refine qp 3 hS ?_
 refine qp 4 hS ?_
 refine qp 8 hS ?_
 refine qp 12 hS ?_
 refine qc 15 (v := ?_) hS ?_ ?_
 rotate_left
 ·
  intro w' hS'
  simp only [Rws] at hS'
  go_simp
  with_reducible refine (HX.out _).mono ?_
  rintro e w'' ⟨rfl, hb⟩
  exact ⟨_, rfl, by rfl, hb⟩
 refine qc 16 (v := ?_) hS ?_ ?_
 rotate_left
 ·
  intro w' hS'
  simp only [Rws] at hS'
  go_simp
  with_reducible refine (HM2.out _).mono ?_
  rintro e w'' ⟨rfl, hb⟩
  exact ⟨_, rfl, by rfl, hb⟩
 refine qp 17 hS ?_
 refine qp 18 hS ?_
 refine wpAnyR_done (by kernel_rfl) (fun w3 h3 => ?_) _
 have b3 : Below w2.heap.size w2 w3 := Below.trans (Below.drew (Below.refl _ _)) h3
 have bb3 := bb2.trans (b3.mono (by omega))
 clear hS h3 b3 bb2 rA2
 go_wp2_with fail
 go_ret
 exact ⟨by rw [HE.out]; simp, bb3⟩
end Go.Proofs.YtckckabedgpbiaaGreat
