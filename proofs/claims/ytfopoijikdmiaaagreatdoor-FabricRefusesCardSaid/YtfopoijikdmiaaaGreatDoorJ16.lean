/- Texts of this proof, merged: Arp, ArpB, ArpL, ArpF. -/
import Derived.Test.YtfopoijikdmiaaaGreatDoorOctJ
import Derived.Test.YtfopoijikdmiaaaGreatDoorJ2
import Derived.Deep.RegionHeld3
import Derived.Test.YtfopoijikdmiaaaGreatDoorJ3
import Derived.Test.YtfopoijikdmiaaaGreatDoorJ15
set_option linter.unusedSimpArgs false
set_option linter.unusedVariables false
set_option maxHeartbeats 8000000
set_option maxRecDepth 20000
namespace Go.Proofs.YtfopoijikdmiaaaGreatDoor
section
open Go.RowKit
def arpV (op : Int) (mac tgt : Vector UInt8 6) (ip want : Vector UInt8 4) : List Value := .int .i64 op :: (u8v mac ++ (u8v tgt ++ (u8v ip ++ u8v want)))
def arpS (op : Nat) (mac tgt : Vector UInt8 6) (ip want : Vector UInt8 4) : List UInt8 := [0, 1, 8, 0, 6, 4] ++ (bytesN op 2 ++ (mac.toList ++ (ip.toList ++ (tgt.toList ++ want.toList))))
theorem arpV_zero : arpV 0 (Vector.replicate 6 0) (Vector.replicate 6 0) (Vector.replicate 4 0) (Vector.replicate 4 0) = .int .i64 0 :: zeros 20 (.int .u8 0) := by
 simp only [arpV, u8v_zero]
 rfl
theorem take_any (n k : Nat) (N : Int) (A S : Nat) (l : List UInt8) (w : World) (hN : N = n) (hA : row w A = #[.int .i64 k]) (hS : row w S = #[.string ⟨l.toArray⟩]) (hAS : S ≠ A) (hn : n ≤ 100) (hk : k ≤ 100) (h : k + n ≤ l.length) :
  Calls Tryz.prog 243 #[.int .i64 N, .pointer (some ⟨A, 0, none⟩), .pointer (some ⟨S, 0, none⟩)] w fun e w' =>
   ∃ sp, e = .returned (.slice (some ⟨w.heap.size, 0, none⟩) n (n + sp)) ∧ w' = ((w.setRow A #[.int .i64 ((k : Int) + n)]).alloc (.cells (u8v (vecAt l k n) ++ zeros sp (.int .u8 0)).toArray 5 (n + sp, n + sp + 1))).drew := by
 subst hN
 have hSA := row_setRow_other (w := w) A S #[.int .i64 ((k : Int) + n)] hAS
 rw [hS] at hSA
 have hAA := row_setRow_same (w := w) (g := A) (c := #[.int .i64 ((k : Int) + n)]) (by rw [hA]; simp) (by rw [hA]; rfl)
 have hl1 : (k : Int) + n ≤ l.length := by omega
 have hmin : min n (l.length - k) = n := by omega
 rw [u8v_vecAt _ _ _ h]
 go_enter Tryz.func243, Tryz.ntmps243
 go_wp2
 go_ret
 exact ⟨_, rfl, rfl⟩
theorem parse_op1 (l : List UInt8) (w : World) (hl : 28 ≤ l.length) (hl2 : l.length ≤ 10000) (hh : (vecAt l 0 6).toList = [0, 1, 8, 0, 6, 4]) (hop : numN (vecAt l 6 2).toList = 1) :
  Calls Tryz.prog 190 #[.string ⟨l.toArray⟩] w fun e w' =>
   e = .returned (.tuple #[.agg (arpV 1 (vecAt l 8 6) (vecAt l 18 6) (vecAt l 14 4) (vecAt l 24 4)).toArray, .int .i64 0]) ∧ Below w.heap.size w w' := by
 go_enter Tryz.func190, Tryz.ntmps190
 go_wp2_with fail
 refine (take_any 6 0 _ _ _ l _ (by rfl) ?_ ?_ (by omega) (by omega) (by omega) (by omega)).mono ?_
 ·
  simp [go_sem]
 ·
  simp [go_sem]
 rintro e w1 ⟨sp1, rfl, rfl⟩
 go_wp2_with fail
 refine (take_any 2 6 _ _ _ l _ (by rfl) ?_ ?_ (by omega) (by omega) (by omega) (by omega)).mono ?_
 ·
  simp [go_sem]
 ·
  simp [go_sem]
 rintro e w2 ⟨sp2, rfl, rfl⟩
 go_wp2_with fail
 refine (number_any _ _ ?_).mono ?_
 ·
  simp [go_sem]
 rintro e w3 ⟨rfl, rfl⟩
 go_wp2_with fail
 refine wp_region_begin rfl (fun hS => ?_)
 refine rp 0 hS ?_
 refine rp 4 hS ?_
 refine wpAnyH_all (rs := [1]) kr_ (by simp) ?_
 intro i hi
 obtain rfl := List.mem_singleton.1 hi
 refine wpOp_step rfl (fun K hK => ?_)
 clear hi hS
 go_simp
 refine (take_any 6 8 _ _ _ l _ (by rfl) ?_ ?_ (by omega) (by omega) (by omega) (by omega)).mono ?_
 ·
  simp [go_sem]
 ·
  simp [go_sem]
 rintro e w4 ⟨sp3, rfl, rfl⟩
 refine hK _ _ (wpAnyH_next (S2 := Held (fun w' => row w' (w.heap.size + 1 + 1 + 1 + 1 + 1 + 1) = (u8v (vecAt l 8 6) ++ zeros sp3 (Value.int .u8 0)).toArray)) ?_ ?_ (fun hS => ?_))
 ·
  unfold Held
  simp [go_sem]
 ·
  intro w' hS'
  unfold Held at *
  simp at hS'
  simp [hS']
 clear hK K
 refine rp 2 hS ?_
 refine rp 3 hS ?_
 refine rp 8 hS ?_
 refine wpAnyH_all (rs := [5]) kr_ (by simp) ?_
 intro i hi
 obtain rfl := List.mem_singleton.1 hi
 refine wpOp_step rfl (fun K hK => ?_)
 clear hi hS
 go_simp
 refine (take_any 4 14 _ _ _ l _ (by rfl) ?_ ?_ (by omega) (by omega) (by omega) (by omega)).mono ?_
 ·
  simp [go_sem]
 ·
  simp [go_sem]
 rintro e w5 ⟨sp4, rfl, rfl⟩
 refine hK _ _ (wpAnyH_next (S2 := Held (fun w' => row w' (w.heap.size + 1 + 1 + 1 + 1 + 1 + 1) = (u8v (vecAt l 8 6) ++ zeros sp3 (Value.int .u8 0)).toArray ∧ row w' (w.heap.size + 1 + 1 + 1 + 1 + 1 + 1 + 1) = (u8v (vecAt l 14 4) ++ zeros sp4 (Value.int .u8 0)).toArray)) ?_ ?_ (fun hS => ?_))
 ·
  unfold Held
  simp [go_sem]
 ·
  intro w' hS'
  unfold Held at *
  simp at hS'
  simp [hS']
 clear hK K
 refine rp 6 hS ?_
 refine rp 7 hS ?_
 refine wpAnyH_all (rs := [9]) kr_ (by simp) ?_
 intro i hi
 obtain rfl := List.mem_singleton.1 hi
 refine wpOp_step rfl (fun K hK => ?_)
 clear hi hS
 go_simp
 refine hK _ _ (wpAnyH_same ?_ (fun hS => ?_))
 ·
  unfold Held
  simp [go_sem]
 clear hK K
 refine rp 10 hS ?_
 refine wpAnyH_all (rs := [11]) kr_ (by simp) ?_
 intro i hi
 obtain rfl := List.mem_singleton.1 hi
 refine wpOp_step rfl (fun K hK => ?_)
 clear hi hS
 go_simp
 refine hK _ _ (wpAnyH_same ?_ (fun hS => ?_))
 ·
  unfold Held
  simp [go_sem]
 clear hK K
 refine wpAnyH_done kr_ ?_ _
 go_wp2_with fail
 refine wp_region_begin rfl (fun hS => ?_)
 refine rp 0 hS ?_
 refine rp 4 hS ?_
 refine wpAnyH_all (rs := [1]) kr_ (by simp) ?_
 intro i hi
 obtain rfl := List.mem_singleton.1 hi
 refine wpOp_step rfl (fun K hK => ?_)
 clear hi hS
 go_simp
 refine (take_any 6 18 _ _ _ l _ (by rfl) ?_ ?_ (by omega) (by omega) (by omega) (by omega)).mono ?_
 ·
  simp [go_sem]
 ·
  simp [go_sem]
 rintro e w6 ⟨sp5, rfl, rfl⟩
 refine hK _ _ (wpAnyH_next (S2 := Held (fun w' => row w' (w.heap.size + 1 + 1 + 1 + 1 + 1 + 1 + 1 + 1) = (u8v (vecAt l 18 6) ++ zeros sp5 (Value.int .u8 0)).toArray)) ?_ ?_ (fun hS => ?_))
 ·
  unfold Held
  simp [go_sem]
 ·
  intro w' hS'
  unfold Held at *
  simp at hS'
  simp [hS']
 clear hK K
 refine rp 2 hS ?_
 refine rp 3 hS ?_
 refine rp 8 hS ?_
 refine wpAnyH_all (rs := [5]) kr_ (by simp) ?_
 intro i hi
 obtain rfl := List.mem_singleton.1 hi
 refine wpOp_step rfl (fun K hK => ?_)
 clear hi hS
 go_simp
 refine (take_any 4 24 _ _ _ l _ (by rfl) ?_ ?_ (by omega) (by omega) (by omega) (by omega)).mono ?_
 ·
  simp [go_sem]
 ·
  simp [go_sem]
 rintro e w7 ⟨sp6, rfl, rfl⟩
 refine hK _ _ (wpAnyH_next (S2 := Held (fun w' => row w' (w.heap.size + 1 + 1 + 1 + 1 + 1 + 1 + 1 + 1) = (u8v (vecAt l 18 6) ++ zeros sp5 (Value.int .u8 0)).toArray ∧ row w' (w.heap.size + 1 + 1 + 1 + 1 + 1 + 1 + 1 + 1 + 1) = (u8v (vecAt l 24 4) ++ zeros sp6 (Value.int .u8 0)).toArray)) ?_ ?_ (fun hS => ?_))
 ·
  unfold Held
  simp [go_sem]
 ·
  intro w' hS'
  unfold Held at *
  simp at hS'
  simp [hS']
 clear hK K
 refine rp 6 hS ?_
 refine rp 7 hS ?_
 refine wpAnyH_all (rs := [9]) kr_ (by simp) ?_
 intro i hi
 obtain rfl := List.mem_singleton.1 hi
 refine wpOp_step rfl (fun K hK => ?_)
 clear hi hS
 go_simp
 refine hK _ _ (wpAnyH_same ?_ (fun hS => ?_))
 ·
  unfold Held
  simp [go_sem]
 clear hK K
 refine rp 10 hS ?_
 refine wpAnyH_all (rs := [11]) kr_ (by simp) ?_
 intro i hi
 obtain rfl := List.mem_singleton.1 hi
 refine wpOp_step rfl (fun K hK => ?_)
 clear hi hS
 go_simp
 refine hK _ _ (wpAnyH_same ?_ (fun hS => ?_))
 ·
  unfold Held
  simp [go_sem]
 clear hK K
 refine wpAnyH_done kr_ ?_ _
 go_wp2_with fail
 ((try simp only [Exit.inBlock, Exit.then]); refine bodyPost_ret (results_2 rfl (resOk_row rfl ?_) resOk_tmp) rfl ?_; (simp [go_sem]))
 refine ⟨by simp [go_sem, arpV], ?_⟩
 (repeat (first | exact Below.refl _ _ | refine Below.al ?_ _ | refine Below.drew ?_ | refine Below.sr ?_ _ | refine Below.sc ?_ _))
theorem parse_op2 (l : List UInt8) (w : World) (hl : 28 ≤ l.length) (hl2 : l.length ≤ 10000) (hh : (vecAt l 0 6).toList = [0, 1, 8, 0, 6, 4]) (hop : numN (vecAt l 6 2).toList = 2) :
  Calls Tryz.prog 190 #[.string ⟨l.toArray⟩] w fun e w' =>
   e = .returned (.tuple #[.agg (arpV 2 (vecAt l 8 6) (vecAt l 18 6) (vecAt l 14 4) (vecAt l 24 4)).toArray, .int .i64 0]) ∧ Below w.heap.size w w' := by
 go_enter Tryz.func190, Tryz.ntmps190
 go_wp2_with fail
 refine (take_any 6 0 _ _ _ l _ (by rfl) ?_ ?_ (by omega) (by omega) (by omega) (by omega)).mono ?_
 ·
  simp [go_sem]
 ·
  simp [go_sem]
 rintro e w1 ⟨sp1, rfl, rfl⟩
 go_wp2_with fail
 refine (take_any 2 6 _ _ _ l _ (by rfl) ?_ ?_ (by omega) (by omega) (by omega) (by omega)).mono ?_
 ·
  simp [go_sem]
 ·
  simp [go_sem]
 rintro e w2 ⟨sp2, rfl, rfl⟩
 go_wp2_with fail
 refine (number_any _ _ ?_).mono ?_
 ·
  simp [go_sem]
 rintro e w3 ⟨rfl, rfl⟩
 go_wp2_with fail
 refine wp_region_begin rfl (fun hS => ?_)
 refine rp 0 hS ?_
 refine rp 4 hS ?_
 refine wpAnyH_all (rs := [1]) kr_ (by simp) ?_
 intro i hi
 obtain rfl := List.mem_singleton.1 hi
 refine wpOp_step rfl (fun K hK => ?_)
 clear hi hS
 go_simp
 refine (take_any 6 8 _ _ _ l _ (by rfl) ?_ ?_ (by omega) (by omega) (by omega) (by omega)).mono ?_
 ·
  simp [go_sem]
 ·
  simp [go_sem]
 rintro e w4 ⟨sp3, rfl, rfl⟩
 refine hK _ _ (wpAnyH_next (S2 := Held (fun w' => row w' (w.heap.size + 1 + 1 + 1 + 1 + 1 + 1) = (u8v (vecAt l 8 6) ++ zeros sp3 (Value.int .u8 0)).toArray)) ?_ ?_ (fun hS => ?_))
 ·
  unfold Held
  simp [go_sem]
 ·
  intro w' hS'
  unfold Held at *
  simp at hS'
  simp [hS']
 clear hK K
 refine rp 2 hS ?_
 refine rp 3 hS ?_
 refine rp 8 hS ?_
 refine wpAnyH_all (rs := [5]) kr_ (by simp) ?_
 intro i hi
 obtain rfl := List.mem_singleton.1 hi
 refine wpOp_step rfl (fun K hK => ?_)
 clear hi hS
 go_simp
 refine (take_any 4 14 _ _ _ l _ (by rfl) ?_ ?_ (by omega) (by omega) (by omega) (by omega)).mono ?_
 ·
  simp [go_sem]
 ·
  simp [go_sem]
 rintro e w5 ⟨sp4, rfl, rfl⟩
 refine hK _ _ (wpAnyH_next (S2 := Held (fun w' => row w' (w.heap.size + 1 + 1 + 1 + 1 + 1 + 1) = (u8v (vecAt l 8 6) ++ zeros sp3 (Value.int .u8 0)).toArray ∧ row w' (w.heap.size + 1 + 1 + 1 + 1 + 1 + 1 + 1) = (u8v (vecAt l 14 4) ++ zeros sp4 (Value.int .u8 0)).toArray)) ?_ ?_ (fun hS => ?_))
 ·
  unfold Held
  simp [go_sem]
 ·
  intro w' hS'
  unfold Held at *
  simp at hS'
  simp [hS']
 clear hK K
 refine rp 6 hS ?_
 refine rp 7 hS ?_
 refine wpAnyH_all (rs := [9]) kr_ (by simp) ?_
 intro i hi
 obtain rfl := List.mem_singleton.1 hi
 refine wpOp_step rfl (fun K hK => ?_)
 clear hi hS
 go_simp
 refine hK _ _ (wpAnyH_same ?_ (fun hS => ?_))
 ·
  unfold Held
  simp [go_sem]
 clear hK K
 refine rp 10 hS ?_
 refine wpAnyH_all (rs := [11]) kr_ (by simp) ?_
 intro i hi
 obtain rfl := List.mem_singleton.1 hi
 refine wpOp_step rfl (fun K hK => ?_)
 clear hi hS
 go_simp
 refine hK _ _ (wpAnyH_same ?_ (fun hS => ?_))
 ·
  unfold Held
  simp [go_sem]
 clear hK K
 refine wpAnyH_done kr_ ?_ _
 go_wp2_with fail
 refine wp_region_begin rfl (fun hS => ?_)
 refine rp 0 hS ?_
 refine rp 4 hS ?_
 refine wpAnyH_all (rs := [1]) kr_ (by simp) ?_
 intro i hi
 obtain rfl := List.mem_singleton.1 hi
 refine wpOp_step rfl (fun K hK => ?_)
 clear hi hS
 go_simp
 refine (take_any 6 18 _ _ _ l _ (by rfl) ?_ ?_ (by omega) (by omega) (by omega) (by omega)).mono ?_
 ·
  simp [go_sem]
 ·
  simp [go_sem]
 rintro e w6 ⟨sp5, rfl, rfl⟩
 refine hK _ _ (wpAnyH_next (S2 := Held (fun w' => row w' (w.heap.size + 1 + 1 + 1 + 1 + 1 + 1 + 1 + 1) = (u8v (vecAt l 18 6) ++ zeros sp5 (Value.int .u8 0)).toArray)) ?_ ?_ (fun hS => ?_))
 ·
  unfold Held
  simp [go_sem]
 ·
  intro w' hS'
  unfold Held at *
  simp at hS'
  simp [hS']
 clear hK K
 refine rp 2 hS ?_
 refine rp 3 hS ?_
 refine rp 8 hS ?_
 refine wpAnyH_all (rs := [5]) kr_ (by simp) ?_
 intro i hi
 obtain rfl := List.mem_singleton.1 hi
 refine wpOp_step rfl (fun K hK => ?_)
 clear hi hS
 go_simp
 refine (take_any 4 24 _ _ _ l _ (by rfl) ?_ ?_ (by omega) (by omega) (by omega) (by omega)).mono ?_
 ·
  simp [go_sem]
 ·
  simp [go_sem]
 rintro e w7 ⟨sp6, rfl, rfl⟩
 refine hK _ _ (wpAnyH_next (S2 := Held (fun w' => row w' (w.heap.size + 1 + 1 + 1 + 1 + 1 + 1 + 1 + 1) = (u8v (vecAt l 18 6) ++ zeros sp5 (Value.int .u8 0)).toArray ∧ row w' (w.heap.size + 1 + 1 + 1 + 1 + 1 + 1 + 1 + 1 + 1) = (u8v (vecAt l 24 4) ++ zeros sp6 (Value.int .u8 0)).toArray)) ?_ ?_ (fun hS => ?_))
 ·
  unfold Held
  simp [go_sem]
 ·
  intro w' hS'
  unfold Held at *
  simp at hS'
  simp [hS']
 clear hK K
 refine rp 6 hS ?_
 refine rp 7 hS ?_
 refine wpAnyH_all (rs := [9]) kr_ (by simp) ?_
 intro i hi
 obtain rfl := List.mem_singleton.1 hi
 refine wpOp_step rfl (fun K hK => ?_)
 clear hi hS
 go_simp
 refine hK _ _ (wpAnyH_same ?_ (fun hS => ?_))
 ·
  unfold Held
  simp [go_sem]
 clear hK K
 refine rp 10 hS ?_
 refine wpAnyH_all (rs := [11]) kr_ (by simp) ?_
 intro i hi
 obtain rfl := List.mem_singleton.1 hi
 refine wpOp_step rfl (fun K hK => ?_)
 clear hi hS
 go_simp
 refine hK _ _ (wpAnyH_same ?_ (fun hS => ?_))
 ·
  unfold Held
  simp [go_sem]
 clear hK K
 refine wpAnyH_done kr_ ?_ _
 go_wp2_with fail
 ((try simp only [Exit.inBlock, Exit.then]); refine bodyPost_ret (results_2 rfl (resOk_row rfl ?_) resOk_tmp) rfl ?_; (simp [go_sem]))
 refine ⟨by simp [go_sem, arpV], ?_⟩
 (repeat (first | exact Below.refl _ _ | refine Below.al ?_ _ | refine Below.drew ?_ | refine Below.sr ?_ _ | refine Below.sc ?_ _))
end
section
open Go.RowKit
theorem parse_short (l : List UInt8) (w : World) (hl : l.length < 28) :
  Calls Tryz.prog 190 #[.string ⟨l.toArray⟩] w fun e w' => e = .returned (.tuple #[.agg (Value.int .i64 0 :: zeros 20 (.int .u8 0)).toArray, .int .i64 2]) ∧ Below w.heap.size w w' := by
 go_enter Tryz.func190, Tryz.ntmps190
 go_wp2_with fail
 ((try simp only [Exit.inBlock, Exit.then]); refine bodyPost_ret (results_2 rfl (resOk_row rfl ?_) resOk_tmp) rfl ?_; (simp [go_sem]))
 refine ⟨by simp [go_sem], ?_⟩
 (repeat (first | exact Below.refl _ _ | refine Below.al ?_ _ | refine Below.drew ?_ | refine Below.sr ?_ _ | refine Below.sc ?_ _))
theorem parse_head (l : List UInt8) (w : World) (hl : 28 ≤ l.length) (hl2 : l.length ≤ 10000) (hh : ((vecAt l 0 6).toList == [0, 1, 8, 0, 6, 4]) = false) :
  Calls Tryz.prog 190 #[.string ⟨l.toArray⟩] w fun e w' => e = .returned (.tuple #[.agg (Value.int .i64 0 :: zeros 20 (.int .u8 0)).toArray, .int .i64 3]) ∧ Below w.heap.size w w' := by
 go_enter Tryz.func190, Tryz.ntmps190
 go_wp2_with fail
 refine (take_any 6 0 _ _ _ l _ (by rfl) ?_ ?_ (by omega) (by omega) (by omega) (by omega)).mono ?_
 ·
  simp [go_sem]
 ·
  simp [go_sem]
 rintro e w1 ⟨sp1, rfl, rfl⟩
 go_wp2_with fail
 refine (take_any 2 6 _ _ _ l _ (by rfl) ?_ ?_ (by omega) (by omega) (by omega) (by omega)).mono ?_
 ·
  simp [go_sem]
 ·
  simp [go_sem]
 rintro e w2 ⟨sp2, rfl, rfl⟩
 go_wp2_with fail
 refine (number_any _ _ ?_).mono ?_
 ·
  simp [go_sem]
 rintro e w3 ⟨rfl, rfl⟩
 go_wp2_with fail
 ((try simp only [Exit.inBlock, Exit.then]); refine bodyPost_ret (results_2 rfl (resOk_row rfl ?_) resOk_tmp) rfl ?_; (simp [go_sem]))
 refine ⟨by simp [go_sem], ?_⟩
 (repeat (first | exact Below.refl _ _ | refine Below.al ?_ _ | refine Below.drew ?_ | refine Below.sr ?_ _ | refine Below.sc ?_ _))
theorem parse_opbad (l : List UInt8) (n : Nat) (w : World) (hl : 28 ≤ l.length) (hl2 : l.length ≤ 10000) (hh : (vecAt l 0 6).toList = [0, 1, 8, 0, 6, 4]) (hn : numN (vecAt l 6 2).toList = n) (h1 : ((n : Int) != 1) = true) (h2 : ((n : Int) != 2) = true) :
  Calls Tryz.prog 190 #[.string ⟨l.toArray⟩] w fun e w' => e = .returned (.tuple #[.agg (Value.int .i64 0 :: zeros 20 (.int .u8 0)).toArray, .int .i64 3]) ∧ Below w.heap.size w w' := by
 go_enter Tryz.func190, Tryz.ntmps190
 go_wp2_with fail
 refine (take_any 6 0 _ _ _ l _ (by rfl) ?_ ?_ (by omega) (by omega) (by omega) (by omega)).mono ?_
 ·
  simp [go_sem]
 ·
  simp [go_sem]
 rintro e w1 ⟨sp1, rfl, rfl⟩
 go_wp2_with fail
 refine (take_any 2 6 _ _ _ l _ (by rfl) ?_ ?_ (by omega) (by omega) (by omega) (by omega)).mono ?_
 ·
  simp [go_sem]
 ·
  simp [go_sem]
 rintro e w2 ⟨sp2, rfl, rfl⟩
 go_wp2_with fail
 refine (number_any _ _ ?_).mono ?_
 ·
  simp [go_sem]
 rintro e w3 ⟨rfl, rfl⟩
 go_wp2_with fail
 ((try simp only [Exit.inBlock, Exit.then]); refine bodyPost_ret (results_2 rfl (resOk_row rfl ?_) resOk_tmp) rfl ?_; (simp [go_sem]))
 refine ⟨by simp [go_sem], ?_⟩
 (repeat (first | exact Below.refl _ _ | refine Below.al ?_ _ | refine Below.drew ?_ | refine Below.sr ?_ _ | refine Below.sc ?_ _))
theorem print_any (op : Nat) (mac tgt : Vector UInt8 6) (ip want : Vector UInt8 4) (w : World) (hop : op = 1 ∨ op = 2) :
  Calls Tryz.prog 244 #[.agg (arpV op mac tgt ip want).toArray] w fun e w' => e = .returned (.tuple #[.string ⟨(arpS op mac tgt ip want).toArray⟩, .int .i64 0]) ∧ Below w.heap.size w w' := by
 rcases hop with rfl | rfl
 ·
  unfold arpV
  show Calls Tryz.prog 244 #[.agg (Value.int IntKind.i64 1 :: (u8v mac ++ (u8v tgt ++ (u8v ip ++ u8v want)))).toArray] w _
  go_enter Tryz.func244, Tryz.ntmps244
  go_wp2_with fail
  go_region_held3 (fun w' => row w' w.heap.size = (Value.int IntKind.i64 1 :: (u8v mac ++ (u8v tgt ++ (u8v ip ++ u8v want)))).toArray ∧ w.heap.size < w'.heap.size ∧ Below w.heap.size w w') (first | (refine ⟨by simp [go_sem], by simp, ?_⟩; (repeat (first | exact Below.refl _ _ | refine Below.al ?_ _ | refine Below.drew ?_ | refine Below.sr ?_ _ | refine Below.sc ?_ _)); done) | (refine ⟨by rw [row_below hb1 (by simp)]; simp [go_sem], by have := (hb1).size; simp at this; omega, ?_⟩; refine Below.trans ?_ (Below.mono hb1 (by simp)); (repeat (first | exact Below.refl _ _ | refine Below.al ?_ _ | refine Below.drew ?_ | refine Below.sr ?_ _ | refine Below.sc ?_ _)); done)) (first | (go_at_call 117; refine (two_any _ _ (by omega) (by omega)).mono ?_; rintro e w1 ⟨rfl, hb1⟩) | fail)
  go_wp2
  go_ret2
  refine ⟨by simp [arpS], ?_⟩
  refine Below.trans ?_ (Below.mono hb1 (by simp)); (repeat (first | exact Below.refl _ _ | refine Below.al ?_ _ | refine Below.drew ?_ | refine Below.sr ?_ _ | refine Below.sc ?_ _))
 ·
  unfold arpV
  show Calls Tryz.prog 244 #[.agg (Value.int IntKind.i64 2 :: (u8v mac ++ (u8v tgt ++ (u8v ip ++ u8v want)))).toArray] w _
  go_enter Tryz.func244, Tryz.ntmps244
  go_wp2_with fail
  go_region_held3 (fun w' => row w' w.heap.size = (Value.int IntKind.i64 2 :: (u8v mac ++ (u8v tgt ++ (u8v ip ++ u8v want)))).toArray ∧ w.heap.size < w'.heap.size ∧ Below w.heap.size w w') (first | (refine ⟨by simp [go_sem], by simp, ?_⟩; (repeat (first | exact Below.refl _ _ | refine Below.al ?_ _ | refine Below.drew ?_ | refine Below.sr ?_ _ | refine Below.sc ?_ _)); done) | (refine ⟨by rw [row_below hb1 (by simp)]; simp [go_sem], by have := (hb1).size; simp at this; omega, ?_⟩; refine Below.trans ?_ (Below.mono hb1 (by simp)); (repeat (first | exact Below.refl _ _ | refine Below.al ?_ _ | refine Below.drew ?_ | refine Below.sr ?_ _ | refine Below.sc ?_ _)); done)) (first | (go_at_call 117; refine (two_any _ _ (by omega) (by omega)).mono ?_; rintro e w1 ⟨rfl, hb1⟩) | fail)
  go_wp2
  go_ret2
  refine ⟨by simp [arpS], ?_⟩
  refine Below.trans ?_ (Below.mono hb1 (by simp)); (repeat (first | exact Below.refl _ _ | refine Below.al ?_ _ | refine Below.drew ?_ | refine Below.sr ?_ _ | refine Below.sc ?_ _))
end
section
open Go.ChangeShapes Go.WideShapes Go.ChangeAt Go.RowKit
theorem vecAt_app {n : Nat} (a c : List UInt8) (v : Vector UInt8 n) (k : Nat) (h : a.length = k) : vecAt (a ++ (v.toList ++ c)) k n = v := by
 apply Vector.toList_inj.1
 rw [vecAt_toList _ _ _ (by simp; omega)]
 subst h
 rw [List.drop_left, List.take_left' (by simp)]
theorem arpS_length (op : Nat) (mac tgt : Vector UInt8 6) (ip want : Vector UInt8 4) : (arpS op mac tgt ip want).length = 28 := by simp [arpS]
section
variable (op : Nat) (mac tgt : Vector UInt8 6) (ip want : Vector UInt8 4) (more : List UInt8)
theorem arpS_head : (vecAt (arpS op mac tgt ip want ++ more) 0 6).toList = [0, 1, 8, 0, 6, 4] := by
 rw [vecAt_toList _ _ _ (by simp [arpS])]
 simp [arpS]
theorem arpS_op : (vecAt (arpS op mac tgt ip want ++ more) 6 2).toList = bytesN op 2 := by
 rw [vecAt_toList _ _ _ (by simp [arpS])]
 simp [arpS, List.drop_append, List.take_append, List.drop_of_length_le, List.take_of_length_le]
theorem arpS_mac : vecAt (arpS op mac tgt ip want ++ more) 8 6 = mac := by
 have : arpS op mac tgt ip want ++ more = ([0, 1, 8, 0, 6, 4] ++ bytesN op 2) ++ (mac.toList ++ (ip.toList ++ (tgt.toList ++ (want.toList ++ more)))) := by simp [arpS]
 rw [this, vecAt_app _ _ _ _ (by simp)]
theorem arpS_ip : vecAt (arpS op mac tgt ip want ++ more) 14 4 = ip := by
 have : arpS op mac tgt ip want ++ more = ([0, 1, 8, 0, 6, 4] ++ (bytesN op 2 ++ mac.toList)) ++ (ip.toList ++ (tgt.toList ++ (want.toList ++ more))) := by simp [arpS]
 rw [this, vecAt_app _ _ _ _ (by simp)]
theorem arpS_tgt : vecAt (arpS op mac tgt ip want ++ more) 18 6 = tgt := by
 have : arpS op mac tgt ip want ++ more = ([0, 1, 8, 0, 6, 4] ++ (bytesN op 2 ++ (mac.toList ++ ip.toList))) ++ (tgt.toList ++ (want.toList ++ more)) := by simp [arpS]
 rw [this, vecAt_app _ _ _ _ (by simp)]
theorem arpS_want : vecAt (arpS op mac tgt ip want ++ more) 24 4 = want := by
 have : arpS op mac tgt ip want ++ more = ([0, 1, 8, 0, 6, 4] ++ (bytesN op 2 ++ (mac.toList ++ (ip.toList ++ tgt.toList)))) ++ (want.toList ++ more) := by simp [arpS]
 rw [this, vecAt_app _ _ _ _ (by simp)]
end
theorem parse_print (op : Nat) (mac tgt : Vector UInt8 6) (ip want : Vector UInt8 4) (more : List UInt8) (w : World) (hop : op = 1 ∨ op = 2) (hm : more.length ≤ 1000) :
  Calls Tryz.prog 190 #[.string ⟨(arpS op mac tgt ip want ++ more).toArray⟩] w fun e w' => e = .returned (.tuple #[.agg (arpV op mac tgt ip want).toArray, .int .i64 0]) ∧ Below w.heap.size w w' := by
 have hl : (arpS op mac tgt ip want ++ more).length = 28 + more.length := by rw [List.length_append, arpS_length]
 have hh := arpS_head op mac tgt ip want more
 have ho : numN (vecAt (arpS op mac tgt ip want ++ more) 6 2).toList = op := by
  rw [arpS_op, numN_bytesN]
  rcases hop with rfl | rfl <;> rfl
 rcases hop with rfl | rfl
 ·
  have := parse_op1 _ w (by omega) (by omega) hh ho
  rwa [arpS_mac, arpS_ip, arpS_tgt, arpS_want] at this
 ·
  have := parse_op2 _ w (by omega) (by omega) hh ho
  rwa [arpS_mac, arpS_ip, arpS_tgt, arpS_want] at this
end
section
open Go.RowKit
@[simp] theorem zeros_size (n : Nat) (v : Value) : (zeros n v).toArray.size = n := by simp [zeros]
def frameV (dst src : Vector UInt8 6) (ty : Int) (body : List UInt8) : List Value := u8v dst ++ (u8v src ++ [.int .i64 ty, .string ⟨body.toArray⟩])
def allOnes : Vector UInt8 6 := Vector.replicate 6 255
@[simp, go_sem] theorem ones6 (t : List Value) : Value.int .u8 255 :: Value.int .u8 255 :: Value.int .u8 255 :: Value.int .u8 255 :: Value.int .u8 255 :: Value.int .u8 255 :: t = u8v allOnes ++ t := rfl
theorem answer_any (op : Int) (mac tgt other : Vector UInt8 6) (ip want : Vector UInt8 4) (w : World) :
  Calls Tryz.prog 192 #[.agg (arpV op mac tgt ip want).toArray, .agg (u8v other).toArray] w fun e w' => e = .returned (.agg (frameV mac other 2054 (arpS 2 other mac want ip)).toArray) ∧ Below w.heap.size w w' := by
 have Hp : ∀ w, Calls Tryz.prog 244 #[.agg (Value.int .i64 2 :: (u8v other ++ (u8v mac ++ (u8v want ++ u8v ip)))).toArray] w _ := fun w => print_any 2 other mac want ip w (Or.inr rfl)
 have HP := h_ Hp
 clear Hp
 unfold arpV
 go_enter Tryz.func192, Tryz.ntmps192
 go_wp2_with fail
 (try simp only [u8v_six, u8v_four, List.append_nil, ones6])
 refine (HP.out _).mono ?_
 rintro e w1 ⟨rfl, hb1⟩
 have z1 := (hb1).size
 try simp at z1
 have ra : row w1 (w.heap.size) = (Value.int .i64 op :: (u8v mac ++ (u8v tgt ++ (u8v ip ++ u8v want)))).toArray := by rw [row_below hb1 (by first | (simp; done) | (simp; omega) | omega)]; simp [go_sem]; (try rfl)
 have rb : row w1 (w.heap.size + 1) = (u8v other).toArray := by rw [row_below hb1 (by first | (simp; done) | (simp; omega) | omega)]; simp [go_sem]; (try rfl)
 have rc : row w1 (w.heap.size + 2) = (zeros 12 (Value.int .u8 0) ++ [Value.int .i64 0, .string ⟨#[]⟩]).toArray := by rw [row_below hb1 (by first | (simp; done) | (simp; omega) | omega)]; simp [go_sem]; (try rfl)
 replace hb1 := below_of hb1 (show Below (w).heap.size w _ from by (repeat (first | exact Below.refl _ _ | refine Below.al ?_ _ | refine Below.drew ?_ | refine Below.sr ?_ _ | refine Below.sc ?_ _))) (by first | (simp; done) | (simp; omega) | omega)
 go_wp2_with fail
 (try simp only [u8v_six, u8v_four, List.append_nil, ones6])
 have hfin := row_setRow_same (w := w1) (g := w.heap.size + 1 + 1) (c := (u8v mac ++ (u8v other ++ [Value.int .i64 2054, .string ⟨(arpS 2 other mac want ip).toArray⟩])).toArray) (by rw [rc]; simp) (by rw [rc]; simp)
 (try simp only [Exit.inBlock, Exit.then])
 refine bodyPost_ret (results_1 rfl (resOk_row rfl ?_)) rfl ?_
 ·
  rw [hfin]
  simp
 refine ⟨by rw [hfin]; simp [frameV], ?_⟩
 refine Below.setRow hb1 (by first | (simp; done) | (simp; omega) | omega) _
end
end Go.Proofs.YtfopoijikdmiaaaGreatDoor
