/- Texts of this proof, merged: ArpR, ArpR2. -/
import Derived.Test.YtckckabedgpbiaaGreatJ11
set_option linter.unusedSimpArgs false
set_option linter.unusedVariables false
set_option maxRecDepth 4000
namespace Go.Proofs.YtckckabedgpbiaaGreat
section
open Go.RowKit
def gone (l : List UInt8) (o n k : Nat) : List UInt8 := (l.drop o).take k ++ List.replicate (n - k) 0
theorem gone_zero (l : List UInt8) (o n : Nat) : gone l o n 0 = List.replicate n 0 := by simp [gone]
theorem gone_full (l : List UInt8) (o n : Nat) (h : o + n ≤ l.length) : gone l o n n = (vecAt l o n).toList := by simp [gone, vecAt_toList l o n h]
theorem gone_length (l : List UInt8) (o n k : Nat) (h : o + n ≤ l.length) (hk : k ≤ n) : (gone l o n k).length = n := by simp [gone]; omega
theorem gone_set (l : List UInt8) (o n k : Nat) (h : o + n ≤ l.length) (hk : k < n) : (gone l o n k).set k (l.getD (o + k) 0) = gone l o n (k + 1) := by
 have e1 : (l.drop o).take (k + 1) = (l.drop o).take k ++ [l.getD (o + k) 0] := by
  rw [List.take_succ_eq_append_getElem (by simp; omega)]
  simp [List.getD_eq_getElem?_getD, List.getElem?_eq_getElem (show o + k < l.length by omega)]
 have e2 : n - k = (n - (k + 1)) + 1 := by omega
 rw [gone, gone, e1, e2, List.replicate_succ, List.set_append_right _ _ (by simp; omega)]
 have e3 : k - ((l.drop o).take k).length = 0 := by simp; omega
 rw [e3]
 simp
theorem put1 (P Q : List Value) (l : List UInt8) (o n k i : Nat) (hi : i = P.length + k) (h : o + n ≤ l.length) (hk : k < n) :
  (P ++ (u8s (gone l o n k) ++ Q)).set i (.int .u8 ((l[o + k]'(by omega)).toNat : Int)) = P ++ (u8s (gone l o n (k + 1)) ++ Q) := by
 have hg := gone_length l o n k h (by omega)
 have e : l.getD (o + k) 0 = l[o + k]'(by omega) := by simp [List.getD_eq_getElem?_getD, List.getElem?_eq_getElem (show o + k < l.length by omega)]
 rw [hi, List.set_append_right _ _ (by omega), Nat.add_sub_cancel_left, List.set_append_left _ _ (by simp [u8s, hg]; omega), ← gone_set l o n k h hk, e]
 simp [u8s, List.map_set]
theorem put6 (x : Value) (Q : List Value) (l : List UInt8) (k : Nat) (h : 28 ≤ l.length) (hk : k < 6) :
  ((x :: (u8s (gone l 8 6 k) ++ (u8s (gone l 18 6 k) ++ Q))).set (1 + k) (.int .u8 ((l[8 + k]'(by omega)).toNat : Int))).set (7 + k) (.int .u8 ((l[18 + k]'(by omega)).toNat : Int)) = x :: (u8s (gone l 8 6 (k + 1)) ++ (u8s (gone l 18 6 (k + 1)) ++ Q)) := by
 have a := put1 [x] (u8s (gone l 18 6 k) ++ Q) l 8 6 k (1 + k) (by simp) (by omega) hk
 have b := put1 ([x] ++ u8s (gone l 8 6 (k + 1))) Q l 18 6 k (7 + k) (by simp [u8s, gone_length l 8 6 (k + 1) (by omega) (by omega)]) (by omega) hk
 simp only [List.cons_append, List.nil_append] at a b
 rw [a, b]
theorem put4 (x : Value) (A B : List UInt8) (ha : A.length = 6) (hb : B.length = 6) (l : List UInt8) (k : Nat) (h : 28 ≤ l.length) (hk : k < 4) :
  ((x :: (u8s A ++ (u8s B ++ (u8s (gone l 14 4 k) ++ u8s (gone l 24 4 k))))).set (13 + k) (.int .u8 ((l[14 + k]'(by omega)).toNat : Int))).set (17 + k) (.int .u8 ((l[24 + k]'(by omega)).toNat : Int)) = x :: (u8s A ++ (u8s B ++ (u8s (gone l 14 4 (k + 1)) ++ u8s (gone l 24 4 (k + 1))))) := by
 have a := put1 (x :: (u8s A ++ u8s B)) (u8s (gone l 24 4 k)) l 14 4 k (13 + k) (by simp [u8s, ha, hb]) (by omega) hk
 have b := put1 (x :: (u8s A ++ (u8s B ++ u8s (gone l 14 4 (k + 1))))) [] l 24 4 k (17 + k) (by simp [u8s, ha, hb, gone_length l 14 4 (k + 1) (by omega) (by omega)]) (by omega) hk
 simp only [List.cons_append, List.append_nil, List.append_assoc] at a b
 rw [a, b]
set_option maxRecDepth 20000 in
set_option maxHeartbeats 2000000 in
theorem refParse_short (l : List UInt8) (w : World) (hl : l.length < 28) :
  Calls Tryz.prog 79 #[.string ⟨l.toArray⟩] w fun e w' => e = .returned (.tuple #[.agg (Value.int .i64 0 :: zeros 20 (.int .u8 0)).toArray, .int .i64 2]) ∧ Below w.heap.size w w' := by
 go_enter Tryz.func79, Tryz.ntmps79
 go_wp2_with fail
 ((try simp only [Exit.inBlock, Exit.then]); refine bodyPost_ret (results_2 rfl (resOk_row rfl ?_) resOk_tmp) rfl ?_; (simp [go_sem]))
 refine ⟨by simp [go_sem], ?_⟩
 (repeat (first | exact Below.refl _ _ | refine Below.al ?_ _ | refine Below.drew ?_ | refine Below.sr ?_ _ | refine Below.sc ?_ _))
set_option maxRecDepth 20000 in
set_option maxHeartbeats 2000000 in
theorem refParse_op1 (l : List UInt8) (w : World) (hl : 28 ≤ l.length) (hl2 : l.length ≤ 10000) (h7 : l.take 7 = [0, 1, 8, 0, 6, 4, 0]) (hop : (l[7]'(by omega)).toNat = 1) :
  Calls Tryz.prog 79 #[.string ⟨l.toArray⟩] w fun e w' => e = .returned (.tuple #[.agg (arpV 1 (vecAt l 8 6) (vecAt l 18 6) (vecAt l 14 4) (vecAt l 24 4)).toArray, .int .i64 0]) ∧ Below w.heap.size w w' := by
 have hl3 : (28 : Int) ≤ l.length := by omega
 have hl4 : (l.length : Int) ≤ 10000 := by omega
 go_enter Tryz.func79, Tryz.ntmps79
 go_wp2_with fail
 go_loopw [5] (fun i wr => ∃ k : Nat, k ≤ 6 ∧ i = .int .i64 k ∧ row wr w.heap.size = (Value.int .i64 0 :: zeros 20 (Value.int .u8 0)).toArray ∧ row wr (w.heap.size + 1) = (Value.int .i64 1 :: (u8s (gone l 8 6 k) ++ (u8s (gone l 18 6 k) ++ zeros 8 (Value.int .u8 0)))).toArray ∧ Below w.heap.size w wr) (fun i _ => 6 - (intOf i).toNat)
 case atStart =>
  refine ⟨0, by omega, rfl, by simp [go_sem], ?_, ?_⟩
  ·
   simp [go_sem, gone_zero, u8s]
   rfl
  ·
   (repeat (first | exact Below.refl _ _ | refine Below.al ?_ _ | refine Below.drew ?_ | refine Below.sr ?_ _ | refine Below.sc ?_ _))
 case round =>
  obtain ⟨k, hk, rfl, hR, hX, hbel⟩ := hrel
  by_cases hlt : k < 6
  ·
   have h1 : (k : Int) < 6 := by omega
   have g1 := gone_length l 8 6 k (by omega) (by omega)
   have g2 := gone_length l 18 6 k (by omega) (by omega)
   have f1 : 1 + k < 21 := by omega
   have f2 : 7 + k < 21 := by omega
   have f3 : k < 20 := by omega
   have f4 : k < 14 := by omega
   have f5 : 1 + k < (row wr (w.heap.size + 1)).size := by rw [hX]; simp [g1, g2]; omega
   go_wp2_with fail
   rw [put6 _ _ _ _ hl hlt]
   go_roundw
   case rel =>
    refine ⟨k + 1, by omega, rfl, by simp [go_sem, hR], row_setRow_same (by rw [hX]; simp) (by rw [hX]; simp [gone_length l _ 6 _ (show 8 + 6 ≤ l.length by omega), gone_length l _ 6 _ (show 18 + 6 ≤ l.length by omega), hlt, hk, Nat.succ_le_of_lt hlt]), ?_⟩
    refine Below.setRow hbel (by first | (simp; done) | (simp; omega) | omega) _
   case measure => simp [intOf]; omega
  ·
   obtain rfl : k = 6 := by omega
   have g1 := gone_length l 8 6 6 (by omega) (by omega)
   have g2 := gone_length l 18 6 6 (by omega) (by omega)
   rw [show ((6 : Nat) : Int) = 6 from rfl]
   go_wp2_with fail
   go_loopw [6] (fun i wr => ∃ k : Nat, k ≤ 4 ∧ i = .int .i64 k ∧ row wr w.heap.size = (Value.int .i64 0 :: zeros 20 (Value.int .u8 0)).toArray ∧ row wr (w.heap.size + 1) = (Value.int .i64 1 :: (u8s (gone l 8 6 6) ++ (u8s (gone l 18 6 6) ++ (u8s (gone l 14 4 k) ++ u8s (gone l 24 4 k))))).toArray ∧ Below w.heap.size w wr) (fun i _ => 4 - (intOf i).toNat)
   case atStart =>
    refine ⟨0, by omega, rfl, hR, ?_, hbel⟩
    rw [hX]
    simp [gone_zero, u8s]
    rfl
   case round =>
    clear hX hR hbel hk
    obtain ⟨k, hk, rfl, hR, hX, hbel⟩ := hrel
    by_cases hlt : k < 4
    ·
     have h1 : (k : Int) < 4 := by omega
     have g3 := gone_length l 14 4 k (by omega) (by omega)
     have g4 := gone_length l 24 4 k (by omega) (by omega)
     have f1 : 13 + k < 21 := by omega
     have f2 : 17 + k < 21 := by omega
     have f3 : k < 8 := by omega
     have f4 : k < 4 := by omega
     have f5 : 13 + k < (row wr (w.heap.size + 1)).size := by rw [hX]; simp [g1, g2, g3, g4]; omega
     go_wp2_with fail
     rw [put4 _ _ _ g1 g2 _ _ hl hlt]
     go_roundw
     case rel =>
      refine ⟨k + 1, by omega, rfl, by simp [go_sem, hR], row_setRow_same (by rw [hX]; simp) (by rw [hX]; simp [gone_length l _ 4 _ (show 14 + 4 ≤ l.length by omega), gone_length l _ 4 _ (show 24 + 4 ≤ l.length by omega), hlt, hk, Nat.succ_le_of_lt hlt]), ?_⟩
      refine Below.setRow hbel (by first | (simp; done) | (simp; omega) | omega) _
     case measure => simp [intOf]; omega
    ·
     obtain rfl : k = 4 := by omega
     rw [gone_full l 8 6 (by omega), gone_full l 18 6 (by omega), gone_full l 14 4 (by omega), gone_full l 24 4 (by omega)] at hX
     replace hX : row wr (w.heap.size + 1) = (Value.int .i64 1 :: (u8v (vecAt l 8 6) ++ (u8v (vecAt l 18 6) ++ (u8v (vecAt l 14 4) ++ u8v (vecAt l 24 4))))).toArray := hX
     rw [show ((4 : Nat) : Int) = 4 from rfl]
     go_wp2_with fail
     have hfin := row_setRow_same (w := wr) (g := w.heap.size) (c := (Value.int .i64 1 :: (u8v (vecAt l 8 6) ++ (u8v (vecAt l 18 6) ++ (u8v (vecAt l 14 4) ++ u8v (vecAt l 24 4))))).toArray) (by simp [hR]) (by simp [hR])
     (try simp only [Exit.inBlock, Exit.then])
     refine bodyPost_ret (results_2 rfl (resOk_row rfl ?_) resOk_tmp) rfl ?_
     ·
      rw [hfin]
      simp
     refine ⟨by simp [go_sem, arpV, hfin], ?_⟩
     refine Below.setRow hbel (by first | (simp; done) | (simp; omega) | omega) _
set_option maxRecDepth 20000 in
set_option maxHeartbeats 2000000 in
theorem refParse_op2 (l : List UInt8) (w : World) (hl : 28 ≤ l.length) (hl2 : l.length ≤ 10000) (h7 : l.take 7 = [0, 1, 8, 0, 6, 4, 0]) (hop : (l[7]'(by omega)).toNat = 2) :
  Calls Tryz.prog 79 #[.string ⟨l.toArray⟩] w fun e w' => e = .returned (.tuple #[.agg (arpV 2 (vecAt l 8 6) (vecAt l 18 6) (vecAt l 14 4) (vecAt l 24 4)).toArray, .int .i64 0]) ∧ Below w.heap.size w w' := by
 have hl3 : (28 : Int) ≤ l.length := by omega
 have hl4 : (l.length : Int) ≤ 10000 := by omega
 go_enter Tryz.func79, Tryz.ntmps79
 go_wp2_with fail
 go_loopw [5] (fun i wr => ∃ k : Nat, k ≤ 6 ∧ i = .int .i64 k ∧ row wr w.heap.size = (Value.int .i64 0 :: zeros 20 (Value.int .u8 0)).toArray ∧ row wr (w.heap.size + 1) = (Value.int .i64 2 :: (u8s (gone l 8 6 k) ++ (u8s (gone l 18 6 k) ++ zeros 8 (Value.int .u8 0)))).toArray ∧ Below w.heap.size w wr) (fun i _ => 6 - (intOf i).toNat)
 case atStart =>
  refine ⟨0, by omega, rfl, by simp [go_sem], ?_, ?_⟩
  ·
   simp [go_sem, gone_zero, u8s]
   rfl
  ·
   (repeat (first | exact Below.refl _ _ | refine Below.al ?_ _ | refine Below.drew ?_ | refine Below.sr ?_ _ | refine Below.sc ?_ _))
 case round =>
  obtain ⟨k, hk, rfl, hR, hX, hbel⟩ := hrel
  by_cases hlt : k < 6
  ·
   have h1 : (k : Int) < 6 := by omega
   have g1 := gone_length l 8 6 k (by omega) (by omega)
   have g2 := gone_length l 18 6 k (by omega) (by omega)
   have f1 : 1 + k < 21 := by omega
   have f2 : 7 + k < 21 := by omega
   have f3 : k < 20 := by omega
   have f4 : k < 14 := by omega
   have f5 : 1 + k < (row wr (w.heap.size + 1)).size := by rw [hX]; simp [g1, g2]; omega
   go_wp2_with fail
   rw [put6 _ _ _ _ hl hlt]
   go_roundw
   case rel =>
    refine ⟨k + 1, by omega, rfl, by simp [go_sem, hR], row_setRow_same (by rw [hX]; simp) (by rw [hX]; simp [gone_length l _ 6 _ (show 8 + 6 ≤ l.length by omega), gone_length l _ 6 _ (show 18 + 6 ≤ l.length by omega), hlt, hk, Nat.succ_le_of_lt hlt]), ?_⟩
    refine Below.setRow hbel (by first | (simp; done) | (simp; omega) | omega) _
   case measure => simp [intOf]; omega
  ·
   obtain rfl : k = 6 := by omega
   have g1 := gone_length l 8 6 6 (by omega) (by omega)
   have g2 := gone_length l 18 6 6 (by omega) (by omega)
   rw [show ((6 : Nat) : Int) = 6 from rfl]
   go_wp2_with fail
   go_loopw [6] (fun i wr => ∃ k : Nat, k ≤ 4 ∧ i = .int .i64 k ∧ row wr w.heap.size = (Value.int .i64 0 :: zeros 20 (Value.int .u8 0)).toArray ∧ row wr (w.heap.size + 1) = (Value.int .i64 2 :: (u8s (gone l 8 6 6) ++ (u8s (gone l 18 6 6) ++ (u8s (gone l 14 4 k) ++ u8s (gone l 24 4 k))))).toArray ∧ Below w.heap.size w wr) (fun i _ => 4 - (intOf i).toNat)
   case atStart =>
    refine ⟨0, by omega, rfl, hR, ?_, hbel⟩
    rw [hX]
    simp [gone_zero, u8s]
    rfl
   case round =>
    clear hX hR hbel hk
    obtain ⟨k, hk, rfl, hR, hX, hbel⟩ := hrel
    by_cases hlt : k < 4
    ·
     have h1 : (k : Int) < 4 := by omega
     have g3 := gone_length l 14 4 k (by omega) (by omega)
     have g4 := gone_length l 24 4 k (by omega) (by omega)
     have f1 : 13 + k < 21 := by omega
     have f2 : 17 + k < 21 := by omega
     have f3 : k < 8 := by omega
     have f4 : k < 4 := by omega
     have f5 : 13 + k < (row wr (w.heap.size + 1)).size := by rw [hX]; simp [g1, g2, g3, g4]; omega
     go_wp2_with fail
     rw [put4 _ _ _ g1 g2 _ _ hl hlt]
     go_roundw
     case rel =>
      refine ⟨k + 1, by omega, rfl, by simp [go_sem, hR], row_setRow_same (by rw [hX]; simp) (by rw [hX]; simp [gone_length l _ 4 _ (show 14 + 4 ≤ l.length by omega), gone_length l _ 4 _ (show 24 + 4 ≤ l.length by omega), hlt, hk, Nat.succ_le_of_lt hlt]), ?_⟩
      refine Below.setRow hbel (by first | (simp; done) | (simp; omega) | omega) _
     case measure => simp [intOf]; omega
    ·
     obtain rfl : k = 4 := by omega
     rw [gone_full l 8 6 (by omega), gone_full l 18 6 (by omega), gone_full l 14 4 (by omega), gone_full l 24 4 (by omega)] at hX
     replace hX : row wr (w.heap.size + 1) = (Value.int .i64 2 :: (u8v (vecAt l 8 6) ++ (u8v (vecAt l 18 6) ++ (u8v (vecAt l 14 4) ++ u8v (vecAt l 24 4))))).toArray := hX
     rw [show ((4 : Nat) : Int) = 4 from rfl]
     go_wp2_with fail
     have hfin := row_setRow_same (w := wr) (g := w.heap.size) (c := (Value.int .i64 2 :: (u8v (vecAt l 8 6) ++ (u8v (vecAt l 18 6) ++ (u8v (vecAt l 14 4) ++ u8v (vecAt l 24 4))))).toArray) (by simp [hR]) (by simp [hR])
     (try simp only [Exit.inBlock, Exit.then])
     refine bodyPost_ret (results_2 rfl (resOk_row rfl ?_) resOk_tmp) rfl ?_
     ·
      rw [hfin]
      simp
     refine ⟨by simp [go_sem, arpV, hfin], ?_⟩
     refine Below.setRow hbel (by first | (simp; done) | (simp; omega) | omega) _
set_option maxRecDepth 20000 in
set_option maxHeartbeats 2000000 in
theorem refParse_head (l : List UInt8) (w : World) (hl : 28 ≤ l.length) (hl2 : l.length ≤ 10000) (h7 : (l.take 7 == [0, 1, 8, 0, 6, 4, 0]) = false) :
  Calls Tryz.prog 79 #[.string ⟨l.toArray⟩] w fun e w' => e = .returned (.tuple #[.agg (Value.int .i64 0 :: zeros 20 (.int .u8 0)).toArray, .int .i64 3]) ∧ Below w.heap.size w w' := by
 have hl3 : (28 : Int) ≤ l.length := by omega
 have hl4 : (l.length : Int) ≤ 10000 := by omega
 go_enter Tryz.func79, Tryz.ntmps79
 go_wp2_with fail
 ((try simp only [Exit.inBlock, Exit.then]); refine bodyPost_ret (results_2 rfl (resOk_row rfl ?_) resOk_tmp) rfl ?_; (simp [go_sem]))
 refine ⟨by simp [go_sem], ?_⟩
 (repeat (first | exact Below.refl _ _ | refine Below.al ?_ _ | refine Below.drew ?_ | refine Below.sr ?_ _ | refine Below.sc ?_ _))
set_option maxRecDepth 20000 in
set_option maxHeartbeats 2000000 in
theorem refParse_opbad (l : List UInt8) (w : World) (hl : 28 ≤ l.length) (hl2 : l.length ≤ 10000) (h7 : l.take 7 = [0, 1, 8, 0, 6, 4, 0]) (h1 : (((l[7]'(by omega)).toNat : Int) != 1) = true) (h2 : (((l[7]'(by omega)).toNat : Int) != 2) = true) :
  Calls Tryz.prog 79 #[.string ⟨l.toArray⟩] w fun e w' => e = .returned (.tuple #[.agg (Value.int .i64 0 :: zeros 20 (.int .u8 0)).toArray, .int .i64 3]) ∧ Below w.heap.size w w' := by
 have hl3 : (28 : Int) ≤ l.length := by omega
 have hl4 : (l.length : Int) ≤ 10000 := by omega
 go_enter Tryz.func79, Tryz.ntmps79
 go_wp2_with fail
 ((try simp only [Exit.inBlock, Exit.then]); refine bodyPost_ret (results_2 rfl (resOk_row rfl ?_) resOk_tmp) rfl ?_; (simp [go_sem]))
 refine ⟨by simp [go_sem], ?_⟩
 (repeat (first | exact Below.refl _ _ | refine Below.al ?_ _ | refine Below.drew ?_ | refine Below.sr ?_ _ | refine Below.sc ?_ _))
end
section
open Go.RowKit
set_option maxRecDepth 20000 in
set_option maxHeartbeats 2000000 in
theorem refPrint_op2 (mac tgt : Vector UInt8 6) (ip want : Vector UInt8 4) (w : World) :
  Calls Tryz.prog 83 #[.agg (arpV 2 mac tgt ip want).toArray] w fun e w' => e = .returned (.string ⟨(arpS 2 mac tgt ip want).toArray⟩) ∧ Below w.heap.size w w' := by
 unfold arpV
 go_enter Tryz.func83, Tryz.ntmps83
 go_wp2_with fail
 refine wp_region_beginS (S := Held (fun w' => row w' w.heap.size = (.int .i64 2 :: (u8v mac ++ (u8v tgt ++ (u8v ip ++ u8v want)))).toArray)) rfl ?_ (fun hS => ?_)
 ·
  unfold Held
  simp [go_sem, *]
 refine rp 0 hS ?_
 refine rp 1 hS ?_
 refine rp 2 hS ?_
 refine rp 5 hS ?_
 refine rp 6 hS ?_
 refine rp 7 hS ?_
 refine rp 9 hS ?_
 refine rp 10 hS ?_
 refine rp 11 hS ?_
 refine rp 13 hS ?_
 refine rp 14 hS ?_
 refine rp 15 hS ?_
 refine rp 17 hS ?_
 refine rp 18 hS ?_
 refine rp 19 hS ?_
 refine wpAnyH_all (rs := [3]) (by kernel_rfl) (by simp) ?_
 intro i hi
 obtain rfl := List.mem_singleton.1 hi
 refine wpOp_step rfl (fun K hK => ?_)
 clear hi hS
 go_simp
 rw [show IntKind.u8.wrap 2 = 2 by decide]
 have hlit : (#[Value.int .u8 0, Value.int .u8 1, Value.int .u8 8, Value.int .u8 0, Value.int .u8 6, Value.int .u8 4, Value.int .u8 0, Value.int .u8 2] : Array Value) = (u8s [0, 1, 8, 0, 6, 4, 0, 2]).toArray := rfl
 rw [hlit]
 refine hK _ _ (wpAnyH_next (S2 := Held (fun w' => row w' w.heap.size = (.int .i64 2 :: (u8v mac ++ (u8v tgt ++ (u8v ip ++ u8v want)))).toArray ∧ row w' (w.heap.size + 1) = (u8s [0, 1, 8, 0, 6, 4, 0, 2]).toArray)) ?_ ?_ (fun hS => ?_))
 ·
  unfold Held
  simp [go_sem]
 ·
  intro w' hS'
  unfold Held at *
  simp at hS'
  simp [hS']
 clear hK K
 refine rp 4 hS ?_
 refine rp 8 hS ?_
 refine rp 12 hS ?_
 refine rp 16 hS ?_
 refine rp 20 hS ?_
 refine rp 21 hS ?_
 refine wpAnyH_done (by kernel_rfl) ?_ _
 go_wp2_with fail
 go_ret
 refine ⟨by simp [arpS, show bytesN 2 2 = [0, 2] from rfl], ?_⟩
 (repeat (first | exact Below.refl _ _ | refine Below.al ?_ _ | refine Below.drew ?_ | refine Below.sr ?_ _ | refine Below.sc ?_ _))
theorem parse_both (l : List UInt8) (hl2 : l.length ≤ 10000) : ∃ (op : Int) (mac tgt : Vector UInt8 6) (ip want : Vector UInt8 4) (er : Int),
  (∀ w, Calls Tryz.prog 67 #[.string ⟨l.toArray⟩] w fun e w' => e = .returned (.tuple #[.agg (arpV op mac tgt ip want).toArray, .int .i64 er]) ∧ Below w.heap.size w w') ∧
  (∀ w, Calls Tryz.prog 79 #[.string ⟨l.toArray⟩] w fun e w' => e = .returned (.tuple #[.agg (arpV op mac tgt ip want).toArray, .int .i64 er]) ∧ Below w.heap.size w w') := by
 by_cases hl : l.length < 28
 ·
  refine ⟨0, Vector.replicate 6 0, Vector.replicate 6 0, Vector.replicate 4 0, Vector.replicate 4 0, 2, ?_, ?_⟩
  rotate_left
  ·
   intro w
   rw [arpV_zero]
   exact refParse_short l w hl
  ·
   intro w
   rw [arpV_zero]
   exact parse_short l w hl
 ·
  have hl28 : 28 ≤ l.length := by omega
  match l, hl28, hl2 with
  | a0 :: a1 :: a2 :: a3 :: a4 :: a5 :: a6 :: a7 :: t, hl28, hl2 =>
  have hv : (vecAt (a0 :: a1 :: a2 :: a3 :: a4 :: a5 :: a6 :: a7 :: t) 0 6).toList = [a0, a1, a2, a3, a4, a5] := by rw [vecAt_toList _ _ _ (by omega)]; rfl
  have hw : (vecAt (a0 :: a1 :: a2 :: a3 :: a4 :: a5 :: a6 :: a7 :: t) 6 2).toList = [a6, a7] := by rw [vecAt_toList _ _ _ (by omega)]; rfl
  by_cases hh : [a0, a1, a2, a3, a4, a5] = [0, 1, 8, 0, 6, 4]
  ·
   by_cases h6 : a6 = 0
   ·
    have h7 : (a0 :: a1 :: a2 :: a3 :: a4 :: a5 :: a6 :: a7 :: t).take 7 = [0, 1, 8, 0, 6, 4, 0] := by
     simp at hh
     simp [hh, h6]
    have hn : numN [a6, a7] = a7.toNat := by simp [numN, h6]
    by_cases o1 : a7.toNat = 1
    ·
     exact ⟨1, _, _, _, _, 0, fun w => parse_op1 _ w hl28 hl2 (hv.trans hh) (by rw [hw, hn, o1]), fun w => refParse_op1 _ w hl28 hl2 h7 o1⟩
    ·
     by_cases o2 : a7.toNat = 2
     ·
      exact ⟨2, _, _, _, _, 0, fun w => parse_op2 _ w hl28 hl2 (hv.trans hh) (by rw [hw, hn, o2]), fun w => refParse_op2 _ w hl28 hl2 h7 o2⟩
     ·
      refine ⟨0, Vector.replicate 6 0, Vector.replicate 6 0, Vector.replicate 4 0, Vector.replicate 4 0, 3, ?_, ?_⟩
      rotate_left
      ·
       intro w
       rw [arpV_zero]
       exact refParse_opbad _ w hl28 hl2 h7 (by simp; omega) (by simp; omega)
      ·
       intro w
       rw [arpV_zero]
       exact parse_opbad _ a7.toNat w hl28 hl2 (hv.trans hh) (by rw [hw, hn]) (by simp; omega) (by simp; omega)
   ·
    have p6 : 0 < a6.toNat := by
     rcases Nat.eq_zero_or_pos a6.toNat with h | h
     ·
      exact absurd (UInt8.toNat_inj.1 h) h6
     ·
      exact h
    have hn : 256 ≤ numN [a6, a7] := by simp [numN]; omega
    refine ⟨0, Vector.replicate 6 0, Vector.replicate 6 0, Vector.replicate 4 0, Vector.replicate 4 0, 3, ?_, ?_⟩
    rotate_left
    ·
     intro w
     rw [arpV_zero]
     exact refParse_head _ w hl28 hl2 (by simp [h6])
    ·
     intro w
     rw [arpV_zero]
     exact parse_opbad _ (numN [a6, a7]) w hl28 hl2 (hv.trans hh) (by rw [hw]) (by simp; omega) (by simp; omega)
  ·
   refine ⟨0, Vector.replicate 6 0, Vector.replicate 6 0, Vector.replicate 4 0, Vector.replicate 4 0, 3, ?_, ?_⟩
   rotate_left
   ·
    intro w
    rw [arpV_zero]
    refine refParse_head _ w hl28 hl2 ?_
    simp at hh ⊢
    intro x0 x1 x2 x3 x4 x5
    exact absurd x5 (hh x0 x1 x2 x3 x4)
   ·
    intro w
    rw [arpV_zero]
    exact parse_head _ w hl28 hl2 (by rw [hv]; simpa using hh)
end
end Go.Proofs.YtckckabedgpbiaaGreat
