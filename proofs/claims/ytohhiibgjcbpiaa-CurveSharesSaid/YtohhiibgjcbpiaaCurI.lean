/- Contracts of package curve: inverses, keys, places. -/
import Derived.Test.YtohhiibgjcbpiaaCurT
set_option linter.unusedSimpArgs false
set_option linter.unusedVariables false
namespace Go.Proofs.Ytohhiibgjcbpiaa
open Go.RowKit
def invF (xs : List Int) (k : Nat) (o : List Int) : List Int := if k = 251 ∨ k = 249 then timesL o o else timesL (timesL o o) xs
def invL (xs : List Int) : List Int := upTo (invF xs) 254 xs
theorem invF_length (xs : List Int) (k : Nat) (o : List Int) : (invF xs k o).length = 16 := by unfold invF; split <;> exact timesL_length _ _
theorem invL_upTo_length (xs : List Int) (hx : xs.length = 16) (k : Nat) : (upTo (invF xs) k xs).length = 16 := by
  cases k with
  | zero => exact hx
  | succ k => exact invF_length _ _ _
attribute [local irreducible] upTo timesL
set_option maxRecDepth 20000 in
set_option maxHeartbeats 600000 in
theorem inverse_any (xs : List Int) (w : World) (hx : xs.length = 16) :
    Calls Try.prog 24 #[.agg (i64s xs).toArray] w fun e w' => e = .returned (.agg (i64s (invL xs)).toArray) ∧ Below w.heap.size w w' := by
  go_enter Try.func24, Try.ntmps24
  go_wp2_with fail
  go_loopw [4] (fun i wr => ∃ k : Nat, k ≤ 254 ∧ i = .int .i64 (253 - (k : Int)) ∧ row wr w.heap.size = (i64s xs).toArray ∧ row wr (w.heap.size + 1) = (zeros 16 (Value.int .i64 0)).toArray ∧ row wr (w.heap.size + 1 + 1) = (i64s (upTo (invF xs) k xs)).toArray ∧ w.heap.size + 1 + 1 < wr.heap.size ∧ Below w.heap.size w wr) (fun i _ => (intOf i + 1).toNat)
  case atStart =>
    refine ⟨0, by omega, rfl, by simp [go_sem], by simp [go_sem], by simp [go_sem, upTo], by simp, ?_⟩
    (repeat (first | exact Below.refl _ _ | refine Below.alloc ?_ (by first | (simp; done) | (simp; omega) | omega) _ | refine Below.drew ?_ | refine Below.setRow ?_ (by first | (simp; done) | (simp; omega) | omega) _ | refine Below.setCell ?_ (by first | (simp; done) | (simp; omega) | omega) _))
  case round =>
    obtain ⟨k, hk, rfl, hX, hR, hO, hsz, hbel⟩ := hrel
    obtain ⟨L, hL⟩ : ∃ L, upTo (invF xs) k xs = L := ⟨_, rfl⟩
    have hLl : L.length = 16 := by rw [← hL]; exact invL_upTo_length xs hx k
    rw [hL] at hO
    have HL := Lib.hid hL
    clear hL
    by_cases hlt : k < 254
    · obtain ⟨j, hj⟩ : ∃ j : Nat, 253 - (k : Int) = j := ⟨253 - k, by omega⟩
      rw [hj]
      have HJ := Lib.hid hj
      have hj253 : j = 253 - k := by omega
      clear hj
      go_wp2_with fail
      refine (times_any L L _ hLl hLl).mono ?_
      rintro e w2 ⟨rfl, hb2⟩
      have z2 := (hb2).size
      try simp at z2
      replace hX := (row_below hb2 (by omega)).trans hX
      replace hR := (row_below hb2 (by omega)).trans hR
      replace hO := (row_below hb2 (by omega)).trans hO
      have htl := timesL_length L L
      have hX2 := row_setRow_other (w := w2) (w.heap.size + 1 + 1) w.heap.size (i64s (timesL L L)).toArray (by omega)
      rw [hX] at hX2
      have hR2 := row_setRow_other (w := w2) (w.heap.size + 1 + 1) (w.heap.size + 1) (i64s (timesL L L)).toArray (by omega)
      rw [hR] at hR2
      have hO2 := row_setRow_same (w := w2) (g := w.heap.size + 1 + 1) (c := (i64s (timesL L L)).toArray) (by rw [hO]; simp; omega) (by rw [hO]; simp; omega)
      have hbw2 : Below w.heap.size w (w2.setRow (w.heap.size + 1 + 1) (i64s (timesL L L)).toArray) := by
        refine Below.setRow ?_ (by omega) _
        refine Below.trans ?_ (Below.mono hb2 (by first | (simp; done) | (simp; omega) | omega))
        exact hbel
      by_cases hs : k = 251 ∨ k = 249
      · have e : upTo (invF xs) (k + 1) xs = timesL L L := by rw [upTo, HL.out, invF, if_pos hs]
        rcases hs with rfl | rfl
        · obtain rfl : j = 2 := by omega
          go_wp2_with fail
          go_roundw
          case rel => exact ⟨251 + 1, by omega, by simp, hX2, hR2, by rw [e]; exact hO2, by simp; omega, hbw2⟩
          case measure => simp [intOf]
        · obtain rfl : j = 4 := by omega
          go_wp2_with fail
          go_roundw
          case rel => exact ⟨249 + 1, by omega, by simp, hX2, hR2, by rw [e]; exact hO2, by simp; omega, hbw2⟩
          case measure => simp [intOf]
      · have e : upTo (invF xs) (k + 1) xs = timesL (timesL L L) xs := by rw [upTo, HL.out, invF, if_neg hs]
        have hj2 : ((j : Int) != 2) = true := by simp; omega
        have hj4 : ((j : Int) != 4) = true := by simp; omega
        have hjb : j ≤ 253 := by omega
        have hjw : wrap64 ((j : Int) - 1) = (j : Int) - 1 := by unfold wrap64; omega
        clear hj253
        go_wp2_with fail
        refine (times_any (timesL L L) xs _ htl hx).mono ?_
        rintro e w3 ⟨rfl, hb3⟩
        have z3 := (hb3).size
        try simp at z3
        have htl2 := timesL_length (timesL L L) xs
        replace hX2 := (row_below hb3 (by simp; omega)).trans hX2
        replace hR2 := (row_below hb3 (by simp; omega)).trans hR2
        replace hO2 := (row_below hb3 (by simp; omega)).trans hO2
        go_wp2_with fail
        go_roundw
        case rel =>
          refine ⟨k + 1, by omega, ?_, by (try show row (World.setRow _ _ _) _ = _); rw [row_setRow_other _ _ _ (by omega)]; exact hX2, by (try show row (World.setRow _ _ _) _ = _); rw [row_setRow_other _ _ _ (by omega)]; exact hR2, ?_, by simp; omega, ?_⟩
          · have := HJ.out
            simp
            omega
          · rw [e]
            exact row_setRow_same (by rw [hO2]; simp; omega) (by rw [hO2]; simp; omega)
          · refine Below.setRow ?_ (by omega) _
            refine Below.trans hbw2 (Below.mono hb3 (by simp; omega))
        case measure => first | (simp [intOf]; done) | (simp [intOf]; omega)
    · obtain rfl : k = 254 := by omega
      rw [show (253 : Int) - ((254 : Nat) : Int) = -1 from rfl]
      go_wp2_with fail
      have e : L = invL xs := HL.out.symm
      rw [e] at hO hLl ⊢
      have hfin := row_setRow_same (w := wr) (g := w.heap.size + 1) (c := (i64s (invL xs)).toArray) (by rw [hR]; simp) (by rw [hR]; simp [hLl])
      (try simp only [Exit.inBlock, Exit.then])
      refine bodyPost_ret (results_1 rfl (resOk_row rfl ?_)) rfl ?_
      · rw [hfin]
        simp [hLl]
      refine ⟨by rw [hfin], ?_⟩
      exact Below.setRow hbel (by omega) _
def lessPY (xs : List Int) : List Int := wholeL (xs.set 0 (wrap64 (xs.getD 0 0 + 19)))
def lessPL (xs : List Int) : List Int := if (lessPY xs).getD 15 0 / 32768 = 0 then lessPY xs else (lessPY xs).set 15 (wrap64 ((lessPY xs).getD 15 0 - 32768))
def lessPB (xs : List Int) : Bool := !((lessPY xs).getD 15 0 / 32768 == 0)
theorem lessPY_length (xs : List Int) (hx : xs.length = 16) : (lessPY xs).length = 16 := by rw [lessPY, wholeL_length]; simpa using hx
theorem lessPL_length (xs : List Int) (hx : xs.length = 16) : (lessPL xs).length = 16 := by unfold lessPL; split <;> simp [lessPY_length xs hx]
attribute [local irreducible] wholeL
set_option maxRecDepth 20000 in
set_option maxHeartbeats 600000 in
theorem lessP_any (xs : List Int) (w : World) (hx : xs.length = 16) :
    Calls Try.prog 33 #[.agg (i64s xs).toArray] w fun e w' => e = .returned (.tuple #[.agg (i64s (lessPL xs)).toArray, .bool (lessPB xs)]) ∧ Below w.heap.size w w' := by
  have h0 : 0 < xs.length := by omega
  obtain ⟨ys, hys⟩ : ∃ ys, xs.set 0 (wrap64 (xs[0] + 19)) = ys := ⟨_, rfl⟩
  have hyl : ys.length = 16 := by rw [← hys]; simpa using hx
  have hP : lessPY xs = wholeL ys := by rw [lessPY, ← hys]; simp [List.getD_eq_getElem?_getD, h0]
  obtain ⟨zs, hzs⟩ : ∃ zs, wholeL ys = zs := ⟨_, rfl⟩
  have hzl : zs.length = 16 := by rw [← hzs, wholeL_length]; exact hyl
  have h15 : 15 < zs.length := by omega
  have hg : zs.getD 15 0 = zs[15] := by simp [List.getD_eq_getElem?_getD, h15]
  have hL : lessPL xs = if zs[15] / 32768 = 0 then zs else zs.set 15 (wrap64 (zs[15] - 32768)) := by rw [lessPL, hP, hzs, hg]
  have hB : lessPB xs = !(zs[15] / 32768 == 0) := by rw [lessPB, hP, hzs, hg]
  rw [hL, hB]
  have HW := whole_any ys
  rw [hzs] at HW
  have HW2 := Lib.hid HW
  have HY := Lib.hid hys
  clear HW hys hL hB hP hzs hg
  go_enter Try.func33, Try.ntmps33
  go_wp2_with fail
  rw [HY.out]
  refine (HW2.out _ hyl).mono ?_
  rintro e w1 ⟨rfl, hb1⟩
  have z1 := (hb1).size
  try simp at z1
  have hX : row w1 (w.heap.size) = (i64s ys).toArray := by rw [row_below hb1 (by first | (simp; done) | (simp; omega) | omega)]; simp [go_sem]; (try rfl)
  have hR : row w1 (w.heap.size + 1) = (zeros 16 (Value.int .i64 0)).toArray := by rw [row_below hb1 (by first | (simp; done) | (simp; omega) | omega)]; simp [go_sem]; (try rfl)
  replace hb1 := below_of hb1 (show Below (w).heap.size w _ from by (repeat (first | exact Below.refl _ _ | refine Below.alloc ?_ (by first | (simp; done) | (simp; omega) | omega) _ | refine Below.drew ?_ | refine Below.setRow ?_ (by first | (simp; done) | (simp; omega) | omega) _ | refine Below.setCell ?_ (by first | (simp; done) | (simp; omega) | omega) _))) (by first | (simp; done) | (simp; omega) | omega)
  have hX2 := row_setRow_same (w := w1) (g := w.heap.size) (c := (i64s zs).toArray) (by rw [hX]; simp; omega) (by rw [hX]; simp; omega)
  have hR2 := row_setRow_other (w := w1) w.heap.size (w.heap.size + 1) (i64s zs).toArray (by omega)
  rw [hR] at hR2
  by_cases hc : zs[15] / 32768 = 0
  · have hc2 : (zs[15] / 32768 == 0) = true := by simp [hc]
    go_wp2_with fail
    have hfin := row_setRow_same (w := w1.setRow w.heap.size (i64s zs).toArray) (g := w.heap.size + 1) (c := (i64s zs).toArray) (by rw [hR2]; simp) (by rw [hR2]; simp [hzl])
    refine bodyPost_ret (results_2 (r := .cell 2 38) (s := .tmp 3) rfl (resOk_row rfl ?_) resOk_tmp) rfl ?_
    · rw [hfin]
      simp [hzl]
    refine ⟨by rw [hfin]; rfl, ?_⟩
    exact Below.setRow (Below.setRow hb1 (by omega) _) (by omega) _
  · have hc2 : (zs[15] / 32768 == 0) = false := by simp [hc]
    have hX3 := row_setRow_same (w := w1) (g := w.heap.size) (c := (i64s (zs.set 15 (wrap64 (zs[15] - 32768)))).toArray) (by rw [hX]; simp; omega) (by rw [hX]; simp; omega)
    have hR3 := row_setRow_other (w := w1) w.heap.size (w.heap.size + 1) (i64s (zs.set 15 (wrap64 (zs[15] - 32768)))).toArray (by omega)
    rw [hR] at hR3
    go_wp2_with fail
    have hfin := row_setRow_same (w := w1.setRow w.heap.size (i64s (zs.set 15 (wrap64 (zs[15] - 32768)))).toArray) (g := w.heap.size + 1) (c := (i64s (zs.set 15 (wrap64 (zs[15] - 32768)))).toArray) (by rw [hR3]; simp) (by rw [hR3]; simp [hzl])
    refine bodyPost_ret (results_2 (r := .cell 2 38) (s := .tmp 3) rfl (resOk_row rfl ?_) resOk_tmp) rfl ?_
    · rw [hfin]
      simp [hzl]
    refine ⟨by rw [hfin]; rfl, ?_⟩
    exact Below.setRow (Below.setRow hb1 (by omega) _) (by omega) _
end Go.Proofs.Ytohhiibgjcbpiaa
