/- Contracts of package curve: elements of 16 parts, as lists of integers; each operation as the machine does it. -/
import Derived.Test.YtohhiibgjcbpiaaAgg
import Derived.Test.YtohhiibgjcbpiaaCmp
import Derived.Test.YtohhiibgjcbpiaaByt
import Derived.Deep.RegionHeld3
import Derived.WalkKit
set_option linter.unusedSimpArgs false
set_option linter.unusedVariables false
namespace Go.Proofs.Ytohhiibgjcbpiaa
open Go.RowKit
/-- numbers of 64 bits, as cells -/
def i64s (l : List Int) : List Value := l.map (Value.int .i64)
@[simp] theorem i64s_length (l : List Int) : (i64s l).length = l.length := by simp [i64s]
@[simp] theorem ones_i64s (l : List Int) : ones (i64s l) = true := by simp [ones, i64s, Value.oneCell']
@[simp] theorem i64s_get (l : List Int) (i : Nat) (h : i < (i64s l).length) : (i64s l)[i] = .int .i64 (l[i]'(by simpa using h)) := by simp [i64s]
@[simp] theorem i64s_set (l : List Int) (i : Nat) (v : Int) : (i64s l).set i (.int .i64 v) = i64s (l.set i v) := by simp [i64s, List.map_set]
def plusF (ys : List Int) (i : Nat) (l : List Int) : List Int := l.set i (wrap64 (l.getD i 0 + ys.getD i 0))
def plusL (xs ys : List Int) : List Int := upTo (plusF ys) 16 xs
theorem plusF_length (ys : List Int) (i : Nat) (l : List Int) : (plusF ys i l).length = l.length := by simp [plusF]
set_option maxRecDepth 20000 in
set_option maxHeartbeats 1000000 in
theorem plus_any (xs ys : List Int) (w : World) (hx : xs.length = 16) (hy : ys.length = 16) :
    Calls Try.prog 29 #[.agg (i64s xs).toArray, .agg (i64s ys).toArray] w fun e w' => e = .returned (.agg (i64s (plusL xs ys)).toArray) ∧ Below w.heap.size w w' := by
  go_enter Try.func29, Try.ntmps29
  go_wp2_with fail
  go_loopw [6] (fun i wr => ∃ k : Nat, k ≤ 16 ∧ i = .int .i64 k ∧ row wr w.heap.size = (i64s (upTo (plusF ys) k xs)).toArray ∧ row wr (w.heap.size + 1) = (i64s ys).toArray ∧ row wr (w.heap.size + 1 + 1) = (zeros 16 (Value.int .i64 0)).toArray ∧ Below w.heap.size w wr) (fun i _ => 16 - (intOf i).toNat)
  case atStart =>
    refine ⟨0, by omega, rfl, by simp [go_sem, upTo], by simp [go_sem], by simp [go_sem], ?_⟩
    (repeat (first | exact Below.refl _ _ | refine Below.alloc ?_ (by first | (simp; done) | (simp; omega) | omega) _ | refine Below.drew ?_ | refine Below.setRow ?_ (by first | (simp; done) | (simp; omega) | omega) _ | refine Below.setCell ?_ (by first | (simp; done) | (simp; omega) | omega) _))
  case round =>
    obtain ⟨k, hk, rfl, hX, hY, hR, hbel⟩ := hrel
    obtain ⟨L, hL⟩ : ∃ L, upTo (plusF ys) k xs = L := ⟨_, rfl⟩
    have hLl : L.length = 16 := by rw [← hL, upTo_length (plusF_length ys), hx]
    rw [hL] at hX
    have HL := Lib.hid hL
    clear hL
    by_cases hlt : k < 16
    · have h1 : (k : Int) < 16 := by omega
      have hk1 : k < L.length := by omega
      have hk2 : k < ys.length := by omega
      go_wp2_with fail
      go_region
      go_wp2_with fail
      go_roundw
      case rel =>
        have e : upTo (plusF ys) (k + 1) xs = L.set k (wrap64 (L[k] + ys[k])) := by
          rw [upTo, HL.out]
          simp [plusF, List.getD_eq_getElem?_getD, hk1, hk2]
        refine ⟨k + 1, by omega, rfl, ?_, by (try show row (World.setRow _ _ _) _ = _); rw [row_setRow_other _ _ _ (by omega)]; exact hY, by (try show row (World.setRow _ _ _) _ = _); rw [row_setRow_other _ _ _ (by omega)]; exact hR, ?_⟩
        · rw [e]
          exact row_setRow_same (by rw [hX]; simp; omega) (by rw [hX]; simp)
        · refine Below.drew (Below.setRow hbel (Nat.le_refl _) _)
      case measure => simp [intOf]; omega
    · obtain rfl : k = 16 := by omega
      rw [show ((16 : Nat) : Int) = 16 from rfl]
      go_wp2_with fail
      have e : L = plusL xs ys := HL.out.symm
      rw [e] at hX hLl ⊢
      have hfin := row_setRow_same (w := wr) (g := w.heap.size + 1 + 1) (c := (i64s (plusL xs ys)).toArray) (by rw [hR]; simp) (by rw [hR]; simp [hLl])
      (try simp only [Exit.inBlock, Exit.then])
      refine bodyPost_ret (results_1 rfl (resOk_row rfl ?_)) rfl ?_
      · rw [hfin]
        simp [hLl]
      refine ⟨by rw [hfin], ?_⟩
      exact Below.setRow hbel (by omega) _
def lessF (ys : List Int) (i : Nat) (l : List Int) : List Int := l.set i (wrap64 (l.getD i 0 - ys.getD i 0))
def lessL (xs ys : List Int) : List Int := upTo (lessF ys) 16 xs
theorem lessF_length (ys : List Int) (i : Nat) (l : List Int) : (lessF ys i l).length = l.length := by simp [lessF]
set_option maxRecDepth 20000 in
set_option maxHeartbeats 1000000 in
theorem less_any (xs ys : List Int) (w : World) (hx : xs.length = 16) (hy : ys.length = 16) :
    Calls Try.prog 30 #[.agg (i64s xs).toArray, .agg (i64s ys).toArray] w fun e w' => e = .returned (.agg (i64s (lessL xs ys)).toArray) ∧ Below w.heap.size w w' := by
  go_enter Try.func30, Try.ntmps30
  go_wp2_with fail
  go_loopw [6] (fun i wr => ∃ k : Nat, k ≤ 16 ∧ i = .int .i64 k ∧ row wr w.heap.size = (i64s (upTo (lessF ys) k xs)).toArray ∧ row wr (w.heap.size + 1) = (i64s ys).toArray ∧ row wr (w.heap.size + 1 + 1) = (zeros 16 (Value.int .i64 0)).toArray ∧ Below w.heap.size w wr) (fun i _ => 16 - (intOf i).toNat)
  case atStart =>
    refine ⟨0, by omega, rfl, by simp [go_sem, upTo], by simp [go_sem], by simp [go_sem], ?_⟩
    (repeat (first | exact Below.refl _ _ | refine Below.alloc ?_ (by first | (simp; done) | (simp; omega) | omega) _ | refine Below.drew ?_ | refine Below.setRow ?_ (by first | (simp; done) | (simp; omega) | omega) _ | refine Below.setCell ?_ (by first | (simp; done) | (simp; omega) | omega) _))
  case round =>
    obtain ⟨k, hk, rfl, hX, hY, hR, hbel⟩ := hrel
    obtain ⟨L, hL⟩ : ∃ L, upTo (lessF ys) k xs = L := ⟨_, rfl⟩
    have hLl : L.length = 16 := by rw [← hL, upTo_length (lessF_length ys), hx]
    rw [hL] at hX
    have HL := Lib.hid hL
    clear hL
    by_cases hlt : k < 16
    · have h1 : (k : Int) < 16 := by omega
      have hk1 : k < L.length := by omega
      have hk2 : k < ys.length := by omega
      go_wp2_with fail
      go_region
      go_wp2_with fail
      go_roundw
      case rel =>
        have e : upTo (lessF ys) (k + 1) xs = L.set k (wrap64 (L[k] - ys[k])) := by
          rw [upTo, HL.out]
          simp [lessF, List.getD_eq_getElem?_getD, hk1, hk2]
        refine ⟨k + 1, by omega, rfl, ?_, by (try show row (World.setRow _ _ _) _ = _); rw [row_setRow_other _ _ _ (by omega)]; exact hY, by (try show row (World.setRow _ _ _) _ = _); rw [row_setRow_other _ _ _ (by omega)]; exact hR, ?_⟩
        · rw [e]
          exact row_setRow_same (by rw [hX]; simp; omega) (by rw [hX]; simp)
        · refine Below.drew (Below.setRow hbel (Nat.le_refl _) _)
      case measure => simp [intOf]; omega
    · obtain rfl : k = 16 := by omega
      rw [show ((16 : Nat) : Int) = 16 from rfl]
      go_wp2_with fail
      have e : L = lessL xs ys := HL.out.symm
      rw [e] at hX hLl ⊢
      have hfin := row_setRow_same (w := wr) (g := w.heap.size + 1 + 1) (c := (i64s (lessL xs ys)).toArray) (by rw [hR]; simp) (by rw [hR]; simp [hLl])
      (try simp only [Exit.inBlock, Exit.then])
      refine bodyPost_ret (results_1 rfl (resOk_row rfl ?_)) rfl ?_
      · rw [hfin]
        simp [hLl]
      refine ⟨by rw [hfin], ?_⟩
      exact Below.setRow hbel (by omega) _
def wholeF (i : Nat) (l : List Int) : List Int := (l.set i (wrap64 (l.getD i 0 - wrap64 (l.getD i 0 / 65536 * 65536)))).set (i + 1) (wrap64 (l.getD (i + 1) 0 + l.getD i 0 / 65536))
def wholeL (xs : List Int) : List Int := upTo wholeF 15 xs
theorem wholeF_length (i : Nat) (l : List Int) : (wholeF i l).length = l.length := by simp [wholeF]
theorem wholeL_length (l : List Int) : (wholeL l).length = l.length := upTo_length wholeF_length _ _
set_option maxRecDepth 20000 in
set_option maxHeartbeats 1000000 in
theorem whole_any (xs : List Int) (w : World) (hx : xs.length = 16) :
    Calls Try.prog 32 #[.agg (i64s xs).toArray] w fun e w' => e = .returned (.agg (i64s (wholeL xs)).toArray) ∧ Below w.heap.size w w' := by
  go_enter Try.func32, Try.ntmps32
  go_wp2_with fail
  go_loopw [5] (fun i wr => ∃ k : Nat, k ≤ 15 ∧ i = .int .i64 k ∧ row wr w.heap.size = (i64s (upTo wholeF k xs)).toArray ∧ row wr (w.heap.size + 1) = (zeros 16 (Value.int .i64 0)).toArray ∧ Below w.heap.size w wr) (fun i _ => 15 - (intOf i).toNat)
  case atStart =>
    refine ⟨0, by omega, rfl, by simp [go_sem, upTo], by simp [go_sem], ?_⟩
    (repeat (first | exact Below.refl _ _ | refine Below.alloc ?_ (by first | (simp; done) | (simp; omega) | omega) _ | refine Below.drew ?_ | refine Below.setRow ?_ (by first | (simp; done) | (simp; omega) | omega) _ | refine Below.setCell ?_ (by first | (simp; done) | (simp; omega) | omega) _))
  case round =>
    obtain ⟨k, hk, rfl, hX, hR, hbel⟩ := hrel
    obtain ⟨L, hL⟩ : ∃ L, upTo wholeF k xs = L := ⟨_, rfl⟩
    have hLl : L.length = 16 := by rw [← hL, upTo_length wholeF_length, hx]
    rw [hL] at hX
    have HL := Lib.hid hL
    clear hL
    by_cases hlt : k < 15
    · have h1 : (k : Int) < 15 := by omega
      have hk1 : k < L.length := by omega
      have hk2 : k + 1 < L.length := by omega
      have hk3 : k < 16 := by omega
      have hk4 : k + 1 < 16 := by omega
      have hX1 := row_setRow_same (w := wr) (g := w.heap.size) (c := (i64s (L.set k (wrap64 (L[k] - wrap64 (L[k] / 65536 * 65536))))).toArray) (by rw [hX]; simp; omega) (by rw [hX]; simp)
      go_wp2_with fail
      go_roundw
      case rel =>
        have e : upTo wholeF (k + 1) xs = (L.set k (wrap64 (L[k] - wrap64 (L[k] / 65536 * 65536)))).set (k + 1) (wrap64 (L[k + 1] + L[k] / 65536)) := by
          rw [upTo, HL.out]
          simp [wholeF, List.getD_eq_getElem?_getD, hk1, hk2]
        refine ⟨k + 1, by omega, rfl, ?_, by (try show row (World.setRow _ _ _) _ = _); rw [row_setRow_other _ _ _ (by omega)]; exact hR, ?_⟩
        · rw [e]
          exact row_setRow_same (by rw [hX]; simp; omega) (by rw [hX]; simp)
        · refine Below.setRow hbel (Nat.le_refl _) _
      case measure => simp [intOf]; omega
    · obtain rfl : k = 15 := by omega
      rw [show ((15 : Nat) : Int) = 15 from rfl]
      go_wp2_with fail
      have e : L = wholeL xs := HL.out.symm
      rw [e] at hX hLl ⊢
      have hfin := row_setRow_same (w := wr) (g := w.heap.size + 1) (c := (i64s (wholeL xs)).toArray) (by rw [hR]; simp) (by rw [hR]; simp [hLl])
      (try simp only [Exit.inBlock, Exit.then])
      refine bodyPost_ret (results_1 rfl (resOk_row rfl ?_)) rfl ?_
      · rw [hfin]
        simp [hLl]
      refine ⟨by rw [hfin], ?_⟩
      exact Below.setRow hbel (by omega) _
def carriedF (i : Nat) (l : List Int) : List Int := if i + 1 < 16 then (l.set i (wrap64 (l.getD i 0 - wrap64 (l.getD i 0 / 65536 * 65536)))).set (i + 1) (wrap64 (l.getD (i + 1) 0 + l.getD i 0 / 65536)) else (l.set i (wrap64 (l.getD i 0 - wrap64 (l.getD i 0 / 65536 * 65536)))).set 0 (wrap64 (l.getD 0 0 + wrap64 (38 * (l.getD i 0 / 65536))))
def carriedL (xs : List Int) : List Int := upTo carriedF 16 xs
theorem carriedF_length (i : Nat) (l : List Int) : (carriedF i l).length = l.length := by unfold carriedF; split <;> simp
theorem carriedL_length (l : List Int) : (carriedL l).length = l.length := upTo_length carriedF_length _ _
set_option maxRecDepth 20000 in
set_option maxHeartbeats 1000000 in
theorem carried_any (xs : List Int) (w : World) (hx : xs.length = 16) :
    Calls Try.prog 31 #[.agg (i64s xs).toArray] w fun e w' => e = .returned (.agg (i64s (carriedL xs)).toArray) ∧ Below w.heap.size w w' := by
  go_enter Try.func31, Try.ntmps31
  go_wp2_with fail
  go_loopw [5] (fun i wr => ∃ k : Nat, k ≤ 16 ∧ i = .int .i64 k ∧ row wr w.heap.size = (i64s (upTo carriedF k xs)).toArray ∧ row wr (w.heap.size + 1) = (zeros 16 (Value.int .i64 0)).toArray ∧ Below w.heap.size w wr) (fun i _ => 16 - (intOf i).toNat)
  case atStart =>
    refine ⟨0, by omega, rfl, by simp [go_sem, upTo], by simp [go_sem], ?_⟩
    (repeat (first | exact Below.refl _ _ | refine Below.alloc ?_ (by first | (simp; done) | (simp; omega) | omega) _ | refine Below.drew ?_ | refine Below.setRow ?_ (by first | (simp; done) | (simp; omega) | omega) _ | refine Below.setCell ?_ (by first | (simp; done) | (simp; omega) | omega) _))
  case round =>
    obtain ⟨k, hk, rfl, hX, hR, hbel⟩ := hrel
    obtain ⟨L, hL⟩ : ∃ L, upTo carriedF k xs = L := ⟨_, rfl⟩
    have hLl : L.length = 16 := by rw [← hL, upTo_length carriedF_length, hx]
    rw [hL] at hX
    have HL := Lib.hid hL
    clear hL
    by_cases hlt : k < 16
    · have h1 : (k : Int) < 16 := by omega
      have hk1 : k < L.length := by omega
      have hk3 : k < 16 := by omega
      have hX1 := row_setRow_same (w := wr) (g := w.heap.size) (c := (i64s (L.set k (wrap64 (L[k] - wrap64 (L[k] / 65536 * 65536))))).toArray) (by rw [hX]; simp; omega) (by rw [hX]; simp)
      by_cases hk15 : k + 1 < 16
      · have hk2 : k + 1 < L.length := by omega
        have hk5 : (k : Int) + 1 < 16 := by omega
        go_wp2_with fail
        go_roundw
        case rel =>
          have e : upTo carriedF (k + 1) xs = (L.set k (wrap64 (L[k] - wrap64 (L[k] / 65536 * 65536)))).set (k + 1) (wrap64 (L[k + 1] + L[k] / 65536)) := by
            rw [upTo, HL.out]
            simp [carriedF, List.getD_eq_getElem?_getD, hk1, hk2, hk15]
          refine ⟨k + 1, by omega, rfl, ?_, by (try show row (World.setRow _ _ _) _ = _); rw [row_setRow_other _ _ _ (by omega)]; exact hR, ?_⟩
          · rw [e]
            exact row_setRow_same (by rw [hX]; simp; omega) (by rw [hX]; simp)
          · refine Below.setRow hbel (Nat.le_refl _) _
        case measure => simp [intOf]; omega
      · obtain rfl : k = 15 := by omega
        have hk0 : 0 < L.length := by omega
        rw [show ((15 : Nat) : Int) = 15 from rfl]
        go_wp2_with fail
        go_roundw
        case rel =>
          have e : upTo carriedF 16 xs = (L.set 15 (wrap64 (L[15] - wrap64 (L[15] / 65536 * 65536)))).set 0 (wrap64 (L[0] + wrap64 (38 * (L[15] / 65536)))) := by
            rw [upTo, HL.out]
            simp [carriedF, List.getD_eq_getElem?_getD, hk1, hk0]
          refine ⟨16, by omega, rfl, ?_, by (try show row (World.setRow _ _ _) _ = _); rw [row_setRow_other _ _ _ (by omega)]; exact hR, ?_⟩
          · rw [e]
            exact row_setRow_same (by rw [hX]; simp; omega) (by rw [hX]; simp)
          · refine Below.setRow hbel (Nat.le_refl _) _
        case measure => simp [intOf]
    · obtain rfl : k = 16 := by omega
      rw [show ((16 : Nat) : Int) = 16 from rfl]
      go_wp2_with fail
      have e : L = carriedL xs := HL.out.symm
      rw [e] at hX hLl ⊢
      have hfin := row_setRow_same (w := wr) (g := w.heap.size + 1) (c := (i64s (carriedL xs)).toArray) (by rw [hR]; simp) (by rw [hR]; simp [hLl])
      (try simp only [Exit.inBlock, Exit.then])
      refine bodyPost_ret (results_1 rfl (resOk_row rfl ?_)) rfl ?_
      · rw [hfin]
        simp [hLl]
      refine ⟨by rw [hfin], ?_⟩
      exact Below.setRow hbel (by omega) _
end Go.Proofs.Ytohhiibgjcbpiaa
