/- Texts of this proof, merged: Cur, CurT, CurI, CurK, CurO, CurM, CurP, CurQ, CurV, CurE, CurF. -/
import Derived.Test.YtcebllbikmgjpaaGreatJ2
import Derived.Test.YtcebllbikmgjpaaGreatBytJ
import Derived.Deep.RegionHeld3
import Derived.WalkKit
import Derived.Test.YtcebllbikmgjpaaGreatJ0
set_option linter.unusedSimpArgs false
set_option linter.unusedVariables false
set_option maxHeartbeats 8000000
set_option maxRecDepth 20000
namespace Go.Proofs.YtcebllbikmgjpaaGreat
section
open Go.RowKit
def i64s (l : List Int) : List Value := l.map (Value.int .i64)
@[simp] theorem i64s_length (l : List Int) : (i64s l).length = l.length := by simp [i64s]
@[simp] theorem ones_i64s (l : List Int) : ones (i64s l) = true := by simp [ones, i64s, Value.oneCell']
@[simp] theorem i64s_get (l : List Int) (i : Nat) (h : i < (i64s l).length) : (i64s l)[i] = .int .i64 (l[i]'(by simpa using h)) := by simp [i64s]
@[simp] theorem i64s_set (l : List Int) (i : Nat) (v : Int) : (i64s l).set i (.int .i64 v) = i64s (l.set i v) := by simp [i64s, List.map_set]
def plusF (ys : List Int) (i : Nat) (l : List Int) : List Int := l.set i (wrap64 (l.getD i 0 + ys.getD i 0))
def plusL (xs ys : List Int) : List Int := upTo (plusF ys) 16 xs
theorem plusF_length (ys : List Int) (i : Nat) (l : List Int) : (plusF ys i l).length = l.length := by simp [plusF]
theorem plus_any (xs ys : List Int) (w : World) (hx : xs.length = 16) (hy : ys.length = 16) :
  Calls Tryz.prog 254 #[.agg (i64s xs).toArray, .agg (i64s ys).toArray] w fun e w' => e = .returned (.agg (i64s (plusL xs ys)).toArray) ∧ Below w.heap.size w w' := by
 go_enter Tryz.func254, Tryz.ntmps254
 go_wp2_with fail
 go_loopw [6] (fun i wr => ∃ k : Nat, k ≤ 16 ∧ i = .int .i64 k ∧ row wr w.heap.size = (i64s (upTo (plusF ys) k xs)).toArray ∧ row wr (w.heap.size + 1) = (i64s ys).toArray ∧ row wr (w.heap.size + 1 + 1) = (zeros 16 (Value.int .i64 0)).toArray ∧ Below w.heap.size w wr) (fun i _ => 16 - (intOf i).toNat)
 case atStart =>
  refine ⟨0, by omega, rfl, by simp [go_sem, upTo], by simp [go_sem], by simp [go_sem], ?_⟩
  (repeat (first | exact Below.refl _ _ | refine Below.al ?_ _ | refine Below.drew ?_ | refine Below.sr ?_ _ | refine Below.sc ?_ _))
 case round =>
  obtain ⟨k, hk, rfl, hX, hY, hR, hbel⟩ := hrel
  obtain ⟨L, hL⟩ : ∃ L, upTo (plusF ys) k xs = L := ⟨_, rfl⟩
  have hLl : L.length = 16 := by rw [← hL, upTo_length (plusF_length ys), hx]
  rw [hL] at hX
  have HL := h_ hL
  clear hL
  by_cases hlt : k < 16
  ·
   have h1 : (k : Int) < 16 := by omega
   have hk1 : k < L.length := by omega
   have hk2 : k < ys.length := by omega
   go_wp2_with fail
   go_region
   go_wp2_with fail
   go_roundw
   case rel =>
    have e : upTo (plusF ys) (k + 1) xs = L.set k (wrap64 (L[k] + ys[k])) := by
     rw [upTo, HL.out]
     simp [plusF, List.getD_eq_getElem?_getD, hk1, hk2]
    refine ⟨k + 1, by omega, rfl, ?_, by (try show row (World.setRow _ _ _) _ = _); rw [row_setRow_other _ _ _ (by omega)]; exact hY, by (try show row (World.setRow _ _ _) _ = _); rw [row_setRow_other _ _ _ (by omega)]; exact hR, ?_⟩
    ·
     rw [e]
     exact row_setRow_same (by rw [hX]; simp; omega) (by rw [hX]; simp)
    ·
     refine Below.drew (Below.setRow hbel (Nat.le_refl _) _)
   case measure => simp [intOf]; omega
  ·
   obtain rfl : k = 16 := by omega
   rw [show ((16 : Nat) : Int) = 16 from rfl]
   go_wp2_with fail
   have e : L = plusL xs ys := HL.out.symm
   rw [e] at hX hLl ⊢
   have hfin := row_setRow_same (w := wr) (g := w.heap.size + 1 + 1) (c := (i64s (plusL xs ys)).toArray) (by rw [hR]; simp) (by rw [hR]; simp [hLl])
   (try simp only [Exit.inBlock, Exit.then])
   refine bodyPost_ret (results_1 rfl (resOk_row rfl ?_)) rfl ?_
   ·
    rw [hfin]
    simp [hLl]
   refine ⟨by rw [hfin], ?_⟩
   exact Below.setRow hbel (by omega) _
def lessF (ys : List Int) (i : Nat) (l : List Int) : List Int := l.set i (wrap64 (l.getD i 0 - ys.getD i 0))
def lessL (xs ys : List Int) : List Int := upTo (lessF ys) 16 xs
theorem lessF_length (ys : List Int) (i : Nat) (l : List Int) : (lessF ys i l).length = l.length := by simp [lessF]
theorem less_any (xs ys : List Int) (w : World) (hx : xs.length = 16) (hy : ys.length = 16) :
  Calls Tryz.prog 255 #[.agg (i64s xs).toArray, .agg (i64s ys).toArray] w fun e w' => e = .returned (.agg (i64s (lessL xs ys)).toArray) ∧ Below w.heap.size w w' := by
 go_enter Tryz.func255, Tryz.ntmps255
 go_wp2_with fail
 go_loopw [6] (fun i wr => ∃ k : Nat, k ≤ 16 ∧ i = .int .i64 k ∧ row wr w.heap.size = (i64s (upTo (lessF ys) k xs)).toArray ∧ row wr (w.heap.size + 1) = (i64s ys).toArray ∧ row wr (w.heap.size + 1 + 1) = (zeros 16 (Value.int .i64 0)).toArray ∧ Below w.heap.size w wr) (fun i _ => 16 - (intOf i).toNat)
 case atStart =>
  refine ⟨0, by omega, rfl, by simp [go_sem, upTo], by simp [go_sem], by simp [go_sem], ?_⟩
  (repeat (first | exact Below.refl _ _ | refine Below.al ?_ _ | refine Below.drew ?_ | refine Below.sr ?_ _ | refine Below.sc ?_ _))
 case round =>
  obtain ⟨k, hk, rfl, hX, hY, hR, hbel⟩ := hrel
  obtain ⟨L, hL⟩ : ∃ L, upTo (lessF ys) k xs = L := ⟨_, rfl⟩
  have hLl : L.length = 16 := by rw [← hL, upTo_length (lessF_length ys), hx]
  rw [hL] at hX
  have HL := h_ hL
  clear hL
  by_cases hlt : k < 16
  ·
   have h1 : (k : Int) < 16 := by omega
   have hk1 : k < L.length := by omega
   have hk2 : k < ys.length := by omega
   go_wp2_with fail
   go_region
   go_wp2_with fail
   go_roundw
   case rel =>
    have e : upTo (lessF ys) (k + 1) xs = L.set k (wrap64 (L[k] - ys[k])) := by
     rw [upTo, HL.out]
     simp [lessF, List.getD_eq_getElem?_getD, hk1, hk2]
    refine ⟨k + 1, by omega, rfl, ?_, by (try show row (World.setRow _ _ _) _ = _); rw [row_setRow_other _ _ _ (by omega)]; exact hY, by (try show row (World.setRow _ _ _) _ = _); rw [row_setRow_other _ _ _ (by omega)]; exact hR, ?_⟩
    ·
     rw [e]
     exact row_setRow_same (by rw [hX]; simp; omega) (by rw [hX]; simp)
    ·
     refine Below.drew (Below.setRow hbel (Nat.le_refl _) _)
   case measure => simp [intOf]; omega
  ·
   obtain rfl : k = 16 := by omega
   rw [show ((16 : Nat) : Int) = 16 from rfl]
   go_wp2_with fail
   have e : L = lessL xs ys := HL.out.symm
   rw [e] at hX hLl ⊢
   have hfin := row_setRow_same (w := wr) (g := w.heap.size + 1 + 1) (c := (i64s (lessL xs ys)).toArray) (by rw [hR]; simp) (by rw [hR]; simp [hLl])
   (try simp only [Exit.inBlock, Exit.then])
   refine bodyPost_ret (results_1 rfl (resOk_row rfl ?_)) rfl ?_
   ·
    rw [hfin]
    simp [hLl]
   refine ⟨by rw [hfin], ?_⟩
   exact Below.setRow hbel (by omega) _
def wholeF (i : Nat) (l : List Int) : List Int := (l.set i (wrap64 (l.getD i 0 - wrap64 (l.getD i 0 / 65536 * 65536)))).set (i + 1) (wrap64 (l.getD (i + 1) 0 + l.getD i 0 / 65536))
def wholeL (xs : List Int) : List Int := upTo wholeF 15 xs
theorem wholeF_length (i : Nat) (l : List Int) : (wholeF i l).length = l.length := by simp [wholeF]
theorem wholeL_length (l : List Int) : (wholeL l).length = l.length := upTo_length wholeF_length _ _
theorem whole_any (xs : List Int) (w : World) (hx : xs.length = 16) :
  Calls Tryz.prog 257 #[.agg (i64s xs).toArray] w fun e w' => e = .returned (.agg (i64s (wholeL xs)).toArray) ∧ Below w.heap.size w w' := by
 go_enter Tryz.func257, Tryz.ntmps257
 go_wp2_with fail
 go_loopw [5] (fun i wr => ∃ k : Nat, k ≤ 15 ∧ i = .int .i64 k ∧ row wr w.heap.size = (i64s (upTo wholeF k xs)).toArray ∧ row wr (w.heap.size + 1) = (zeros 16 (Value.int .i64 0)).toArray ∧ Below w.heap.size w wr) (fun i _ => 15 - (intOf i).toNat)
 case atStart =>
  refine ⟨0, by omega, rfl, by simp [go_sem, upTo], by simp [go_sem], ?_⟩
  (repeat (first | exact Below.refl _ _ | refine Below.al ?_ _ | refine Below.drew ?_ | refine Below.sr ?_ _ | refine Below.sc ?_ _))
 case round =>
  obtain ⟨k, hk, rfl, hX, hR, hbel⟩ := hrel
  obtain ⟨L, hL⟩ : ∃ L, upTo wholeF k xs = L := ⟨_, rfl⟩
  have hLl : L.length = 16 := by rw [← hL, upTo_length wholeF_length, hx]
  rw [hL] at hX
  have HL := h_ hL
  clear hL
  by_cases hlt : k < 15
  ·
   have h1 : (k : Int) < 15 := by omega
   have hk1 : k < L.length := by omega
   have hk2 : k + 1 < L.length := by omega
   have hk3 : k < 16 := by omega
   have hk4 : k + 1 < 16 := by omega
   have hX1 := row_setRow_same (w := wr) (g := w.heap.size) (c := (i64s (L.set k (wrap64 (L[k] - wrap64 (L[k] / 65536 * 65536))))).toArray) (by rw [hX]; simp; omega) (by rw [hX]; simp)
   go_wp2_with fail
   go_roundw
   case rel =>
    have e : upTo wholeF (k + 1) xs = (L.set k (wrap64 (L[k] - wrap64 (L[k] / 65536 * 65536)))).set (k + 1) (wrap64 (L[k + 1] + L[k] / 65536)) := by
     rw [upTo, HL.out]
     simp [wholeF, List.getD_eq_getElem?_getD, hk1, hk2]
    refine ⟨k + 1, by omega, rfl, ?_, by (try show row (World.setRow _ _ _) _ = _); rw [row_setRow_other _ _ _ (by omega)]; exact hR, ?_⟩
    ·
     rw [e]
     exact row_setRow_same (by rw [hX]; simp; omega) (by rw [hX]; simp)
    ·
     refine Below.setRow hbel (Nat.le_refl _) _
   case measure => simp [intOf]; omega
  ·
   obtain rfl : k = 15 := by omega
   rw [show ((15 : Nat) : Int) = 15 from rfl]
   go_wp2_with fail
   have e : L = wholeL xs := HL.out.symm
   rw [e] at hX hLl ⊢
   have hfin := row_setRow_same (w := wr) (g := w.heap.size + 1) (c := (i64s (wholeL xs)).toArray) (by rw [hR]; simp) (by rw [hR]; simp [hLl])
   (try simp only [Exit.inBlock, Exit.then])
   refine bodyPost_ret (results_1 rfl (resOk_row rfl ?_)) rfl ?_
   ·
    rw [hfin]
    simp [hLl]
   refine ⟨by rw [hfin], ?_⟩
   exact Below.setRow hbel (by omega) _
def carriedF (i : Nat) (l : List Int) : List Int := if i + 1 < 16 then (l.set i (wrap64 (l.getD i 0 - wrap64 (l.getD i 0 / 65536 * 65536)))).set (i + 1) (wrap64 (l.getD (i + 1) 0 + l.getD i 0 / 65536)) else (l.set i (wrap64 (l.getD i 0 - wrap64 (l.getD i 0 / 65536 * 65536)))).set 0 (wrap64 (l.getD 0 0 + wrap64 (38 * (l.getD i 0 / 65536))))
def carriedL (xs : List Int) : List Int := upTo carriedF 16 xs
theorem carriedF_length (i : Nat) (l : List Int) : (carriedF i l).length = l.length := by unfold carriedF; split <;> simp
theorem carriedL_length (l : List Int) : (carriedL l).length = l.length := upTo_length carriedF_length _ _
theorem carried_any (xs : List Int) (w : World) (hx : xs.length = 16) :
  Calls Tryz.prog 256 #[.agg (i64s xs).toArray] w fun e w' => e = .returned (.agg (i64s (carriedL xs)).toArray) ∧ Below w.heap.size w w' := by
 go_enter Tryz.func256, Tryz.ntmps256
 go_wp2_with fail
 go_loopw [5] (fun i wr => ∃ k : Nat, k ≤ 16 ∧ i = .int .i64 k ∧ row wr w.heap.size = (i64s (upTo carriedF k xs)).toArray ∧ row wr (w.heap.size + 1) = (zeros 16 (Value.int .i64 0)).toArray ∧ Below w.heap.size w wr) (fun i _ => 16 - (intOf i).toNat)
 case atStart =>
  refine ⟨0, by omega, rfl, by simp [go_sem, upTo], by simp [go_sem], ?_⟩
  (repeat (first | exact Below.refl _ _ | refine Below.al ?_ _ | refine Below.drew ?_ | refine Below.sr ?_ _ | refine Below.sc ?_ _))
 case round =>
  obtain ⟨k, hk, rfl, hX, hR, hbel⟩ := hrel
  obtain ⟨L, hL⟩ : ∃ L, upTo carriedF k xs = L := ⟨_, rfl⟩
  have hLl : L.length = 16 := by rw [← hL, upTo_length carriedF_length, hx]
  rw [hL] at hX
  have HL := h_ hL
  clear hL
  by_cases hlt : k < 16
  ·
   have h1 : (k : Int) < 16 := by omega
   have hk1 : k < L.length := by omega
   have hk3 : k < 16 := by omega
   have hX1 := row_setRow_same (w := wr) (g := w.heap.size) (c := (i64s (L.set k (wrap64 (L[k] - wrap64 (L[k] / 65536 * 65536))))).toArray) (by rw [hX]; simp; omega) (by rw [hX]; simp)
   by_cases hk15 : k + 1 < 16
   ·
    have hk2 : k + 1 < L.length := by omega
    have hk5 : (k : Int) + 1 < 16 := by omega
    go_wp2_with fail
    go_roundw
    case rel =>
     have e : upTo carriedF (k + 1) xs = (L.set k (wrap64 (L[k] - wrap64 (L[k] / 65536 * 65536)))).set (k + 1) (wrap64 (L[k + 1] + L[k] / 65536)) := by
      rw [upTo, HL.out]
      simp [carriedF, List.getD_eq_getElem?_getD, hk1, hk2, hk15]
     refine ⟨k + 1, by omega, rfl, ?_, by (try show row (World.setRow _ _ _) _ = _); rw [row_setRow_other _ _ _ (by omega)]; exact hR, ?_⟩
     ·
      rw [e]
      exact row_setRow_same (by rw [hX]; simp; omega) (by rw [hX]; simp)
     ·
      refine Below.setRow hbel (Nat.le_refl _) _
    case measure => simp [intOf]; omega
   ·
    obtain rfl : k = 15 := by omega
    have hk0 : 0 < L.length := by omega
    rw [show ((15 : Nat) : Int) = 15 from rfl]
    go_wp2_with fail
    go_roundw
    case rel =>
     have e : upTo carriedF 16 xs = (L.set 15 (wrap64 (L[15] - wrap64 (L[15] / 65536 * 65536)))).set 0 (wrap64 (L[0] + wrap64 (38 * (L[15] / 65536)))) := by
      rw [upTo, HL.out]
      simp [carriedF, List.getD_eq_getElem?_getD, hk1, hk0]
     refine ⟨16, by omega, rfl, ?_, by (try show row (World.setRow _ _ _) _ = _); rw [row_setRow_other _ _ _ (by omega)]; exact hR, ?_⟩
     ·
      rw [e]
      exact row_setRow_same (by rw [hX]; simp; omega) (by rw [hX]; simp)
     ·
      refine Below.setRow hbel (Nat.le_refl _) _
    case measure => simp [intOf]
  ·
   obtain rfl : k = 16 := by omega
   rw [show ((16 : Nat) : Int) = 16 from rfl]
   go_wp2_with fail
   have e : L = carriedL xs := HL.out.symm
   rw [e] at hX hLl ⊢
   have hfin := row_setRow_same (w := wr) (g := w.heap.size + 1) (c := (i64s (carriedL xs)).toArray) (by rw [hR]; simp) (by rw [hR]; simp [hLl])
   (try simp only [Exit.inBlock, Exit.then])
   refine bodyPost_ret (results_1 rfl (resOk_row rfl ?_)) rfl ?_
   ·
    rw [hfin]
    simp [hLl]
   refine ⟨by rw [hfin], ?_⟩
   exact Below.setRow hbel (by omega) _
end
section
open Go.RowKit
def mulF (xs ys : List Int) (i j : Nat) (t : List Int) : List Int := t.set (i + j) (wrap64 (t.getD (i + j) 0 + wrap64 (xs.getD i 0 * ys.getD j 0)))
def rowF (xs ys : List Int) (i : Nat) (t : List Int) : List Int := upTo (mulF xs ys i) 16 t
def prodL (xs ys : List Int) : List Int := upTo (rowF xs ys) 16 (List.replicate 31 0)
def foldF (t : List Int) (i : Nat) (o : List Int) : List Int := if i + 16 < 31 then o.set i (wrap64 (t.getD i 0 + wrap64 (38 * t.getD (i + 16) 0))) else o.set i (t.getD i 0)
def foldL (t : List Int) : List Int := upTo (foldF t) 16 (List.replicate 16 0)
def timesL (xs ys : List Int) : List Int := carriedL (carriedL (foldL (prodL xs ys)))
theorem mulF_length (xs ys : List Int) (i j : Nat) (t : List Int) : (mulF xs ys i j t).length = t.length := by simp [mulF]
theorem rowF_length (xs ys : List Int) (i : Nat) (t : List Int) : (rowF xs ys i t).length = t.length := upTo_length (mulF_length xs ys i) _ _
theorem foldF_length (t : List Int) (i : Nat) (o : List Int) : (foldF t i o).length = o.length := by unfold foldF; split <;> simp
theorem foldL_length (t : List Int) : (foldL t).length = 16 := by simp [foldL, upTo_length (foldF_length t)]
theorem timesL_length (xs ys : List Int) : (timesL xs ys).length = 16 := by simp [timesL, carriedL_length, foldL_length]
theorem times_any (xs ys : List Int) (w : World) (hx : xs.length = 16) (hy : ys.length = 16) :
  Calls Tryz.prog 227 #[.agg (i64s xs).toArray, .agg (i64s ys).toArray] w fun e w' => e = .returned (.agg (i64s (timesL xs ys)).toArray) ∧ Below w.heap.size w w' := by
 go_enter Tryz.func227, Tryz.ntmps227
 go_wp2_with fail
 go_loopw [10] (fun i wr => ∃ k : Nat, k ≤ 16 ∧ i = .int .i64 k ∧ row wr w.heap.size = (i64s xs).toArray ∧ row wr (w.heap.size + 1) = (i64s ys).toArray ∧ row wr (w.heap.size + 1 + 1) = (zeros 16 (Value.int .i64 0)).toArray ∧ row wr (w.heap.size + 1 + 1 + 1) = (i64s (upTo (rowF xs ys) k (List.replicate 31 0))).toArray ∧ w.heap.size + 1 + 1 + 1 < wr.heap.size ∧ Below w.heap.size w wr) (fun i _ => 16 - (intOf i).toNat)
 case atStart =>
  refine ⟨0, by omega, rfl, by simp [go_sem], by simp [go_sem], by simp [go_sem], by simp [go_sem, upTo]; rfl, by simp, ?_⟩
  (repeat (first | exact Below.refl _ _ | refine Below.al ?_ _ | refine Below.drew ?_ | refine Below.sr ?_ _ | refine Below.sc ?_ _))
 case round =>
  obtain ⟨k, hk, rfl, hX, hY, hR, hT, hsz, hbel⟩ := hrel
  obtain ⟨L, hL⟩ : ∃ L, upTo (rowF xs ys) k (List.replicate 31 0) = L := ⟨_, rfl⟩
  have hLl : L.length = 31 := by rw [← hL, upTo_length (rowF_length xs ys)]; simp
  rw [hL] at hT
  have HL := h_ hL
  clear hL
  by_cases hlt : k < 16
  ·
   have h1 : (k : Int) < 16 := by omega
   go_wp2_with fail
   go_loopw [13] (fun j wq => ∃ m : Nat, m ≤ 16 ∧ j = .int .i64 m ∧ row wq w.heap.size = (i64s xs).toArray ∧ row wq (w.heap.size + 1) = (i64s ys).toArray ∧ row wq (w.heap.size + 1 + 1) = (zeros 16 (Value.int .i64 0)).toArray ∧ row wq (w.heap.size + 1 + 1 + 1) = (i64s (upTo (mulF xs ys k) m L)).toArray ∧ w.heap.size + 1 + 1 + 1 < wq.heap.size ∧ Below w.heap.size w wq) (fun j _ => 16 - (intOf j).toNat)
   case atStart => exact ⟨0, by omega, rfl, hX, hY, hR, hT, hsz, hbel⟩
   case round =>
    clear hX hY hR hT hsz hbel
    obtain ⟨m, hm, rfl, hX, hY, hR, hT, hsz, hbel⟩ := hrel
    obtain ⟨M, hM⟩ : ∃ M, upTo (mulF xs ys k) m L = M := ⟨_, rfl⟩
    have hMl : M.length = 31 := by rw [← hM, upTo_length (mulF_length xs ys k), hLl]
    rw [hM] at hT
    have HM := h_ hM
    clear hM
    by_cases hlt2 : m < 16
    ·
     have h2 : (m : Int) < 16 := by omega
     have hk1 : k < xs.length := by omega
     have hk2 : m < ys.length := by omega
     have hk3 : k + m < M.length := by omega
     have hk4 : k + m < 31 := by omega
     go_wp2_with fail
     go_region
     go_wp2_with fail
     go_roundw
     case rel =>
      have e : upTo (mulF xs ys k) (m + 1) L = M.set (k + m) (wrap64 (M[k + m] + wrap64 (xs[k] * ys[m]))) := by
       rw [upTo, HM.out]
       simp [mulF, List.getD_eq_getElem?_getD, hk1, hk2, hk3]
      refine ⟨m + 1, by omega, rfl, by (try show row (World.setRow _ _ _) _ = _); rw [row_setRow_other _ _ _ (by omega)]; exact hX, by (try show row (World.setRow _ _ _) _ = _); rw [row_setRow_other _ _ _ (by omega)]; exact hY, by (try show row (World.setRow _ _ _) _ = _); rw [row_setRow_other _ _ _ (by omega)]; exact hR, ?_, by simpa using hsz, ?_⟩
      ·
       rw [e]
       exact row_setRow_same (by rw [hT]; simp; omega) (by rw [hT]; simp)
      ·
       refine Below.drew (Below.setRow hbel (by omega) _)
     case measure => simp [intOf]; omega
    ·
     obtain rfl : m = 16 := by omega
     rw [show ((16 : Nat) : Int) = 16 from rfl]
     go_wp2_with fail
     go_roundw
     case rel => exact ⟨k + 1, by omega, rfl, hX, hY, hR, by rw [hT, upTo, HL.out]; exact congrArg (fun q => (i64s q).toArray) HM.out.symm, hsz, hbel⟩
     case measure => simp [intOf]; omega
  ·
   obtain rfl : k = 16 := by omega
   rw [show ((16 : Nat) : Int) = 16 from rfl]
   go_wp2_with fail
   have q1 : w.heap.size + 1 + 1 < wr.heap.size := by omega
   have q0 : w.heap.size < wr.heap.size := by omega
   have q2 : w.heap.size + 1 < wr.heap.size := by omega
   obtain ⟨O, hOO⟩ : ∃ O, wr.heap.size = O := ⟨_, rfl⟩
   rw [hOO]
   go_loopw [32] (fun i wq => ∃ k : Nat, k ≤ 16 ∧ i = .int .i64 k ∧ row wq (w.heap.size + 1 + 1) = (zeros 16 (Value.int .i64 0)).toArray ∧ row wq (w.heap.size + 1 + 1 + 1) = (i64s L).toArray ∧ row wq O = (i64s (upTo (foldF L) k (List.replicate 16 0))).toArray ∧ O < wq.heap.size ∧ w.heap.size + 1 + 1 + 1 < O ∧ Below w.heap.size w wq) (fun i _ => 16 - (intOf i).toNat)
   case atStart =>
    refine ⟨0, by omega, rfl, by simp [go_sem, hR, q1], by simp [go_sem, hT, hsz], by rw [row_alloc_at _ _ _ hOO.symm]; rfl, by simp [hOO], by omega, ?_⟩
    exact Below.alloc hbel (by omega) _
   case round =>
    have HT := h_ hT
    clear hX hY hR hT hsz q0 q1 q2 hOO hbel
    obtain ⟨k, hk, rfl, hR, hT, hO, hsz2, hsz, hbel2⟩ := hrel
    obtain ⟨M, hM⟩ : ∃ M, upTo (foldF L) k (List.replicate 16 0) = M := ⟨_, rfl⟩
    have hMl : M.length = 16 := by rw [← hM, upTo_length (foldF_length L)]; simp
    rw [hM] at hO
    have HM := h_ hM
    clear hM
    by_cases hlt : k < 16
    ·
     have h1 : (k : Int) < 16 := by omega
     have hk1 : k < L.length := by omega
     have hk2 : k < M.length := by omega
     have hk3 : k < 31 := by omega
     have hT1 := row_setRow_other (w := wr) O (w.heap.size + 1 + 1 + 1) (i64s (M.set k L[k])).toArray (by omega)
     rw [hT] at hT1
     have hX1 := row_setRow_same (w := wr) (g := O) (c := (i64s (M.set k L[k])).toArray) (by rw [hO]; simp; omega) (by rw [hO]; simp)
     by_cases hk15 : k + 16 < 31
     ·
      have hk5 : (k : Int) + 16 < 31 := by omega
      have hk6 : k + 16 < L.length := by omega
      go_wp2_with fail
      go_region
      go_wp2_with fail
      go_roundw
      case rel =>
       have e : upTo (foldF L) (k + 1) (List.replicate 16 0) = M.set k (wrap64 (L[k] + wrap64 (38 * L[k + 16]))) := by
        rw [upTo, HM.out, foldF, if_pos hk15]
        simp [List.getD_eq_getElem?_getD, hk1, hk6]
       refine ⟨k + 1, by omega, rfl, by (try show row (World.setRow _ _ _) _ = _); rw [row_setRow_other _ _ _ (by omega)]; exact hR, by (try show row (World.setRow _ _ _) _ = _); rw [row_setRow_other _ _ _ (by omega)]; exact hT, ?_, by simpa using hsz2, hsz, ?_⟩
       ·
        rw [e]
        exact row_setRow_same (by rw [hO]; simp; omega) (by rw [hO]; simp)
       ·
        refine Below.drew (Below.setRow hbel2 (by omega) _)
      case measure => simp [intOf]; omega
     ·
      have hk5 : ¬ (k : Int) + 16 < 31 := by omega
      go_wp2_with fail
      go_roundw
      case rel =>
       have e : upTo (foldF L) (k + 1) (List.replicate 16 0) = M.set k L[k] := by
        rw [upTo, HM.out, foldF, if_neg hk15]
        simp [List.getD_eq_getElem?_getD, hk1]
       refine ⟨k + 1, by omega, rfl, by (try show row (World.setRow _ _ _) _ = _); rw [row_setRow_other _ _ _ (by omega)]; exact hR, hT1, ?_, by simpa using hsz2, hsz, ?_⟩
       ·
        rw [e]
        exact hX1
       ·
        refine Below.setRow hbel2 (by omega) _
      case measure => simp [intOf]; omega
    ·
     obtain rfl : k = 16 := by omega
     rw [show ((16 : Nat) : Int) = 16 from rfl]
     go_wp2_with fail
     refine (carried_any M _ hMl).mono ?_
     rintro e w2 ⟨rfl, hb2⟩
     have z2 := (hb2).size
     try simp at z2
     replace hR := (row_below hb2 (by omega)).trans hR
     go_wp2_with fail
     refine (carried_any (carriedL M) _ (by rw [carriedL_length]; exact hMl)).mono ?_
     rintro e w3 ⟨rfl, hb3⟩
     have z3 := (hb3).size
     try simp at z3
     replace hR := (row_below hb3 (by omega)).trans hR
     have hlast : (carriedL (carriedL M)).length = 16 := by rw [carriedL_length, carriedL_length]; exact hMl
     go_wp2_with fail
     have hfin := row_setRow_same (w := w3) (g := w.heap.size + 1 + 1) (c := (i64s (carriedL (carriedL M))).toArray) (by rw [hR]; simp) (by rw [hR]; simp [hlast])
     (try simp only [Exit.inBlock, Exit.then])
     refine bodyPost_ret (results_1 rfl (resOk_row rfl ?_)) rfl ?_
     ·
      rw [hfin]
      simp [hlast]
     have e1 : prodL xs ys = L := HL.out
     have e2 : foldL (prodL xs ys) = M := by rw [e1]; exact HM.out
     refine ⟨by rw [hfin, timesL, e2], ?_⟩
     refine Below.setRow ?_ (by omega) _
     refine Below.trans ?_ (Below.mono hb3 (by first | (simp; done) | (simp; omega) | omega))
     refine Below.trans ?_ (Below.mono hb2 (by first | (simp; done) | (simp; omega) | omega))
     exact hbel2
end
section
open Go.RowKit
def invF (xs : List Int) (k : Nat) (o : List Int) : List Int := if k = 251 ∨ k = 249 then timesL o o else timesL (timesL o o) xs
def invL (xs : List Int) : List Int := upTo (invF xs) 254 xs
theorem invF_length (xs : List Int) (k : Nat) (o : List Int) : (invF xs k o).length = 16 := by unfold invF; split <;> exact timesL_length _ _
theorem invL_upTo_length (xs : List Int) (hx : xs.length = 16) (k : Nat) : (upTo (invF xs) k xs).length = 16 := by
 cases k with
 | zero => exact hx
 | succ k => exact invF_length _ _ _
attribute [local irreducible] upTo timesL
theorem inverse_any (xs : List Int) (w : World) (hx : xs.length = 16) :
  Calls Tryz.prog 228 #[.agg (i64s xs).toArray] w fun e w' => e = .returned (.agg (i64s (invL xs)).toArray) ∧ Below w.heap.size w w' := by
 go_enter Tryz.func228, Tryz.ntmps228
 go_wp2_with fail
 go_loopw [4] (fun i wr => ∃ k : Nat, k ≤ 254 ∧ i = .int .i64 (253 - (k : Int)) ∧ row wr w.heap.size = (i64s xs).toArray ∧ row wr (w.heap.size + 1) = (zeros 16 (Value.int .i64 0)).toArray ∧ row wr (w.heap.size + 1 + 1) = (i64s (upTo (invF xs) k xs)).toArray ∧ w.heap.size + 1 + 1 < wr.heap.size ∧ Below w.heap.size w wr) (fun i _ => (intOf i + 1).toNat)
 case atStart =>
  refine ⟨0, by omega, rfl, by simp [go_sem], by simp [go_sem], by simp [go_sem, upTo], by simp, ?_⟩
  (repeat (first | exact Below.refl _ _ | refine Below.al ?_ _ | refine Below.drew ?_ | refine Below.sr ?_ _ | refine Below.sc ?_ _))
 case round =>
  obtain ⟨k, hk, rfl, hX, hR, hO, hsz, hbel⟩ := hrel
  obtain ⟨L, hL⟩ : ∃ L, upTo (invF xs) k xs = L := ⟨_, rfl⟩
  have hLl : L.length = 16 := by rw [← hL]; exact invL_upTo_length xs hx k
  rw [hL] at hO
  have HL := h_ hL
  clear hL
  by_cases hlt : k < 254
  ·
   obtain ⟨j, hj⟩ : ∃ j : Nat, 253 - (k : Int) = j := ⟨253 - k, by omega⟩
   rw [hj]
   have HJ := h_ hj
   have hj253 : j = 253 - k := by omega
   clear hj
   go_wp2_with fail
   refine (times_any L L _ hLl hLl).mono ?_
   rintro e w2 ⟨rfl, hb2⟩
   have z2 := (hb2).size
   try simp at z2
   replace hX := (row_below hb2 (by omega)).trans hX
   replace hR := (row_below hb2 (by omega)).trans hR
   replace hO := (row_below hb2 (by omega)).trans hO
   have htl := timesL_length L L
   have hX2 := row_setRow_other (w := w2) (w.heap.size + 1 + 1) w.heap.size (i64s (timesL L L)).toArray (by omega)
   rw [hX] at hX2
   have hR2 := row_setRow_other (w := w2) (w.heap.size + 1 + 1) (w.heap.size + 1) (i64s (timesL L L)).toArray (by omega)
   rw [hR] at hR2
   have hO2 := row_setRow_same (w := w2) (g := w.heap.size + 1 + 1) (c := (i64s (timesL L L)).toArray) (by rw [hO]; simp; omega) (by rw [hO]; simp; omega)
   have hbw2 : Below w.heap.size w (w2.setRow (w.heap.size + 1 + 1) (i64s (timesL L L)).toArray) := by
    refine Below.setRow ?_ (by omega) _
    refine Below.trans ?_ (Below.mono hb2 (by first | (simp; done) | (simp; omega) | omega))
    exact hbel
   by_cases hs : k = 251 ∨ k = 249
   ·
    have e : upTo (invF xs) (k + 1) xs = timesL L L := by rw [upTo, HL.out, invF, if_pos hs]
    rcases hs with rfl | rfl
    ·
     obtain rfl : j = 2 := by omega
     go_wp2_with fail
     go_roundw
     case rel => exact ⟨251 + 1, by omega, by simp, hX2, hR2, by rw [e]; exact hO2, by simp; omega, hbw2⟩
     case measure => simp [intOf]
    ·
     obtain rfl : j = 4 := by omega
     go_wp2_with fail
     go_roundw
     case rel => exact ⟨249 + 1, by omega, by simp, hX2, hR2, by rw [e]; exact hO2, by simp; omega, hbw2⟩
     case measure => simp [intOf]
   ·
    have e : upTo (invF xs) (k + 1) xs = timesL (timesL L L) xs := by rw [upTo, HL.out, invF, if_neg hs]
    have hj2 : ((j : Int) != 2) = true := by simp; omega
    have hj4 : ((j : Int) != 4) = true := by simp; omega
    have hjb : j ≤ 253 := by omega
    have hjw : wrap64 ((j : Int) - 1) = (j : Int) - 1 := by unfold wrap64; omega
    clear hj253
    go_wp2_with fail
    refine (times_any (timesL L L) xs _ htl hx).mono ?_
    rintro e w3 ⟨rfl, hb3⟩
    have z3 := (hb3).size
    try simp at z3
    have htl2 := timesL_length (timesL L L) xs
    replace hX2 := (row_below hb3 (by simp; omega)).trans hX2
    replace hR2 := (row_below hb3 (by simp; omega)).trans hR2
    replace hO2 := (row_below hb3 (by simp; omega)).trans hO2
    go_wp2_with fail
    go_roundw
    case rel =>
     refine ⟨k + 1, by omega, ?_, by (try show row (World.setRow _ _ _) _ = _); rw [row_setRow_other _ _ _ (by omega)]; exact hX2, by (try show row (World.setRow _ _ _) _ = _); rw [row_setRow_other _ _ _ (by omega)]; exact hR2, ?_, by simp; omega, ?_⟩
     ·
      have := HJ.out
      simp
      omega
     ·
      rw [e]
      exact row_setRow_same (by rw [hO2]; simp; omega) (by rw [hO2]; simp; omega)
     ·
      refine Below.setRow ?_ (by omega) _
      refine Below.trans hbw2 (Below.mono hb3 (by simp; omega))
    case measure => first | (simp [intOf]; done) | (simp [intOf]; omega)
  ·
   obtain rfl : k = 254 := by omega
   rw [show (253 : Int) - ((254 : Nat) : Int) = -1 from rfl]
   go_wp2_with fail
   have e : L = invL xs := HL.out.symm
   rw [e] at hO hLl ⊢
   have hfin := row_setRow_same (w := wr) (g := w.heap.size + 1) (c := (i64s (invL xs)).toArray) (by rw [hR]; simp) (by rw [hR]; simp [hLl])
   (try simp only [Exit.inBlock, Exit.then])
   refine bodyPost_ret (results_1 rfl (resOk_row rfl ?_)) rfl ?_
   ·
    rw [hfin]
    simp [hLl]
   refine ⟨by rw [hfin], ?_⟩
   exact Below.setRow hbel (by omega) _
def lessPY (xs : List Int) : List Int := wholeL (xs.set 0 (wrap64 (xs.getD 0 0 + 19)))
def lessPL (xs : List Int) : List Int := if (lessPY xs).getD 15 0 / 32768 = 0 then lessPY xs else (lessPY xs).set 15 (wrap64 ((lessPY xs).getD 15 0 - 32768))
def lessPB (xs : List Int) : Bool := !((lessPY xs).getD 15 0 / 32768 == 0)
theorem lessPY_length (xs : List Int) (hx : xs.length = 16) : (lessPY xs).length = 16 := by rw [lessPY, wholeL_length]; simpa using hx
theorem lessPL_length (xs : List Int) (hx : xs.length = 16) : (lessPL xs).length = 16 := by unfold lessPL; split <;> simp [lessPY_length xs hx]
attribute [local irreducible] wholeL
theorem lessP_any (xs : List Int) (w : World) (hx : xs.length = 16) :
  Calls Tryz.prog 258 #[.agg (i64s xs).toArray] w fun e w' => e = .returned (.tuple #[.agg (i64s (lessPL xs)).toArray, .bool (lessPB xs)]) ∧ Below w.heap.size w w' := by
 have h0 : 0 < xs.length := by omega
 obtain ⟨ys, hys⟩ : ∃ ys, xs.set 0 (wrap64 (xs[0] + 19)) = ys := ⟨_, rfl⟩
 have hyl : ys.length = 16 := by rw [← hys]; simpa using hx
 have hP : lessPY xs = wholeL ys := by rw [lessPY, ← hys]; simp [List.getD_eq_getElem?_getD, h0]
 obtain ⟨zs, hzs⟩ : ∃ zs, wholeL ys = zs := ⟨_, rfl⟩
 have hzl : zs.length = 16 := by rw [← hzs, wholeL_length]; exact hyl
 have h15 : 15 < zs.length := by omega
 have hg : zs.getD 15 0 = zs[15] := by simp [List.getD_eq_getElem?_getD, h15]
 have hL : lessPL xs = if zs[15] / 32768 = 0 then zs else zs.set 15 (wrap64 (zs[15] - 32768)) := by rw [lessPL, hP, hzs, hg]
 have hB : lessPB xs = !(zs[15] / 32768 == 0) := by rw [lessPB, hP, hzs, hg]
 rw [hL, hB]
 have HW := whole_any ys
 rw [hzs] at HW
 have HW2 := h_ HW
 have HY := h_ hys
 clear HW hys hL hB hP hzs hg
 go_enter Tryz.func258, Tryz.ntmps258
 go_wp2_with fail
 rw [HY.out]
 refine (HW2.out _ hyl).mono ?_
 rintro e w1 ⟨rfl, hb1⟩
 have z1 := (hb1).size
 try simp at z1
 have hX : row w1 (w.heap.size) = (i64s ys).toArray := by rw [row_below hb1 (by first | (simp; done) | (simp; omega) | omega)]; simp [go_sem]; (try rfl)
 have hR : row w1 (w.heap.size + 1) = (zeros 16 (Value.int .i64 0)).toArray := by rw [row_below hb1 (by first | (simp; done) | (simp; omega) | omega)]; simp [go_sem]; (try rfl)
 replace hb1 := below_of hb1 (show Below (w).heap.size w _ from by (repeat (first | exact Below.refl _ _ | refine Below.al ?_ _ | refine Below.drew ?_ | refine Below.sr ?_ _ | refine Below.sc ?_ _))) (by first | (simp; done) | (simp; omega) | omega)
 have hX2 := row_setRow_same (w := w1) (g := w.heap.size) (c := (i64s zs).toArray) (by rw [hX]; simp; omega) (by rw [hX]; simp; omega)
 have hR2 := row_setRow_other (w := w1) w.heap.size (w.heap.size + 1) (i64s zs).toArray (by omega)
 rw [hR] at hR2
 by_cases hc : zs[15] / 32768 = 0
 ·
  have hc2 : (zs[15] / 32768 == 0) = true := by simp [hc]
  go_wp2_with fail
  have hfin := row_setRow_same (w := w1.setRow w.heap.size (i64s zs).toArray) (g := w.heap.size + 1) (c := (i64s zs).toArray) (by rw [hR2]; simp) (by rw [hR2]; simp [hzl])
  refine bodyPost_ret (results_2 (r := .cell 2 386) (s := .tmp 3) rfl (resOk_row rfl ?_) resOk_tmp) rfl ?_
  ·
   rw [hfin]
   simp [hzl]
  refine ⟨by rw [hfin]; rfl, ?_⟩
  exact Below.setRow (Below.setRow hb1 (by omega) _) (by omega) _
 ·
  have hc2 : (zs[15] / 32768 == 0) = false := by simp [hc]
  have hX3 := row_setRow_same (w := w1) (g := w.heap.size) (c := (i64s (zs.set 15 (wrap64 (zs[15] - 32768)))).toArray) (by rw [hX]; simp; omega) (by rw [hX]; simp; omega)
  have hR3 := row_setRow_other (w := w1) w.heap.size (w.heap.size + 1) (i64s (zs.set 15 (wrap64 (zs[15] - 32768)))).toArray (by omega)
  rw [hR] at hR3
  go_wp2_with fail
  have hfin := row_setRow_same (w := w1.setRow w.heap.size (i64s (zs.set 15 (wrap64 (zs[15] - 32768)))).toArray) (g := w.heap.size + 1) (c := (i64s (zs.set 15 (wrap64 (zs[15] - 32768)))).toArray) (by rw [hR3]; simp) (by rw [hR3]; simp [hzl])
  refine bodyPost_ret (results_2 (r := .cell 2 386) (s := .tmp 3) rfl (resOk_row rfl ?_) resOk_tmp) rfl ?_
  ·
   rw [hfin]
   simp [hzl]
  refine ⟨by rw [hfin]; rfl, ?_⟩
  exact Below.setRow (Below.setRow hb1 (by omega) _) (by omega) _
end
section
open Go.RowKit
def topF (k : Nat) (l : List Int) : List Int := wholeL (let h := l.getD 15 0 / 32768; let m := l.set 15 (wrap64 (l.getD 15 0 - wrap64 (h * 32768))); m.set 0 (wrap64 (m.getD 0 0 + wrap64 (19 * h))))
def topL (xs : List Int) : List Int := upTo topF 2 (wholeL (carriedL (carriedL (carriedL xs))))
def endL (xs : List Int) : List Int := if lessPB (topL xs) then lessPL (topL xs) else topL xs
def keyF (ys : List Int) (i : Nat) (b : List UInt8) : List UInt8 := (b.set (2 * i) (byteI (ys.getD i 0))).set (2 * i + 1) (byteI (ys.getD i 0 / 256))
def keyL (xs : List Int) : List UInt8 := upTo (keyF (endL xs)) 16 (List.replicate 32 0)
theorem topF_length (k : Nat) (l : List Int) : (topF k l).length = l.length := by simp [topF, wholeL_length]
theorem keyF_length (ys : List Int) (i : Nat) (b : List UInt8) : (keyF ys i b).length = b.length := by simp [keyF]
theorem keyL_length (xs : List Int) : (keyL xs).length = 32 := by rw [keyL, upTo_len8 (keyF_length _)]; simp
theorem run_index_el (L : List Int) (k : Nat) (hL : L.length = 16) (hk : k < L.length) (w : World) :
  (Instr.index 386 (.agg (i64s L).toArray) (.int .i64 k)).run Tryz.prog w = .ok (.int .i64 L[k]) w := by
 have hk2 : k < 16 := by omega
 have hinfo : (Tryz.prog.info? 2).map (fun i => i.size) = some 1 := by kernel_rfl
 obtain ⟨inf, hi, hsz⟩ := Option.map_eq_some_iff.1 hinfo
 have hg : (i64s L)[k]? = some (.int .i64 L[k]) := by simp [i64s, hk]
 simp [Instr.index, run_underlying Tryz.underlying386, run_underlying Tryz.underlying2, asIntOf, isAgg, hk2, sizeOf, typeInfo, hi, hsz, part, hg, go_sem]
attribute [local irreducible] wholeL carriedL upTo lessPL
theorem key_any (xs : List Int) (w : World) (hx : xs.length = 16) :
  Calls Tryz.prog 229 #[.agg (i64s xs).toArray] w fun e w' => e = .returned (.agg (u8s (keyL xs)).toArray) ∧ Below w.heap.size w w' := by
 go_enter Tryz.func229, Tryz.ntmps229
 go_wp2_with fail
 have c1 : (carriedL xs).length = 16 := by rw [carriedL_length]; exact hx
 have c2 : (carriedL (carriedL xs)).length = 16 := by rw [carriedL_length]; exact c1
 have c3 : (carriedL (carriedL (carriedL xs))).length = 16 := by rw [carriedL_length]; exact c2
 refine (carried_any xs _ hx).mono ?_
 rintro e w1 ⟨rfl, hb1⟩
 have z1 := (hb1).size
 try simp at z1
 have hX : row w1 (w.heap.size) = (i64s xs).toArray := by rw [row_below hb1 (by first | (simp; done) | (simp; omega) | omega)]; simp [go_sem]; (try rfl)
 have hR : row w1 (w.heap.size + 1) = (zeros 32 (Value.int .u8 0)).toArray := by rw [row_below hb1 (by first | (simp; done) | (simp; omega) | omega)]; simp [go_sem]; (try rfl)
 replace hb1 := below_of hb1 (show Below (w).heap.size w _ from by (repeat (first | exact Below.refl _ _ | refine Below.al ?_ _ | refine Below.drew ?_ | refine Below.sr ?_ _ | refine Below.sc ?_ _))) (by first | (simp; done) | (simp; omega) | omega)
 go_wp2_with fail
 refine (carried_any _ _ c1).mono ?_
 rintro e w2 ⟨rfl, hb2⟩
 have z2 := (hb2).size
 try simp at z2
 replace hX := (row_below hb2 (by omega)).trans hX
 replace hR := (row_below hb2 (by omega)).trans hR
 go_wp2_with fail
 refine (carried_any _ _ c2).mono ?_
 rintro e w3 ⟨rfl, hb3⟩
 have z3 := (hb3).size
 try simp at z3
 replace hX := (row_below hb3 (by omega)).trans hX
 replace hR := (row_below hb3 (by omega)).trans hR
 go_wp2_with fail
 refine (whole_any _ _ c3).mono ?_
 rintro e w4 ⟨rfl, hb4⟩
 have z4 := (hb4).size
 try simp at z4
 replace hX := (row_below hb4 (by omega)).trans hX
 replace hR := (row_below hb4 (by omega)).trans hR
 have hbel : Below w.heap.size w w4 := by
  refine Below.trans ?_ (Below.mono hb4 (by first | (simp; done) | (simp; omega) | omega))
  refine Below.trans ?_ (Below.mono hb3 (by first | (simp; done) | (simp; omega) | omega))
  refine Below.trans ?_ (Below.mono hb2 (by first | (simp; done) | (simp; omega) | omega))
  exact hb1
 obtain ⟨A, hA⟩ : ∃ A, wholeL (carriedL (carriedL (carriedL xs))) = A := ⟨_, rfl⟩
 have hAl : A.length = 16 := by rw [← hA, wholeL_length]; exact c3
 rw [hA]
 have HA := h_ hA
 clear hb1 hb2 hb3 hb4 c1 c2 c3 hA
 have hX0 := row_setRow_same (w := w4) (g := w.heap.size) (c := (i64s A).toArray) (by rw [hX]; simp; omega) (by rw [hX]; simp; omega)
 have hR0 := row_setRow_other (w := w4) w.heap.size (w.heap.size + 1) (i64s A).toArray (by omega)
 rw [hR] at hR0
 go_wp2_with fail
 go_loopw [14] (fun i wr => ∃ k : Nat, k ≤ 2 ∧ i = .int .i64 k ∧ row wr w.heap.size = (i64s (upTo topF k A)).toArray ∧ row wr (w.heap.size + 1) = (zeros 32 (Value.int .u8 0)).toArray ∧ w.heap.size + 1 < wr.heap.size ∧ Below w.heap.size w wr) (fun i _ => 2 - (intOf i).toNat)
 case atStart =>
  refine ⟨0, by omega, rfl, ?_, hR0, by simp; omega, Below.setRow hbel (Nat.le_refl _) _⟩
  rw [upTo]
  exact hX0
 case round =>
  clear hX hR hX0 hR0 hbel
  obtain ⟨k, hk, rfl, hX, hR, hsz, hbel⟩ := hrel
  obtain ⟨L, hL⟩ : ∃ L, upTo topF k A = L := ⟨_, rfl⟩
  have hLl : L.length = 16 := by rw [← hL, upTo_length topF_length]; exact hAl
  rw [hL] at hX
  have HL := h_ hL
  clear hL
  by_cases hlt : k < 2
  ·
   have h1 : (k : Int) < 2 := by omega
   have h15 : 15 < L.length := by omega
   have h0 : 0 < L.length := by omega
   have hX1 := row_setRow_same (w := wr) (g := w.heap.size) (c := (i64s (L.set 15 (wrap64 (L[15] - wrap64 (L[15] / 32768 * 32768))))).toArray) (by rw [hX]; simp; omega) (by rw [hX]; simp)
   obtain ⟨M, hM⟩ : ∃ M, (L.set 15 (wrap64 (L[15] - wrap64 (L[15] / 32768 * 32768)))).set 0 (wrap64 (L[0] + wrap64 ((19 : Int) * (L[15] / 32768)))) = M := ⟨_, rfl⟩
   have hMl : M.length = 16 := by rw [← hM]; simpa using hLl
   have e : upTo topF (k + 1) A = wholeL M := by
    rw [upTo, HL.out, ← hM]
    simp [topF, List.getD_eq_getElem?_getD, h0, h15]
   have hwl : (wholeL M).length = 16 := by rw [wholeL_length]; exact hMl
   go_wp2_with fail
   have hX2 := row_setRow_same (w := wr) (g := w.heap.size) (c := (i64s M).toArray) (by rw [hX]; simp; omega) (by rw [hX]; simp; omega)
   have hR2 := row_setRow_other (w := wr) w.heap.size (w.heap.size + 1) (i64s M).toArray (by omega)
   rw [hR] at hR2
   clear hM hX1
   refine (whole_any M _ hMl).mono ?_
   rintro e w5 ⟨rfl, hb5⟩
   have z5 := (hb5).size
   try simp at z5
   replace hX2 := (row_below hb5 (by simp; omega)).trans hX2
   replace hR2 := (row_below hb5 (by simp; omega)).trans hR2
   go_wp2_with fail
   go_roundw
   case rel =>
    refine ⟨k + 1, by omega, rfl, ?_, by (try show row (World.setRow _ _ _) _ = _); rw [row_setRow_other _ _ _ (by omega)]; exact hR2, by simp; omega, ?_⟩
    ·
     rw [e]
     exact row_setRow_same (by rw [hX2]; simp; omega) (by rw [hX2]; simp; omega)
    ·
     refine Below.setRow ?_ (by omega) _
     refine Below.trans (Below.setRow hbel (Nat.le_refl _) _) (Below.mono hb5 (by simp; omega))
   case measure => simp [intOf]; omega
  ·
   obtain rfl : k = 2 := by omega
   rw [show ((2 : Nat) : Int) = 2 from rfl]
   have hT : topL xs = L := by rw [topL, HA.out]; exact HL.out
   go_wp2_with fail
   refine (lessP_any L _ hLl).mono ?_
   rintro e w5 ⟨rfl, hb5⟩
   have z5 := (hb5).size
   try simp at z5
   replace hX := (row_below hb5 (by omega)).trans hX
   replace hR := (row_below hb5 (by omega)).trans hR
   have hpl := lessPL_length L hLl
   have q0 : w.heap.size < w5.heap.size := by omega
   have q1 : w.heap.size + 1 < w5.heap.size := by omega
   have q0b : w.heap.size < w5.heap.size + 1 := by omega
   have q1b : w.heap.size + 1 < w5.heap.size + 1 := by omega
   replace hbel : Below w.heap.size w w5 := Below.trans hbel (Below.mono hb5 (by omega))
   cases hB : lessPB L with
   | false =>
    have hE : endL xs = L := by rw [endL, hT, hB]; rfl
    go_wp2_with fail
    go_loopw [42] (fun i wq => ∃ k : Nat, k ≤ 16 ∧ i = .int .i64 k ∧ row wq (w.heap.size + 1) = (zeros 32 (Value.int .u8 0)).toArray ∧ row wq (w5.heap.size + 1) = (u8s (upTo (keyF L) k (List.replicate 32 0))).toArray ∧ w5.heap.size + 1 < wq.heap.size ∧ Below w.heap.size w wq) (fun i _ => 16 - (intOf i).toNat)
    case atStart =>
     refine ⟨0, by omega, rfl, ?_, ?_, by simp, ?_⟩
     ·
      simp [go_sem, hR, q1, q1b]
     ·
      simp [go_sem, upTo]
      rfl
     ·
      (repeat (first | refine Below.al ?_ _ | refine Below.drew ?_ | refine Below.sr ?_ _ | refine Below.sc ?_ _))
      exact hbel
    case round =>
     clear hR
     obtain ⟨k, hk, rfl, hR, hO, hsz, hbel3⟩ := hrel
     obtain ⟨M, hM⟩ : ∃ M, upTo (keyF L) k (List.replicate 32 0) = M := ⟨_, rfl⟩
     have hMl : M.length = 32 := by rw [← hM, upTo_len8 (keyF_length _)]; simp
     rw [hM] at hO
     have HM := h_ hM
     clear hM
     by_cases hlt : k < 16
     ·
      have h1 : (k : Int) < 16 := by omega
      have hk1 : k < (L).length := by omega
      have hix := run_index_el L k hLl hk1
      have hk2 : 2 * k < M.length := by omega
      have hk3 : 2 * k + 1 < M.length := by omega
      have hk4 : 2 * k < 32 := by omega
      have hk5 : 2 * k + 1 < 32 := by omega
      have hk6 : k < 16 := hlt
      have hO1 := row_setRow_same (w := wr) (g := w5.heap.size + 1) (c := ((u8s M).set (2 * k) (.int .u8 ((L)[k] % 256))).toArray) (by rw [hO]; simp; omega) (by rw [hO]; simp)
      go_wp2_with fail
      go_roundw
      case rel =>
       have e : u8s (upTo (keyF L) (k + 1) (List.replicate 32 0)) = ((u8s M).set (2 * k) (.int .u8 ((L)[k] % 256))).set (2 * k + 1) (.int .u8 ((L)[k] / 256 % 256)) := by
        rw [upTo, HM.out, u8s_set, u8s_set]
        simp [keyF, List.getD_eq_getElem?_getD, hk1]
       refine ⟨k + 1, by omega, rfl, by (try show row (World.setRow _ _ _) _ = _); rw [row_setRow_other _ _ _ (by omega)]; exact hR, ?_, by simp; omega, ?_⟩
       ·
        rw [e]
        exact row_setRow_same (by rw [hO]; simp; omega) (by rw [hO]; simp)
       ·
        refine Below.setRow hbel3 (by omega) _
      case measure => simp [intOf]; omega
     ·
      obtain rfl : k = 16 := by omega
      rw [show ((16 : Nat) : Int) = 16 from rfl]
      go_wp2_with fail
      have e : M = keyL xs := by rw [keyL, hE]; exact HM.out.symm
      rw [e] at hO hMl ⊢
      have hfin := row_setRow_same (w := wr) (g := w.heap.size + 1) (c := (u8s (keyL xs)).toArray) (by rw [hR]; simp) (by rw [hR]; simp [hMl])
      (try simp only [Exit.inBlock, Exit.then])
      refine bodyPost_ret (results_1 rfl (resOk_row rfl ?_)) rfl ?_
      ·
       rw [hfin]
       simp [hMl]
      refine ⟨by rw [hfin], ?_⟩
      exact Below.setRow hbel3 (by omega) _
   | true =>
    have hE : endL xs = lessPL L := by rw [endL, hT, hB]; rfl
    have hX3 : row ((w5.alloc (.cells (i64s (lessPL L)).toArray 386)).setRow w.heap.size (i64s (lessPL L)).toArray) w.heap.size = (i64s (lessPL L)).toArray := row_setRow_same (by simp [go_sem, q0, hX]; omega) (by simp [go_sem, q0, hX]; omega)
    go_wp2_with fail
    go_loopw [42] (fun i wq => ∃ k : Nat, k ≤ 16 ∧ i = .int .i64 k ∧ row wq (w.heap.size + 1) = (zeros 32 (Value.int .u8 0)).toArray ∧ row wq (w5.heap.size + 1) = (u8s (upTo (keyF (lessPL L)) k (List.replicate 32 0))).toArray ∧ w5.heap.size + 1 < wq.heap.size ∧ Below w.heap.size w wq) (fun i _ => 16 - (intOf i).toNat)
    case atStart =>
     refine ⟨0, by omega, rfl, ?_, ?_, by simp, ?_⟩
     ·
      simp [go_sem, hR, q1, q1b]
     ·
      simp [go_sem, upTo]
      rfl
     ·
      (repeat (first | refine Below.al ?_ _ | refine Below.drew ?_ | refine Below.sr ?_ _ | refine Below.sc ?_ _))
      exact hbel
    case round =>
     clear hR
     obtain ⟨k, hk, rfl, hR, hO, hsz, hbel3⟩ := hrel
     obtain ⟨M, hM⟩ : ∃ M, upTo (keyF (lessPL L)) k (List.replicate 32 0) = M := ⟨_, rfl⟩
     have hMl : M.length = 32 := by rw [← hM, upTo_len8 (keyF_length _)]; simp
     rw [hM] at hO
     have HM := h_ hM
     clear hM
     by_cases hlt : k < 16
     ·
      have h1 : (k : Int) < 16 := by omega
      have hk1 : k < ((lessPL L)).length := by omega
      have hix := run_index_el (lessPL L) k hpl hk1
      have hk2 : 2 * k < M.length := by omega
      have hk3 : 2 * k + 1 < M.length := by omega
      have hk4 : 2 * k < 32 := by omega
      have hk5 : 2 * k + 1 < 32 := by omega
      have hk6 : k < 16 := hlt
      have hO1 := row_setRow_same (w := wr) (g := w5.heap.size + 1) (c := ((u8s M).set (2 * k) (.int .u8 (((lessPL L))[k] % 256))).toArray) (by rw [hO]; simp; omega) (by rw [hO]; simp)
      go_wp2_with fail
      go_roundw
      case rel =>
       have e : u8s (upTo (keyF (lessPL L)) (k + 1) (List.replicate 32 0)) = ((u8s M).set (2 * k) (.int .u8 (((lessPL L))[k] % 256))).set (2 * k + 1) (.int .u8 (((lessPL L))[k] / 256 % 256)) := by
        rw [upTo, HM.out, u8s_set, u8s_set]
        simp [keyF, List.getD_eq_getElem?_getD, hk1]
       refine ⟨k + 1, by omega, rfl, by (try show row (World.setRow _ _ _) _ = _); rw [row_setRow_other _ _ _ (by omega)]; exact hR, ?_, by simp; omega, ?_⟩
       ·
        rw [e]
        exact row_setRow_same (by rw [hO]; simp; omega) (by rw [hO]; simp)
       ·
        refine Below.setRow hbel3 (by omega) _
      case measure => simp [intOf]; omega
     ·
      obtain rfl : k = 16 := by omega
      rw [show ((16 : Nat) : Int) = 16 from rfl]
      go_wp2_with fail
      have e : M = keyL xs := by rw [keyL, hE]; exact HM.out.symm
      rw [e] at hO hMl ⊢
      have hfin := row_setRow_same (w := wr) (g := w.heap.size + 1) (c := (u8s (keyL xs)).toArray) (by rw [hR]; simp) (by rw [hR]; simp [hMl])
      (try simp only [Exit.inBlock, Exit.then])
      refine bodyPost_ret (results_1 rfl (resOk_row rfl ?_)) rfl ?_
      ·
       rw [hfin]
       simp [hMl]
      refine ⟨by rw [hfin], ?_⟩
      exact Below.setRow hbel3 (by omega) _
end
section
open Go.RowKit
def clampL (l : List UInt8) : List UInt8 := (l.set 0 (l.getD 0 0 &&& 248)).set 31 ((l.getD 31 0 &&& 127) ||| 64)
theorem clampL_length (l : List UInt8) : (clampL l).length = l.length := by simp [clampL]
def byteAt (l : List UInt8) (i : Nat) : Int := ((l.getD i 0).toNat : Int)
def ofF (l : List UInt8) (i : Nat) (x : List Int) : List Int := x.set i (byteAt l (2 * i) + byteAt l (2 * i + 1) * 256)
def ofL (l : List UInt8) : List Int := let y := upTo (ofF l) 16 (List.replicate 16 0); y.set 15 (y.getD 15 0 % 32768)
theorem ofF_length (l : List UInt8) (i : Nat) (x : List Int) : (ofF l i x).length = x.length := by simp [ofF]
theorem ofL_length (l : List UInt8) : (ofL l).length = 16 := by simp [ofL, upTo_length (ofF_length l)]
theorem join_low (a b : Nat) (ha : a < 256) (hb : b < 256) : bits .or .i64 (a : Int) ((b : Int) * 256) = (a : Int) + (b : Int) * 256 := by
 have h := bits_join .i64 63 (by decide) wraps_i64 8 ((b : Int) * 256) a (by omega) (by omega) (by omega) (by omega) (by omega) (by omega)
 have hc : bits .or .i64 (a : Int) ((b : Int) * 256) = bits .or .i64 ((b : Int) * 256) (a : Int) := by
  unfold bits
  simp [BitVec.or_comm]
 rw [hc, h]
 omega
theorem mask15 (n : Int) (h0 : 0 ≤ n) (h1 : n < 65536) : bits .and .i64 n 32767 = n % 32768 := by
 have := bits_mask .i64 63 (by decide) wraps_i64 15 (by decide) n h0 (by omega)
 simpa using this
attribute [local irreducible] upTo
theorem of_any (l : List UInt8) (w : World) (hl : l.length = 32) :
  Calls Tryz.prog 225 #[.agg (u8s l).toArray] w fun e w' => e = .returned (.agg (i64s (ofL l)).toArray) ∧ Below w.heap.size w w' := by
 go_enter Tryz.func225, Tryz.ntmps225
 go_wp2_with fail
 go_loopw [5] (fun i wr => ∃ k : Nat, k ≤ 16 ∧ i = .int .i64 k ∧ row wr w.heap.size = (u8s l).toArray ∧ row wr (w.heap.size + 1) = (zeros 16 (Value.int .i64 0)).toArray ∧ row wr (w.heap.size + 1 + 1) = (i64s (upTo (ofF l) k (List.replicate 16 0))).toArray ∧ Below w.heap.size w wr) (fun i _ => 16 - (intOf i).toNat)
 case atStart =>
  refine ⟨0, by omega, rfl, by simp [go_sem], by simp [go_sem], by simp [go_sem, upTo]; rfl, ?_⟩
  (repeat (first | exact Below.refl _ _ | refine Below.al ?_ _ | refine Below.drew ?_ | refine Below.sr ?_ _ | refine Below.sc ?_ _))
 case round =>
  obtain ⟨k, hk, rfl, hX, hR, hO, hbel⟩ := hrel
  obtain ⟨L, hL⟩ : ∃ L, upTo (ofF l) k (List.replicate 16 0) = L := ⟨_, rfl⟩
  have hLl : L.length = 16 := by rw [← hL, upTo_length (ofF_length l)]; simp
  rw [hL] at hO
  have HL := h_ hL
  clear hL
  by_cases hlt : k < 16
  ·
   have h1 : (k : Int) < 16 := by omega
   have hk1 : k < L.length := by omega
   have hk2 : 2 * k < l.length := by omega
   have hk3 : 2 * k + 1 < l.length := by omega
   have hk4 : 2 * k < 32 := by omega
   have hk5 : 2 * k + 1 < 32 := by omega
   have hb0 := (l[2 * k]).toNat_lt
   have hb1 := (l[2 * k + 1]).toNat_lt
   have hj := join_low _ _ hb0 hb1
   go_wp2_with fail
   go_region
   go_wp2_with fail
   go_roundw
   case rel =>
    have e : upTo (ofF l) (k + 1) (List.replicate 16 0) = L.set k ((l[2 * k].toNat : Int) + (l[2 * k + 1].toNat : Int) * 256) := by
     rw [upTo, HL.out]
     simp [ofF, byteAt, List.getD_eq_getElem?_getD, hk2, hk3]
    refine ⟨k + 1, by omega, rfl, by (try show row (World.setRow _ _ _) _ = _); rw [row_setRow_other _ _ _ (by omega)]; exact hX, by (try show row (World.setRow _ _ _) _ = _); rw [row_setRow_other _ _ _ (by omega)]; exact hR, ?_, ?_⟩
    ·
     rw [e]
     exact row_setRow_same (by rw [hO]; simp; omega) (by rw [hO]; simp)
    ·
     refine Below.drew (Below.setRow hbel (by omega) _)
   case measure => simp [intOf]; omega
  ·
   obtain rfl : k = 16 := by omega
   rw [show ((16 : Nat) : Int) = 16 from rfl]
   have h15 : 15 < L.length := by omega
   have e15 : L.getD 15 0 = byteAt l 30 + byteAt l 31 * 256 := by
    rw [← HL.out, upTo, ofF]
    simp [List.getD_eq_getElem?_getD, upTo_length (ofF_length l)]
   have hg : L.getD 15 0 = L[15] := by simp [List.getD_eq_getElem?_getD, h15]
   have hb0 := (l.getD 30 0).toNat_lt
   have hb1 := (l.getD 31 0).toNat_lt
   have hm : bits .and .i64 L[15] 32767 = L[15] % 32768 := by
    rw [← hg, e15]
    unfold byteAt
    exact mask15 _ (by omega) (by omega)
   have e : L.set 15 (L[15] % 32768) = ofL l := by
    simp only [ofL, HL.out]
    rw [hg]
   have hol := ofL_length l
   have hO1 := row_setRow_same (w := wr) (g := w.heap.size + 1 + 1) (c := (i64s (L.set 15 (L[15] % 32768))).toArray) (by rw [hO]; simp; omega) (by rw [hO]; simp)
   have hR1 := row_setRow_other (w := wr) (w.heap.size + 1 + 1) (w.heap.size + 1) (i64s (L.set 15 (L[15] % 32768))).toArray (by omega)
   rw [hR] at hR1
   clear hg e15
   go_wp2_with fail
   rw [e] at hO1 hR1
   (try rw [e])
   have hfin := row_setRow_same (w := wr.setRow (w.heap.size + 1 + 1) (i64s (ofL l)).toArray) (g := w.heap.size + 1) (c := (i64s (ofL l)).toArray) (by rw [hR1]; simp) (by rw [hR1]; simp [hol])
   (try simp only [Exit.inBlock, Exit.then])
   refine bodyPost_ret (results_1 rfl (resOk_row rfl ?_)) rfl ?_
   ·
    rw [hfin]
    simp [hol]
   refine ⟨by rw [hfin], ?_⟩
   exact Below.setRow (Below.setRow hbel (by omega) _) (by omega) _
theorem clamp_any (l : List UInt8) (w : World) (hl : l.length = 32) :
  Calls Tryz.prog 224 #[.agg (u8s l).toArray] w fun e w' => e = .returned (.agg (u8s (clampL l)).toArray) ∧ Below w.heap.size w w' := by
 have h0 : 0 < l.length := by omega
 have h31 : 31 < l.length := by omega
 obtain ⟨c0, hc0⟩ : ∃ c : UInt8, l[0] &&& 248 = c := ⟨_, rfl⟩
 obtain ⟨c1, hc1⟩ : ∃ c : UInt8, l[31] &&& 127 = c := ⟨_, rfl⟩
 obtain ⟨c2, hc2⟩ : ∃ c : UInt8, c1 ||| 64 = c := ⟨_, rfl⟩
 have e0 : bits .and .u8 (l[0].toNat : Int) 248 = (c0.toNat : Int) := by rw [← hc0]; exact and_u8 l[0] 248
 have e31 : bits .and .u8 (l[31].toNat : Int) 127 = (c1.toNat : Int) := by rw [← hc1]; exact and_u8 l[31] 127
 have e32 : bits .or .u8 (c1.toNat : Int) 64 = (c2.toNat : Int) := by rw [← hc2]; exact or_u8 c1 64
 have es := u8s_setB l 0 c0
 have es2 := u8s_setB (l.set 0 c0) 31 c2
 have hc : clampL l = (l.set 0 c0).set 31 c2 := by simp [clampL, List.getD_eq_getElem?_getD, h0, h31, hc0, hc1, hc2]
 rw [hc]
 clear hc hc0 hc1 hc2
 go_enter Tryz.func224, Tryz.ntmps224
 go_wp2_with fail
 ((try simp only [Exit.inBlock, Exit.then]); refine bodyPost_ret (results_1 rfl (resOk_row rfl ?_)) rfl ?_; (simp [go_sem]))
 ·
  exact hl
 refine ⟨by simp [go_sem, hl], ?_⟩
 (repeat (first | exact Below.refl _ _ | refine Below.al ?_ _ | refine Below.drew ?_ | refine Below.sr ?_ _ | refine Below.sc ?_ _))
end
section
open Go.RowKit
def k1 : List UInt8 := 1 :: List.replicate 31 0
theorem invL_length (xs : List Int) (hx : xs.length = 16) : (invL xs).length = 16 := invL_upTo_length xs hx 254
attribute [local irreducible] keyL timesL ofL invL upTo
end
section
open Go.RowKit
def valN : List Int → Int
 | [] => 0
 | x :: l => x + 65536 * valN l
def within (B : Int) (l : List Int) : Prop := l.length = 16 ∧ ∀ i, i < 16 → -B ≤ l.getD i 0 ∧ l.getD i 0 ≤ B
end
section
open Go.RowKit
def bA (k : Nat) : Int := if k = 0 then 0 else 35184372088832
def bB (k : Nat) : Int := if k = 0 then 0 else if k = 1 then 68719476736 else if k = 2 then 2097152 else if k = 3 then 64 else 2
end
section
open Go.RowKit
def pN : Int := 57896044618658097711785492504343953926634992332820282019728792003956564819949
theorem digit (l : List Int) (h : ∀ i, i < l.length → 0 ≤ l.getD i 0 ∧ l.getD i 0 < 65536) : ∀ i, i < l.length → l.getD i 0 = valN l / 65536 ^ i % 65536 := by
 induction l with
 | nil => intro i hi; simp at hi
 | cons x l ih =>
  intro i hi
  have hx := h 0 (by simp)
  simp at hx
  have hl : ∀ i, i < l.length → 0 ≤ l.getD i 0 ∧ l.getD i 0 < 65536 := fun i hi => by
   have := h (i + 1) (by simp; omega)
   simpa using this
  cases i with
  | zero =>
   simp [valN]
   omega
  | succ i =>
   have hi2 : i < l.length := by simpa using hi
   have := ih hl i hi2
   have e : valN (x :: l) / 65536 ^ (i + 1) = valN l / 65536 ^ i := by
    rw [valN, Int.pow_succ, Int.mul_comm (65536 ^ i) 65536, ← Int.ediv_ediv_of_nonneg (by omega)]
    congr 1
    omega
   rw [e]
   simpa using this
end
section
open Go.RowKit
end
section
open Go.RowKit
def expN : Nat → Nat
 | 0 => 1
 | k + 1 => if k = 251 ∨ k = 249 then 2 * expN k else 2 * expN k + 1
def eN : Nat := expN 254
def pm1 : Nat := 57896044618658097711785492504343953926634992332820282019728792003956564819948
attribute [irreducible] pm1 eN
end
end Go.Proofs.YtcebllbikmgjpaaGreat
