/- Contracts of package curve: products of elements, as the machine makes them. -/
import Derived.Test.YtohhiibgjcbpiaaCur
set_option linter.unusedSimpArgs false
set_option linter.unusedVariables false
namespace Go.Proofs.Ytohhiibgjcbpiaa
open Go.RowKit
def mulF (xs ys : List Int) (i j : Nat) (t : List Int) : List Int := t.set (i + j) (wrap64 (t.getD (i + j) 0 + wrap64 (xs.getD i 0 * ys.getD j 0)))
def rowF (xs ys : List Int) (i : Nat) (t : List Int) : List Int := upTo (mulF xs ys i) 16 t
def prodL (xs ys : List Int) : List Int := upTo (rowF xs ys) 16 (List.replicate 31 0)
def foldF (t : List Int) (i : Nat) (o : List Int) : List Int := if i + 16 < 31 then o.set i (wrap64 (t.getD i 0 + wrap64 (38 * t.getD (i + 16) 0))) else o.set i (t.getD i 0)
def foldL (t : List Int) : List Int := upTo (foldF t) 16 (List.replicate 16 0)
def timesL (xs ys : List Int) : List Int := carriedL (carriedL (foldL (prodL xs ys)))
theorem mulF_length (xs ys : List Int) (i j : Nat) (t : List Int) : (mulF xs ys i j t).length = t.length := by simp [mulF]
theorem rowF_length (xs ys : List Int) (i : Nat) (t : List Int) : (rowF xs ys i t).length = t.length := upTo_length (mulF_length xs ys i) _ _
theorem prodL_length (xs ys : List Int) : (prodL xs ys).length = 31 := by simp [prodL, upTo_length (rowF_length xs ys)]
theorem foldF_length (t : List Int) (i : Nat) (o : List Int) : (foldF t i o).length = o.length := by unfold foldF; split <;> simp
theorem foldL_length (t : List Int) : (foldL t).length = 16 := by simp [foldL, upTo_length (foldF_length t)]
theorem timesL_length (xs ys : List Int) : (timesL xs ys).length = 16 := by simp [timesL, carriedL_length, foldL_length]
theorem i64s_zeros (n : Nat) : i64s (List.replicate n 0) = zeros n (.int .i64 0) := by simp [i64s, zeros]
set_option maxRecDepth 20000 in
set_option maxHeartbeats 2000000 in
theorem times_any (xs ys : List Int) (w : World) (hx : xs.length = 16) (hy : ys.length = 16) :
    Calls Try.prog 23 #[.agg (i64s xs).toArray, .agg (i64s ys).toArray] w fun e w' => e = .returned (.agg (i64s (timesL xs ys)).toArray) ∧ Below w.heap.size w w' := by
  go_enter Try.func23, Try.ntmps23
  go_wp2_with fail
  go_loopw [10] (fun i wr => ∃ k : Nat, k ≤ 16 ∧ i = .int .i64 k ∧ row wr w.heap.size = (i64s xs).toArray ∧ row wr (w.heap.size + 1) = (i64s ys).toArray ∧ row wr (w.heap.size + 1 + 1) = (zeros 16 (Value.int .i64 0)).toArray ∧ row wr (w.heap.size + 1 + 1 + 1) = (i64s (upTo (rowF xs ys) k (List.replicate 31 0))).toArray ∧ w.heap.size + 1 + 1 + 1 < wr.heap.size ∧ Below w.heap.size w wr) (fun i _ => 16 - (intOf i).toNat)
  case atStart =>
    refine ⟨0, by omega, rfl, by simp [go_sem], by simp [go_sem], by simp [go_sem], by simp [go_sem, upTo]; rfl, by simp, ?_⟩
    (repeat (first | exact Below.refl _ _ | refine Below.alloc ?_ (by first | (simp; done) | (simp; omega) | omega) _ | refine Below.drew ?_ | refine Below.setRow ?_ (by first | (simp; done) | (simp; omega) | omega) _ | refine Below.setCell ?_ (by first | (simp; done) | (simp; omega) | omega) _))
  case round =>
    obtain ⟨k, hk, rfl, hX, hY, hR, hT, hsz, hbel⟩ := hrel
    obtain ⟨L, hL⟩ : ∃ L, upTo (rowF xs ys) k (List.replicate 31 0) = L := ⟨_, rfl⟩
    have hLl : L.length = 31 := by rw [← hL, upTo_length (rowF_length xs ys)]; simp
    rw [hL] at hT
    have HL := Lib.hid hL
    clear hL
    by_cases hlt : k < 16
    · have h1 : (k : Int) < 16 := by omega
      go_wp2_with fail
      go_loopw [13] (fun j wq => ∃ m : Nat, m ≤ 16 ∧ j = .int .i64 m ∧ row wq w.heap.size = (i64s xs).toArray ∧ row wq (w.heap.size + 1) = (i64s ys).toArray ∧ row wq (w.heap.size + 1 + 1) = (zeros 16 (Value.int .i64 0)).toArray ∧ row wq (w.heap.size + 1 + 1 + 1) = (i64s (upTo (mulF xs ys k) m L)).toArray ∧ w.heap.size + 1 + 1 + 1 < wq.heap.size ∧ Below w.heap.size w wq) (fun j _ => 16 - (intOf j).toNat)
      case atStart => exact ⟨0, by omega, rfl, hX, hY, hR, hT, hsz, hbel⟩
      case round =>
        clear hX hY hR hT hsz hbel
        obtain ⟨m, hm, rfl, hX, hY, hR, hT, hsz, hbel⟩ := hrel
        obtain ⟨M, hM⟩ : ∃ M, upTo (mulF xs ys k) m L = M := ⟨_, rfl⟩
        have hMl : M.length = 31 := by rw [← hM, upTo_length (mulF_length xs ys k), hLl]
        rw [hM] at hT
        have HM := Lib.hid hM
        clear hM
        by_cases hlt2 : m < 16
        · have h2 : (m : Int) < 16 := by omega
          have hk1 : k < xs.length := by omega
          have hk2 : m < ys.length := by omega
          have hk3 : k + m < M.length := by omega
          have hk4 : k + m < 31 := by omega
          go_wp2_with fail
          go_region
          go_wp2_with fail
          go_roundw
          case rel =>
            have e : upTo (mulF xs ys k) (m + 1) L = M.set (k + m) (wrap64 (M[k + m] + wrap64 (xs[k] * ys[m]))) := by
              rw [upTo, HM.out]
              simp [mulF, List.getD_eq_getElem?_getD, hk1, hk2, hk3]
            refine ⟨m + 1, by omega, rfl, by (try show row (World.setRow _ _ _) _ = _); rw [row_setRow_other _ _ _ (by omega)]; exact hX, by (try show row (World.setRow _ _ _) _ = _); rw [row_setRow_other _ _ _ (by omega)]; exact hY, by (try show row (World.setRow _ _ _) _ = _); rw [row_setRow_other _ _ _ (by omega)]; exact hR, ?_, by simpa using hsz, ?_⟩
            · rw [e]
              exact row_setRow_same (by rw [hT]; simp; omega) (by rw [hT]; simp)
            · refine Below.drew (Below.setRow hbel (by omega) _)
          case measure => simp [intOf]; omega
        · obtain rfl : m = 16 := by omega
          rw [show ((16 : Nat) : Int) = 16 from rfl]
          go_wp2_with fail
          go_roundw
          case rel => exact ⟨k + 1, by omega, rfl, hX, hY, hR, by rw [hT, upTo, HL.out]; exact congrArg (fun q => (i64s q).toArray) HM.out.symm, hsz, hbel⟩
          case measure => simp [intOf]; omega
    · obtain rfl : k = 16 := by omega
      rw [show ((16 : Nat) : Int) = 16 from rfl]
      go_wp2_with fail
      have q1 : w.heap.size + 1 + 1 < wr.heap.size := by omega
      have q0 : w.heap.size < wr.heap.size := by omega
      have q2 : w.heap.size + 1 < wr.heap.size := by omega
      obtain ⟨O, hOO⟩ : ∃ O, wr.heap.size = O := ⟨_, rfl⟩
      rw [hOO]
      go_loopw [32] (fun i wq => ∃ k : Nat, k ≤ 16 ∧ i = .int .i64 k ∧ row wq (w.heap.size + 1 + 1) = (zeros 16 (Value.int .i64 0)).toArray ∧ row wq (w.heap.size + 1 + 1 + 1) = (i64s L).toArray ∧ row wq O = (i64s (upTo (foldF L) k (List.replicate 16 0))).toArray ∧ O < wq.heap.size ∧ w.heap.size + 1 + 1 + 1 < O ∧ Below w.heap.size w wq) (fun i _ => 16 - (intOf i).toNat)
      case atStart =>
        refine ⟨0, by omega, rfl, by simp [go_sem, hR, q1], by simp [go_sem, hT, hsz], by rw [row_alloc_at _ _ _ hOO.symm]; rfl, by simp [hOO], by omega, ?_⟩
        exact Below.alloc hbel (by omega) _
      case round =>
        have HT := Lib.hid hT
        clear hX hY hR hT hsz q0 q1 q2 hOO hbel
        obtain ⟨k, hk, rfl, hR, hT, hO, hsz2, hsz, hbel2⟩ := hrel
        obtain ⟨M, hM⟩ : ∃ M, upTo (foldF L) k (List.replicate 16 0) = M := ⟨_, rfl⟩
        have hMl : M.length = 16 := by rw [← hM, upTo_length (foldF_length L)]; simp
        rw [hM] at hO
        have HM := Lib.hid hM
        clear hM
        by_cases hlt : k < 16
        · have h1 : (k : Int) < 16 := by omega
          have hk1 : k < L.length := by omega
          have hk2 : k < M.length := by omega
          have hk3 : k < 31 := by omega
          have hT1 := row_setRow_other (w := wr) O (w.heap.size + 1 + 1 + 1) (i64s (M.set k L[k])).toArray (by omega)
          rw [hT] at hT1
          have hX1 := row_setRow_same (w := wr) (g := O) (c := (i64s (M.set k L[k])).toArray) (by rw [hO]; simp; omega) (by rw [hO]; simp)
          by_cases hk15 : k + 16 < 31
          · have hk5 : (k : Int) + 16 < 31 := by omega
            have hk6 : k + 16 < L.length := by omega
            go_wp2_with fail
            go_region
            go_wp2_with fail
            go_roundw
            case rel =>
              have e : upTo (foldF L) (k + 1) (List.replicate 16 0) = M.set k (wrap64 (L[k] + wrap64 (38 * L[k + 16]))) := by
                rw [upTo, HM.out, foldF, if_pos hk15]
                simp [List.getD_eq_getElem?_getD, hk1, hk6]
              refine ⟨k + 1, by omega, rfl, by (try show row (World.setRow _ _ _) _ = _); rw [row_setRow_other _ _ _ (by omega)]; exact hR, by (try show row (World.setRow _ _ _) _ = _); rw [row_setRow_other _ _ _ (by omega)]; exact hT, ?_, by simpa using hsz2, hsz, ?_⟩
              · rw [e]
                exact row_setRow_same (by rw [hO]; simp; omega) (by rw [hO]; simp)
              · refine Below.drew (Below.setRow hbel2 (by omega) _)
            case measure => simp [intOf]; omega
          · have hk5 : ¬ (k : Int) + 16 < 31 := by omega
            go_wp2_with fail
            go_roundw
            case rel =>
              have e : upTo (foldF L) (k + 1) (List.replicate 16 0) = M.set k L[k] := by
                rw [upTo, HM.out, foldF, if_neg hk15]
                simp [List.getD_eq_getElem?_getD, hk1]
              refine ⟨k + 1, by omega, rfl, by (try show row (World.setRow _ _ _) _ = _); rw [row_setRow_other _ _ _ (by omega)]; exact hR, hT1, ?_, by simpa using hsz2, hsz, ?_⟩
              · rw [e]
                exact hX1
              · refine Below.setRow hbel2 (by omega) _
            case measure => simp [intOf]; omega
        · obtain rfl : k = 16 := by omega
          rw [show ((16 : Nat) : Int) = 16 from rfl]
          go_wp2_with fail
          refine (carried_any M _ hMl).mono ?_
          rintro e w2 ⟨rfl, hb2⟩
          have z2 := (hb2).size
          try simp at z2
          replace hR := (row_below hb2 (by omega)).trans hR
          go_wp2_with fail
          refine (carried_any (carriedL M) _ (by rw [carriedL_length]; exact hMl)).mono ?_
          rintro e w3 ⟨rfl, hb3⟩
          have z3 := (hb3).size
          try simp at z3
          replace hR := (row_below hb3 (by omega)).trans hR
          have hlast : (carriedL (carriedL M)).length = 16 := by rw [carriedL_length, carriedL_length]; exact hMl
          go_wp2_with fail
          have hfin := row_setRow_same (w := w3) (g := w.heap.size + 1 + 1) (c := (i64s (carriedL (carriedL M))).toArray) (by rw [hR]; simp) (by rw [hR]; simp [hlast])
          (try simp only [Exit.inBlock, Exit.then])
          refine bodyPost_ret (results_1 rfl (resOk_row rfl ?_)) rfl ?_
          · rw [hfin]
            simp [hlast]
          have e1 : prodL xs ys = L := HL.out
          have e2 : foldL (prodL xs ys) = M := by rw [e1]; exact HM.out
          refine ⟨by rw [hfin, timesL, e2], ?_⟩
          refine Below.setRow ?_ (by omega) _
          refine Below.trans ?_ (Below.mono hb3 (by first | (simp; done) | (simp; omega) | omega))
          refine Below.trans ?_ (Below.mono hb2 (by first | (simp; done) | (simp; omega) | omega))
          exact hbel2
end Go.Proofs.Ytohhiibgjcbpiaa
