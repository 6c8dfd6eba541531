/- Contracts of package curve: an element as a key. -/
import Derived.Test.YtohhiibgjcbpiaaCurI
set_option linter.unusedSimpArgs false
set_option linter.unusedVariables false
namespace Go.Proofs.Ytohhiibgjcbpiaa
open Go.RowKit
def topF (k : Nat) (l : List Int) : List Int := wholeL (let h := l.getD 15 0 / 32768; let m := l.set 15 (wrap64 (l.getD 15 0 - wrap64 (h * 32768))); m.set 0 (wrap64 (m.getD 0 0 + wrap64 (19 * h))))
def topL (xs : List Int) : List Int := upTo topF 2 (wholeL (carriedL (carriedL (carriedL xs))))
def endL (xs : List Int) : List Int := if lessPB (topL xs) then lessPL (topL xs) else topL xs
def keyF (ys : List Int) (i : Nat) (b : List UInt8) : List UInt8 := (b.set (2 * i) (byteI (ys.getD i 0))).set (2 * i + 1) (byteI (ys.getD i 0 / 256))
def keyL (xs : List Int) : List UInt8 := upTo (keyF (endL xs)) 16 (List.replicate 32 0)
theorem topF_length (k : Nat) (l : List Int) : (topF k l).length = l.length := by simp [topF, wholeL_length]
theorem topL_length (xs : List Int) (hx : xs.length = 16) : (topL xs).length = 16 := by rw [topL, upTo_length topF_length, wholeL_length, carriedL_length, carriedL_length, carriedL_length, hx]
theorem endL_length (xs : List Int) (hx : xs.length = 16) : (endL xs).length = 16 := by unfold endL; split; exact lessPL_length _ (topL_length xs hx); exact topL_length xs hx
theorem keyF_length (ys : List Int) (i : Nat) (b : List UInt8) : (keyF ys i b).length = b.length := by simp [keyF]
theorem keyL_length (xs : List Int) : (keyL xs).length = 32 := by rw [keyL, upTo_len8 (keyF_length _)]; simp
theorem run_index_el (L : List Int) (k : Nat) (hL : L.length = 16) (hk : k < L.length) (w : World) :
    (Instr.index 38 (.agg (i64s L).toArray) (.int .i64 k)).run Try.prog w = .ok (.int .i64 L[k]) w := by
  have hk2 : k < 16 := by omega
  have hinfo : (Try.prog.info? 2).map (fun i => i.size) = some 1 := by kernel_rfl
  obtain ⟨inf, hi, hsz⟩ := Option.map_eq_some_iff.1 hinfo
  have hg : (i64s L)[k]? = some (.int .i64 L[k]) := by simp [i64s, hk]
  simp [Instr.index, run_underlying Try.underlying38, run_underlying Try.underlying2, asIntOf, isAgg, hk2, sizeOf, typeInfo, hi, hsz, part, hg, go_sem]
attribute [local irreducible] wholeL carriedL upTo lessPL
set_option maxRecDepth 20000 in
set_option maxHeartbeats 600000 in
theorem key_any (xs : List Int) (w : World) (hx : xs.length = 16) :
    Calls Try.prog 25 #[.agg (i64s xs).toArray] w fun e w' => e = .returned (.agg (u8s (keyL xs)).toArray) ∧ Below w.heap.size w w' := by
  go_enter Try.func25, Try.ntmps25
  go_wp2_with fail
  have c1 : (carriedL xs).length = 16 := by rw [carriedL_length]; exact hx
  have c2 : (carriedL (carriedL xs)).length = 16 := by rw [carriedL_length]; exact c1
  have c3 : (carriedL (carriedL (carriedL xs))).length = 16 := by rw [carriedL_length]; exact c2
  refine (carried_any xs _ hx).mono ?_
  rintro e w1 ⟨rfl, hb1⟩
  have z1 := (hb1).size
  try simp at z1
  have hX : row w1 (w.heap.size) = (i64s xs).toArray := by rw [row_below hb1 (by first | (simp; done) | (simp; omega) | omega)]; simp [go_sem]; (try rfl)
  have hR : row w1 (w.heap.size + 1) = (zeros 32 (Value.int .u8 0)).toArray := by rw [row_below hb1 (by first | (simp; done) | (simp; omega) | omega)]; simp [go_sem]; (try rfl)
  replace hb1 := below_of hb1 (show Below (w).heap.size w _ from by (repeat (first | exact Below.refl _ _ | refine Below.alloc ?_ (by first | (simp; done) | (simp; omega) | omega) _ | refine Below.drew ?_ | refine Below.setRow ?_ (by first | (simp; done) | (simp; omega) | omega) _ | refine Below.setCell ?_ (by first | (simp; done) | (simp; omega) | omega) _))) (by first | (simp; done) | (simp; omega) | omega)
  go_wp2_with fail
  refine (carried_any _ _ c1).mono ?_
  rintro e w2 ⟨rfl, hb2⟩
  have z2 := (hb2).size
  try simp at z2
  replace hX := (row_below hb2 (by omega)).trans hX
  replace hR := (row_below hb2 (by omega)).trans hR
  go_wp2_with fail
  refine (carried_any _ _ c2).mono ?_
  rintro e w3 ⟨rfl, hb3⟩
  have z3 := (hb3).size
  try simp at z3
  replace hX := (row_below hb3 (by omega)).trans hX
  replace hR := (row_below hb3 (by omega)).trans hR
  go_wp2_with fail
  refine (whole_any _ _ c3).mono ?_
  rintro e w4 ⟨rfl, hb4⟩
  have z4 := (hb4).size
  try simp at z4
  replace hX := (row_below hb4 (by omega)).trans hX
  replace hR := (row_below hb4 (by omega)).trans hR
  have hbel : Below w.heap.size w w4 := by
    refine Below.trans ?_ (Below.mono hb4 (by first | (simp; done) | (simp; omega) | omega))
    refine Below.trans ?_ (Below.mono hb3 (by first | (simp; done) | (simp; omega) | omega))
    refine Below.trans ?_ (Below.mono hb2 (by first | (simp; done) | (simp; omega) | omega))
    exact hb1
  obtain ⟨A, hA⟩ : ∃ A, wholeL (carriedL (carriedL (carriedL xs))) = A := ⟨_, rfl⟩
  have hAl : A.length = 16 := by rw [← hA, wholeL_length]; exact c3
  rw [hA]
  have HA := Lib.hid hA
  clear hb1 hb2 hb3 hb4 c1 c2 c3 hA
  have hX0 := row_setRow_same (w := w4) (g := w.heap.size) (c := (i64s A).toArray) (by rw [hX]; simp; omega) (by rw [hX]; simp; omega)
  have hR0 := row_setRow_other (w := w4) w.heap.size (w.heap.size + 1) (i64s A).toArray (by omega)
  rw [hR] at hR0
  go_wp2_with fail
  go_loopw [14] (fun i wr => ∃ k : Nat, k ≤ 2 ∧ i = .int .i64 k ∧ row wr w.heap.size = (i64s (upTo topF k A)).toArray ∧ row wr (w.heap.size + 1) = (zeros 32 (Value.int .u8 0)).toArray ∧ w.heap.size + 1 < wr.heap.size ∧ Below w.heap.size w wr) (fun i _ => 2 - (intOf i).toNat)
  case atStart =>
    refine ⟨0, by omega, rfl, ?_, hR0, by simp; omega, Below.setRow hbel (Nat.le_refl _) _⟩
    rw [upTo]
    exact hX0
  case round =>
    clear hX hR hX0 hR0 hbel
    obtain ⟨k, hk, rfl, hX, hR, hsz, hbel⟩ := hrel
    obtain ⟨L, hL⟩ : ∃ L, upTo topF k A = L := ⟨_, rfl⟩
    have hLl : L.length = 16 := by rw [← hL, upTo_length topF_length]; exact hAl
    rw [hL] at hX
    have HL := Lib.hid hL
    clear hL
    by_cases hlt : k < 2
    · have h1 : (k : Int) < 2 := by omega
      have h15 : 15 < L.length := by omega
      have h0 : 0 < L.length := by omega
      have hX1 := row_setRow_same (w := wr) (g := w.heap.size) (c := (i64s (L.set 15 (wrap64 (L[15] - wrap64 (L[15] / 32768 * 32768))))).toArray) (by rw [hX]; simp; omega) (by rw [hX]; simp)
      obtain ⟨M, hM⟩ : ∃ M, (L.set 15 (wrap64 (L[15] - wrap64 (L[15] / 32768 * 32768)))).set 0 (wrap64 (L[0] + wrap64 ((19 : Int) * (L[15] / 32768)))) = M := ⟨_, rfl⟩
      have hMl : M.length = 16 := by rw [← hM]; simpa using hLl
      have e : upTo topF (k + 1) A = wholeL M := by
        rw [upTo, HL.out, ← hM]
        simp [topF, List.getD_eq_getElem?_getD, h0, h15]
      have hwl : (wholeL M).length = 16 := by rw [wholeL_length]; exact hMl
      go_wp2_with fail
      have hX2 := row_setRow_same (w := wr) (g := w.heap.size) (c := (i64s M).toArray) (by rw [hX]; simp; omega) (by rw [hX]; simp; omega)
      have hR2 := row_setRow_other (w := wr) w.heap.size (w.heap.size + 1) (i64s M).toArray (by omega)
      rw [hR] at hR2
      clear hM hX1
      refine (whole_any M _ hMl).mono ?_
      rintro e w5 ⟨rfl, hb5⟩
      have z5 := (hb5).size
      try simp at z5
      replace hX2 := (row_below hb5 (by simp; omega)).trans hX2
      replace hR2 := (row_below hb5 (by simp; omega)).trans hR2
      go_wp2_with fail
      go_roundw
      case rel =>
        refine ⟨k + 1, by omega, rfl, ?_, by (try show row (World.setRow _ _ _) _ = _); rw [row_setRow_other _ _ _ (by omega)]; exact hR2, by simp; omega, ?_⟩
        · rw [e]
          exact row_setRow_same (by rw [hX2]; simp; omega) (by rw [hX2]; simp; omega)
        · refine Below.setRow ?_ (by omega) _
          refine Below.trans (Below.setRow hbel (Nat.le_refl _) _) (Below.mono hb5 (by simp; omega))
      case measure => simp [intOf]; omega
    · obtain rfl : k = 2 := by omega
      rw [show ((2 : Nat) : Int) = 2 from rfl]
      have hT : topL xs = L := by rw [topL, HA.out]; exact HL.out
      go_wp2_with fail
      refine (lessP_any L _ hLl).mono ?_
      rintro e w5 ⟨rfl, hb5⟩
      have z5 := (hb5).size
      try simp at z5
      replace hX := (row_below hb5 (by omega)).trans hX
      replace hR := (row_below hb5 (by omega)).trans hR
      have hpl := lessPL_length L hLl
      have q0 : w.heap.size < w5.heap.size := by omega
      have q1 : w.heap.size + 1 < w5.heap.size := by omega
      have q0b : w.heap.size < w5.heap.size + 1 := by omega
      have q1b : w.heap.size + 1 < w5.heap.size + 1 := by omega
      replace hbel : Below w.heap.size w w5 := Below.trans hbel (Below.mono hb5 (by omega))
      cases hB : lessPB L with
      | false =>
        have hE : endL xs = L := by rw [endL, hT, hB]; rfl
        go_wp2_with fail
        go_loopw [42] (fun i wq => ∃ k : Nat, k ≤ 16 ∧ i = .int .i64 k ∧ row wq (w.heap.size + 1) = (zeros 32 (Value.int .u8 0)).toArray ∧ row wq (w5.heap.size + 1) = (u8s (upTo (keyF L) k (List.replicate 32 0))).toArray ∧ w5.heap.size + 1 < wq.heap.size ∧ Below w.heap.size w wq) (fun i _ => 16 - (intOf i).toNat)
        case atStart =>
          refine ⟨0, by omega, rfl, ?_, ?_, by simp, ?_⟩
          · simp [go_sem, hR, q1, q1b]
          · simp [go_sem, upTo]
            rfl
          · (repeat (first | refine Below.alloc ?_ (by first | (simp; done) | (simp; omega) | omega) _ | refine Below.drew ?_ | refine Below.setRow ?_ (by first | (simp; done) | (simp; omega) | omega) _ | refine Below.setCell ?_ (by first | (simp; done) | (simp; omega) | omega) _))
            exact hbel
        case round =>
          clear hR
          obtain ⟨k, hk, rfl, hR, hO, hsz, hbel3⟩ := hrel
          obtain ⟨M, hM⟩ : ∃ M, upTo (keyF L) k (List.replicate 32 0) = M := ⟨_, rfl⟩
          have hMl : M.length = 32 := by rw [← hM, upTo_len8 (keyF_length _)]; simp
          rw [hM] at hO
          have HM := Lib.hid hM
          clear hM
          by_cases hlt : k < 16
          · have h1 : (k : Int) < 16 := by omega
            have hk1 : k < (L).length := by omega
            have hix := run_index_el L k hLl hk1
            have hk2 : 2 * k < M.length := by omega
            have hk3 : 2 * k + 1 < M.length := by omega
            have hk4 : 2 * k < 32 := by omega
            have hk5 : 2 * k + 1 < 32 := by omega
            have hk6 : k < 16 := hlt
            have hO1 := row_setRow_same (w := wr) (g := w5.heap.size + 1) (c := ((u8s M).set (2 * k) (.int .u8 ((L)[k] % 256))).toArray) (by rw [hO]; simp; omega) (by rw [hO]; simp)
            go_wp2_with fail
            go_roundw
            case rel =>
              have e : u8s (upTo (keyF L) (k + 1) (List.replicate 32 0)) = ((u8s M).set (2 * k) (.int .u8 ((L)[k] % 256))).set (2 * k + 1) (.int .u8 ((L)[k] / 256 % 256)) := by
                rw [upTo, HM.out, u8s_set, u8s_set]
                simp [keyF, List.getD_eq_getElem?_getD, hk1]
              refine ⟨k + 1, by omega, rfl, by (try show row (World.setRow _ _ _) _ = _); rw [row_setRow_other _ _ _ (by omega)]; exact hR, ?_, by simp; omega, ?_⟩
              · rw [e]
                exact row_setRow_same (by rw [hO]; simp; omega) (by rw [hO]; simp)
              · refine Below.setRow hbel3 (by omega) _
            case measure => simp [intOf]; omega
          · obtain rfl : k = 16 := by omega
            rw [show ((16 : Nat) : Int) = 16 from rfl]
            go_wp2_with fail
            have e : M = keyL xs := by rw [keyL, hE]; exact HM.out.symm
            rw [e] at hO hMl ⊢
            have hfin := row_setRow_same (w := wr) (g := w.heap.size + 1) (c := (u8s (keyL xs)).toArray) (by rw [hR]; simp) (by rw [hR]; simp [hMl])
            (try simp only [Exit.inBlock, Exit.then])
            refine bodyPost_ret (results_1 rfl (resOk_row rfl ?_)) rfl ?_
            · rw [hfin]
              simp [hMl]
            refine ⟨by rw [hfin], ?_⟩
            exact Below.setRow hbel3 (by omega) _
      | true =>
        have hE : endL xs = lessPL L := by rw [endL, hT, hB]; rfl
        have hX3 : row ((w5.alloc (.cells (i64s (lessPL L)).toArray 38)).setRow w.heap.size (i64s (lessPL L)).toArray) w.heap.size = (i64s (lessPL L)).toArray := row_setRow_same (by simp [go_sem, q0, hX]; omega) (by simp [go_sem, q0, hX]; omega)
        go_wp2_with fail
        go_loopw [42] (fun i wq => ∃ k : Nat, k ≤ 16 ∧ i = .int .i64 k ∧ row wq (w.heap.size + 1) = (zeros 32 (Value.int .u8 0)).toArray ∧ row wq (w5.heap.size + 1) = (u8s (upTo (keyF (lessPL L)) k (List.replicate 32 0))).toArray ∧ w5.heap.size + 1 < wq.heap.size ∧ Below w.heap.size w wq) (fun i _ => 16 - (intOf i).toNat)
        case atStart =>
          refine ⟨0, by omega, rfl, ?_, ?_, by simp, ?_⟩
          · simp [go_sem, hR, q1, q1b]
          · simp [go_sem, upTo]
            rfl
          · (repeat (first | refine Below.alloc ?_ (by first | (simp; done) | (simp; omega) | omega) _ | refine Below.drew ?_ | refine Below.setRow ?_ (by first | (simp; done) | (simp; omega) | omega) _ | refine Below.setCell ?_ (by first | (simp; done) | (simp; omega) | omega) _))
            exact hbel
        case round =>
          clear hR
          obtain ⟨k, hk, rfl, hR, hO, hsz, hbel3⟩ := hrel
          obtain ⟨M, hM⟩ : ∃ M, upTo (keyF (lessPL L)) k (List.replicate 32 0) = M := ⟨_, rfl⟩
          have hMl : M.length = 32 := by rw [← hM, upTo_len8 (keyF_length _)]; simp
          rw [hM] at hO
          have HM := Lib.hid hM
          clear hM
          by_cases hlt : k < 16
          · have h1 : (k : Int) < 16 := by omega
            have hk1 : k < ((lessPL L)).length := by omega
            have hix := run_index_el (lessPL L) k hpl hk1
            have hk2 : 2 * k < M.length := by omega
            have hk3 : 2 * k + 1 < M.length := by omega
            have hk4 : 2 * k < 32 := by omega
            have hk5 : 2 * k + 1 < 32 := by omega
            have hk6 : k < 16 := hlt
            have hO1 := row_setRow_same (w := wr) (g := w5.heap.size + 1) (c := ((u8s M).set (2 * k) (.int .u8 (((lessPL L))[k] % 256))).toArray) (by rw [hO]; simp; omega) (by rw [hO]; simp)
            go_wp2_with fail
            go_roundw
            case rel =>
              have e : u8s (upTo (keyF (lessPL L)) (k + 1) (List.replicate 32 0)) = ((u8s M).set (2 * k) (.int .u8 (((lessPL L))[k] % 256))).set (2 * k + 1) (.int .u8 (((lessPL L))[k] / 256 % 256)) := by
                rw [upTo, HM.out, u8s_set, u8s_set]
                simp [keyF, List.getD_eq_getElem?_getD, hk1]
              refine ⟨k + 1, by omega, rfl, by (try show row (World.setRow _ _ _) _ = _); rw [row_setRow_other _ _ _ (by omega)]; exact hR, ?_, by simp; omega, ?_⟩
              · rw [e]
                exact row_setRow_same (by rw [hO]; simp; omega) (by rw [hO]; simp)
              · refine Below.setRow hbel3 (by omega) _
            case measure => simp [intOf]; omega
          · obtain rfl : k = 16 := by omega
            rw [show ((16 : Nat) : Int) = 16 from rfl]
            go_wp2_with fail
            have e : M = keyL xs := by rw [keyL, hE]; exact HM.out.symm
            rw [e] at hO hMl ⊢
            have hfin := row_setRow_same (w := wr) (g := w.heap.size + 1) (c := (u8s (keyL xs)).toArray) (by rw [hR]; simp) (by rw [hR]; simp [hMl])
            (try simp only [Exit.inBlock, Exit.then])
            refine bodyPost_ret (results_1 rfl (resOk_row rfl ?_)) rfl ?_
            · rw [hfin]
              simp [hMl]
            refine ⟨by rw [hfin], ?_⟩
            exact Below.setRow hbel3 (by omega) _
end Go.Proofs.Ytohhiibgjcbpiaa
