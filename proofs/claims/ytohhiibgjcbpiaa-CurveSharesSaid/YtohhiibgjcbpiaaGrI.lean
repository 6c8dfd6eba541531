/- Contracts of the reference of chapter 6: an inverse. -/
import Derived.Test.YtohhiibgjcbpiaaGrP
set_option linter.unusedSimpArgs false
set_option linter.unusedVariables false
namespace Go.Proofs.Ytohhiibgjcbpiaa
open Go.RowKit
def eB : Nat → Nat
  | 0 => 0
  | k + 1 => if k = 252 ∨ k = 250 then 2 * eB k else 2 * eB k + 1
theorem pow_two_mod (a e : Nat) : (a ^ e % pB) * (a ^ e % pB) % pB = a ^ (2 * e) % pB := by
  rw [← Nat.mul_mod, ← Nat.pow_add, Nat.two_mul]
theorem pow_one_mod (a e : Nat) : a ^ e % pB * a % pB = a ^ (e + 1) % pB := by
  rw [Nat.pow_succ, Nat.mul_mod, Nat.mod_mod, ← Nat.mul_mod]
theorem digB_one : digB 1 = 1 :: List.replicate 31 0 := by decide +kernel
theorem one_cellsG : (Value.int .i64 1 :: (zeros 32 (Value.int .i64 0)).tail) = n64s (digB 1) := by
  rw [digB_one]
  rfl
set_option maxRecDepth 20000 in
set_option maxHeartbeats 2000000 in
theorem invG_any (v : Nat) (w : World) (hv : v < 256 ^ 32) :
    Calls Try.prog 19 #[.agg (n64s (digB v)).toArray] w fun e w' => e = .returned (.agg (n64s (digB (v ^ eB 255 % pB))).toArray) ∧ Below w.heap.size w w' := by
  have hvl := digB_length v
  obtain ⟨x, hx⟩ : ∃ x, digB v = x := ⟨_, rfl⟩
  rw [hx] at hvl ⊢
  have HX := Lib.hid hx
  clear hx
  go_enter Try.func19, Try.ntmps19
  obtain ⟨d1, hd1⟩ : ∃ x, digB 1 = x := ⟨_, rfl⟩
  have h1l : d1.length = 32 := by rw [← hd1]; exact digB_length 1
  have hone : (Value.int .i64 1 :: (zeros 32 (Value.int .i64 0)).tail) = n64s d1 := by rw [← hd1]; exact one_cellsG
  have HD1 := Lib.hid hd1
  clear hd1
  go_wp2_with fail
  obtain ⟨w0, hw0⟩ : ∃ v, ((w.alloc (.cells (n64s x).toArray 30)).alloc (.cells (zeros 32 (Value.int .i64 0)).toArray 30)).alloc (.cells (n64s d1).toArray 30) = v := ⟨_, rfl⟩
  have rx0 : row w0 w.heap.size = (n64s x).toArray := by rw [← hw0]; simp [go_sem]
  have rR0 : row w0 (w.heap.size + 1) = (zeros 32 (Value.int .i64 0)).toArray := by rw [← hw0]; simp [go_sem]
  have rO0 : row w0 (w.heap.size + 1 + 1) = (n64s d1).toArray := by rw [← hw0]; simp [go_sem]
  have z0 : w0.heap.size = w.heap.size + 3 := by rw [← hw0]; simp
  have b0 : Below w.heap.size w w0 := by
    rw [← hw0]
    (repeat (first | exact Below.refl _ _ | refine Below.alloc ?_ (by first | (simp; done) | (simp; omega) | omega) _ | refine Below.drew ?_ | refine Below.setRow ?_ (by first | (simp; done) | (simp; omega) | omega) _ | refine Below.setCell ?_ (by first | (simp; done) | (simp; omega) | omega) _))
  rw [hw0]
  clear hw0 hone
  go_loopw [4] (fun i wr => ∃ k : Nat, k ≤ 255 ∧ i = .int .i64 (254 - (k : Int)) ∧ row wr (w.heap.size + 1 + 1) = (n64s (digB (v ^ eB k % pB))).toArray ∧ Below (w.heap.size + 2) w0 wr) (fun i _ => (intOf i + 1).toNat)
  case atStart => exact ⟨0, by omega, by simp, by rw [show v ^ eB 0 % pB = 1 by rw [eB, Nat.pow_zero]; rfl, HD1.out]; exact rO0, by skip; exact Below.refl _ _⟩
  case round =>
    clear rO0
    obtain ⟨k, hk, rfl, rO, hbel⟩ := hrel
    have hsz := hbel.size
    have rx := (row_below hbel (by omega)).trans rx0
    have rR := (row_below hbel (by omega)).trans rR0
    by_cases hlt : k < 255
    · obtain ⟨b, hb⟩ : ∃ b : Nat, (254 : Int) - (k : Int) = (b : Int) := ⟨254 - k, by omega⟩
      rw [hb]
      have HB := Lib.hid hb
      have hbI : (0 : Int) ≤ (b : Int) := by omega
      have hb254 : (b : Int) ≤ 254 := by omega
      obtain ⟨U, hU⟩ : ∃ U, v ^ eB k % pB = U := ⟨_, rfl⟩
      have hUl : U < 256 ^ 32 := by rw [← hU]; exact pB_lt _
      rw [hU] at rO
      have h2 : U * U % pB = v ^ (2 * eB k) % pB := by rw [← hU]; exact pow_two_mod v _
      have H2 := Lib.hid h2
      obtain ⟨U2, hU2⟩ : ∃ U2, U * U % pB = U2 := ⟨_, rfl⟩
      have hU2l : U2 < 256 ^ 32 := by rw [← hU2]; exact pB_lt _
      have HT1 := Lib.hid (fun W' => timesG_any U U W' hUl hUl)
      have HT2 := Lib.hid (fun W' => timesG_any U2 v W' hU2l hv)
      rw [hU2] at HT1
      rw [HX.out] at HT2
      have h3 : U2 * v % pB = v ^ (2 * eB k + 1) % pB := by rw [← hU2, h2]; exact pow_one_mod v _
      obtain ⟨U3, hU3⟩ : ∃ U3, U2 * v % pB = U3 := ⟨_, rfl⟩
      rw [hU3] at HT2 h3
      rw [hU2] at h2
      have H2' := Lib.hid h2
      have H3' := Lib.hid h3
      have lU := digB_length U
      have lU2 := digB_length U2
      have lU3 := digB_length U3
      obtain ⟨D, hD⟩ : ∃ D, digB U = D := ⟨_, rfl⟩
      obtain ⟨D2, hD2⟩ : ∃ D, digB U2 = D := ⟨_, rfl⟩
      obtain ⟨D3, hD3⟩ : ∃ D, digB U3 = D := ⟨_, rfl⟩
      rw [hD] at rO lU
      rw [hD2] at lU2
      rw [hD3] at lU3
      simp only [hD, hD2] at HT1
      simp only [hD2, hD3] at HT2
      have HD2 := Lib.hid hD2
      have HD3 := Lib.hid hD3
      clear hb hU h2 hU2 h3 hU3 H2 hD hD2 hD3
      go_wp2_with fail
      (with_reducible refine (HT1.out _).mono ?_)
      rintro e w2 ⟨rfl, b2⟩
      have z2 := b2.size
      have rO2 := (row_below b2 (by omega)).trans rO
      have hr3 := row_setRow_same (w := w2) (g := w.heap.size + 1 + 1) (c := (n64s D2).toArray) (by rw [rO2]; simp [lU]) (by rw [rO2]; simp [lU, lU2])
      have b3 : Below (w.heap.size + 2) w0 (w2.setRow (w.heap.size + 1 + 1) (n64s D2).toArray) := Below.setRow (hbel.trans (b2.mono (by omega))) (Nat.le_refl _) _
      have rx3 : row (w2.setRow (w.heap.size + 1 + 1) (n64s D2).toArray) w.heap.size = (n64s x).toArray := by rw [row_setRow_other _ _ _ (by omega), row_below b2 (by omega)]; exact rx
      have z3 : w.heap.size + 3 ≤ (w2.setRow (w.heap.size + 1 + 1) (n64s D2).toArray).heap.size := by simp; omega
      obtain ⟨w3, hw3⟩ : ∃ W, w2.setRow (w.heap.size + 1 + 1) (n64s D2).toArray = W := ⟨_, rfl⟩
      rw [hw3] at hr3 b3 rx3 z3
      by_cases hs : k = 252 ∨ k = 250
      · have he : eB (k + 1) = 2 * eB k := by rw [eB, if_pos hs]
        have HE := Lib.hid he
        have hb24 : (b : Int) = 2 ∨ (b : Int) = 4 := by have := HB.out; omega
        have hfin : row w3 (w.heap.size + 1 + 1) = (n64s (digB (v ^ eB (k + 1) % pB))).toArray := by rw [HE.out, ← H2'.out, HD2.out]; exact hr3
        have b3' : Below (w.heap.size + 2) w0 w3 := b3
        clear he
        rcases hb24 with hb2 | hb4
        · rw [hb2]
          rw [hb2] at HB
          go_wp2_with fail
          go_roundw
          case rel => exact ⟨k + 1, by omega, by have := HB.out; congr 1; omega, hfin, b3'⟩
          case measure => simp [intOf]; omega
        · rw [hb4]
          rw [hb4] at HB
          go_wp2_with fail
          go_roundw
          case rel => exact ⟨k + 1, by omega, by have := HB.out; congr 1; omega, hfin, b3'⟩
          case measure => simp [intOf]; omega
      · have he : eB (k + 1) = 2 * eB k + 1 := by rw [eB, if_neg hs]
        have HE := Lib.hid he
        have hb2 : ((b : Int) != 2) = true := by have := HB.out; simp; omega
        have hb4 : ((b : Int) != 4) = true := by have := HB.out; simp; omega
        have hb2n : ¬ (b : Int) = 2 := by have := HB.out; omega
        have hb4n : ¬ (b : Int) = 4 := by have := HB.out; omega
        clear he
        go_wp2_with fail
        (with_reducible refine (HT2.out _).mono ?_)
        rintro e w4 ⟨rfl, b4⟩
        have z4 := b4.size
        have rO4 := (row_below b4 (by omega)).trans hr3
        have hr5 := row_setRow_same (w := w4) (g := w.heap.size + 1 + 1) (c := (n64s D3).toArray) (by rw [rO4]; simp [lU2]) (by rw [rO4]; simp [lU2, lU3])
        have b5 : Below (w.heap.size + 2) w0 (w4.setRow (w.heap.size + 1 + 1) (n64s D3).toArray) := Below.setRow (b3.trans (b4.mono (by omega))) (Nat.le_refl _) _
        go_wp2_with fail
        go_roundw
        case rel => exact ⟨k + 1, by omega, by have := HB.out; congr 1; omega, by rw [HE.out, ← H3'.out, HD3.out]; exact hr5, b5⟩
        case measure => simp [intOf]
    · obtain rfl : k = 255 := by omega
      have hneg : ((254 : Int) - ((255 : Nat) : Int)) = -1 := by omega
      rw [hneg]
      have lU := digB_length (v ^ eB 255 % pB)
      obtain ⟨r, hr⟩ : ∃ r, digB (v ^ eB 255 % pB) = r := ⟨_, rfl⟩
      rw [hr] at rO lU
      have HR := Lib.hid hr
      have hfin := row_setRow_same (w := wr) (g := w.heap.size + 1) (c := (n64s r).toArray) (by rw [rR]; simp) (by rw [rR]; simp [lU])
      have hb8 : Below w.heap.size w wr := b0.trans (hbel.mono (by omega))
      clear hr hneg
      go_wp2_with fail
      (try simp only [Exit.inBlock, Exit.then])
      refine bodyPost_ret (results_1 rfl (resOk_row rfl ?_)) rfl ?_
      · rw [hfin]
        simp [lU]
      refine ⟨by rw [hfin, HR.out], ?_⟩
      exact Below.setRow hb8 (by omega) _
end Go.Proofs.Ytohhiibgjcbpiaa
