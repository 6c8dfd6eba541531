/- Contracts of the reference of chapter 10: longer messages, parsed. -/
import Derived.Test.YtckckabedgpbiaaJ37
set_option linter.unusedSimpArgs false
set_option linter.unusedVariables false
set_option maxRecDepth 4000
namespace Go.Proofs.Ytckckabedgpbiaa
open Go.RowKit
attribute [local irreducible] ndS sumN bytesN
set_option maxRecDepth 20000 in
set_option maxHeartbeats 4000000 in
theorem rparse_body32 (l : List UInt8) (hl : 64 ≤ l.length) (hl2 : l.length ≤ 10000) (hsz : numAt l 4 = 32) (h0 : l[0] = 96) (h6 : l[6] = 58) (h7 : l[7] = 255) (hls : 72 ≤ l.length) (cs : List Value) (n : Int) (hout : ndRest l 32 = (cs, n)) : ParsesR l cs n := by
 intro w
 have h1 : (64 : Int) ≤ l.length := by omega
 have h1b : (72 : Int) ≤ l.length := by omega
 have h44 : (44 : Int) ≤ l.length := by omega
 have h2 : (l.length : Int) ≤ 10000 := by omega
 have HN := Lib.hid (fun w => rnumber_any ((l.drop 4).take 2) w (by simp; omega))
 have hnn : numN ((l.drop 4).take 2) = 32 := hsz
 rw [hnn, show ((32 : Nat) : Int) = 32 from rfl] at HN
 have c0' : ((l[0].toNat : Int) != 96) = false := by rw [h0]; rfl
 have c6' : ((l[6].toNat : Int) != 58) = false := by rw [h6]; rfl
 have c7' : ((l[7].toNat : Int) != 255) = false := by rw [h7]; rfl
 clear h0 h6 h7 hnn hsz
 go_enter Try.func52, Try.ntmps52
 go_wp2_with fail
 refine (HN.out _).mono ?_
 rintro e w1 ⟨rfl, b1⟩
 have z1 := b1.size
 simp only [alloc_sizeW] at z1
 have rR : row w1 w.heap.size = (Value.int .i64 0 :: (zeros 54 (Value.int .u8 0) ++ Value.bool false :: zeros 4 (Value.int .u8 0))).toArray := by rw [row_below b1 (by simp)]; simp [go_sem]
 have bb : Below w.heap.size w w1 := below_of b1 (by (repeat (first | exact Below.refl _ _ | refine Below.al ?_ _ | refine Below.drew ?_ | refine Below.sr ?_ _ | refine Below.sc ?_ _))) (by first | (simp; done) | (simp; omega) | omega)
 clear b1
 obtain ⟨D, hD⟩ : ∃ v, w1.heap.size = v := ⟨_, rfl⟩
 obtain ⟨W0, hW0⟩ : ∃ v, w1.alloc (.cells (Value.int .i64 0 :: (zeros 54 (Value.int .u8 0) ++ Value.bool false :: zeros 4 (Value.int .u8 0))).toArray 130) = v := ⟨_, rfl⟩
 have rX0 : row W0 D = (Value.int .i64 0 :: (u8s (gone l 8 16 0) ++ (u8s (gone l 24 16 0) ++ (u8s (gone l 48 16 0) ++ (u8v mac0 ++ (Value.bool false :: u8s (gone l 44 4 0))))))).toArray := by rw [← hW0, ← hD, row_alloc_at _ _ _ rfl, start16 l]
 have rR0 : row W0 w.heap.size = (Value.int .i64 0 :: (zeros 54 (Value.int .u8 0) ++ Value.bool false :: zeros 4 (Value.int .u8 0))).toArray := by rw [← hW0, row_alloc_past _ _ (by omega)]; exact rR
 have z0 : W0.heap.size = D + 1 := by rw [← hW0, alloc_sizeW, hD]
 have b0 : Below w.heap.size w W0 := by rw [← hW0]; exact Below.alloc bb (by omega) _
 have zD : w.heap.size < D := by omega
 go_wp2_with fail
 try rw [hW0, hD]
 clear hW0 rR bb z1
 go_loopw [6] (fun i wr => ∃ k : Nat, k ≤ 16 ∧ i = .int .i64 k ∧ row wr w.heap.size = (Value.int .i64 0 :: (zeros 54 (Value.int .u8 0) ++ Value.bool false :: zeros 4 (Value.int .u8 0))).toArray ∧ row wr D = (Value.int .i64 0 :: (u8s (gone l 8 16 k) ++ (u8s (gone l 24 16 k) ++ (u8s (gone l 48 16 k) ++ (u8v mac0 ++ (Value.bool false :: u8s (gone l 44 4 0))))))).toArray ∧ Below w.heap.size w wr ∧ D < wr.heap.size) (fun i _ => 16 - (intOf i).toNat)
 case atStart => exact ⟨0, by omega, rfl, rR0, rX0, b0, by omega⟩
 case round =>
  clear rR0 rX0 b0 z0
  obtain ⟨k, hk, rfl, rR, rX, hbel, zr⟩ := hrel
  by_cases hlt : k < 16
  ·
   have g1 := gone_length l 8 16 k (by omega) (by omega)
   have g2 := gone_length l 24 16 k (by omega) (by omega)
   have g3 := gone_length l 48 16 k (by omega) (by omega)
   have g4 := gone_length l 44 4 0 (by omega) (by omega)
   have c1 : (k : Int) < 16 := by omega
   have f5 : 1 + k < (row wr D).size := by rw [rX]; simp [g1, g2, g3, g4]; omega
   have f1 : 1 + k < 60 := by omega
   have f2 : 17 + k < 60 := by omega
   have f3 : 33 + k < 60 := by omega
   have f6 : k < 59 := by omega
   have f7 : k < 43 := by omega
   have f8 : k < 27 := by omega
   go_wp2_with fail
   rw [put16 _ _ _ _ hl hlt]
   go_roundw
   case rel =>
    refine ⟨k + 1, by omega, rfl, by rw [row_setRow_other _ _ _ (by omega)]; exact rR, row_setRow_same (by rw [rX]; simp) (by rw [rX]; simp [gone_length l _ 16 _ (show 8 + 16 ≤ l.length by omega), gone_length l _ 16 _ (show 24 + 16 ≤ l.length by omega), gone_length l _ 16 _ (show 48 + 16 ≤ l.length by omega), hlt, hk, Nat.succ_le_of_lt hlt]), Below.setRow hbel (by omega) _, by simpa using zr⟩
   case measure => simp [intOf]; omega
  ·
   obtain rfl : k = 16 := by omega
   rw [gone_full l 8 16 (by omega), gone_full l 24 16 (by omega), gone_full l 48 16 (by omega)] at rX
   replace rX : row wr D = (Value.int .i64 0 :: (u8v (vecAt l 8 16) ++ (u8v (vecAt l 24 16) ++ (u8v (vecAt l 48 16) ++ (u8v mac0 ++ (Value.bool false :: u8s (gone l 44 4 0))))))).toArray := rX
   rw [show ((16 : Nat) : Int) = 16 from rfl]
   go_wp2_with fail
   go_loopw [7] (fun i wr => ∃ k : Nat, k ≤ 4 ∧ i = .int .i64 k ∧ row wr w.heap.size = (Value.int .i64 0 :: (zeros 54 (Value.int .u8 0) ++ Value.bool false :: zeros 4 (Value.int .u8 0))).toArray ∧ row wr D = (Value.int .i64 0 :: (u8v (vecAt l 8 16) ++ (u8v (vecAt l 24 16) ++ (u8v (vecAt l 48 16) ++ (u8v mac0 ++ (Value.bool false :: u8s (gone l 44 4 k))))))).toArray ∧ Below w.heap.size w wr ∧ D < wr.heap.size) (fun i _ => 4 - (intOf i).toNat)
   case atStart => exact ⟨0, by omega, rfl, rR, rX, hbel, zr⟩
   case round =>
    clear rR rX hbel zr hk
    obtain ⟨k, hk, rfl, rR, rX, hbel, zr⟩ := hrel
    by_cases hlt : k < 4
    ·
     have g1 := gone_length l 44 4 k (by omega) (by omega)
     have c1 : (k : Int) < 4 := by omega
     have f5 : 56 + k < (row wr D).size := by rw [rX]; simp [g1]; omega
     have f1 : 56 + k < 60 := by omega
     have f6 : k < 4 := by omega
     go_wp2_with fail
     rw [put4b _ _ _ _ _ _ _ _ hl hlt]
     go_roundw
     case rel =>
      refine ⟨k + 1, by omega, rfl, by rw [row_setRow_other _ _ _ (by omega)]; exact rR, row_setRow_same (by rw [rX]; simp) (by rw [rX]; simp [gone_length l _ 4 _ (show 44 + 4 ≤ l.length by omega), hlt, hk, Nat.succ_le_of_lt hlt]), Below.setRow hbel (by omega) _, by simpa using zr⟩
     case measure => simp [intOf]; omega
    ·
     obtain rfl : k = 4 := by omega
     rw [gone_full l 44 4 (by omega)] at rX
     replace rX : row wr D = (Value.int .i64 0 :: (u8v (vecAt l 8 16) ++ (u8v (vecAt l 24 16) ++ (u8v (vecAt l 48 16) ++ (u8v mac0 ++ (Value.bool false :: u8v (vecAt l 44 4))))))).toArray := rX
     rw [show ((4 : Nat) : Int) = 4 from rfl]
     by_cases a : l[40] = 135
     ·
      skip
      have e40 : ((l[40].toNat : Int) != 135) = false := by rw [a]; rfl
      have g40 : l[40].toNat = 135 := by rw [a]; rfl
      have g40d : l.getD 40 0 = 135 := by rw [getD_elem _ _ _ (by omega), a]
      by_cases b : l[41] = 0
      ·
       have d41 : ((l[41].toNat : Int) != 0) = false := by rw [b]; rfl
       have g41 : l[41].toNat = 0 := by rw [b]; rfl
       have g41d : l.getD 41 0 = 0 := by rw [getD_elem _ _ _ (by omega), b]
       rw [ndRest_op1 l 32 g40d, ndRest1, if_neg (by rw [g41d]; simp)] at hout
       clear a b g40d g41d
       have k64 : (64 : Int) < (l.length : Int) := by omega
       have k65 : (65 : Int) < (l.length : Int) := by omega
       have hw64 : IntKind.i64.wrap ((l[64].toNat : Nat) : Int) = ((l[64].toNat : Nat) : Int) := by have := l[64].toNat_lt; rw [wraps_i64 _ (by omega) (by omega)]
       rw [if_neg (by decide)] at hout
       obtain ⟨W1, hW1⟩ : ∃ v, wr.setRow D (Value.int .i64 1 :: (u8v (vecAt l 8 16) ++ (u8v (vecAt l 24 16) ++ (u8v (vecAt l 48 16) ++ (u8v mac0 ++ (Value.bool false :: u8v (vecAt l 44 4))))))).toArray = v := ⟨_, rfl⟩
       have rX' : row W1 D = (Value.int .i64 1 :: (u8v (vecAt l 8 16) ++ (u8v (vecAt l 24 16) ++ (u8v (vecAt l 48 16) ++ (u8v mac0 ++ (Value.bool false :: u8v (vecAt l 44 4))))))).toArray := by rw [← hW1]; exact row_setRow_same (by rw [rX]; simp) (by rw [rX]; simp)
       have rR' : row W1 w.heap.size = (Value.int .i64 0 :: (zeros 54 (Value.int .u8 0) ++ Value.bool false :: zeros 4 (Value.int .u8 0))).toArray := by rw [← hW1, row_setRow_other _ _ _ (by omega)]; exact rR
       have zW1 : W1.heap.size = wr.heap.size := by rw [← hW1, setRow_size]
       have hbel' : Below w.heap.size w W1 := by rw [← hW1]; exact Below.setRow hbel (by omega) _
       go_wp2_with fail
       clear hW1 rX rR hbel
       have rX := rX'
       have rR := rR'
       have hbel := hbel'
       clear rX' rR' hbel'
       refine wp_region_beginR [(D, (Value.int .i64 1 :: (u8v (vecAt l 8 16) ++ (u8v (vecAt l 24 16) ++ (u8v (vecAt l 48 16) ++ (u8v mac0 ++ (Value.bool false :: u8v (vecAt l 44 4))))))).toArray)] rfl (by simp only [Rws]; (repeat (first | exact trivial | refine ⟨(by first | assumption | (simp [go_sem, *]; done)), (by first | omega | (simp; done) | (simp; omega)), ?_⟩))) (fun hS => ?_)
       refine qp 0 hS ?_
       refine qp 1 hS ?_
       refine qp 2 hS ?_
       refine qp 3 hS ?_
       refine qp 4 hS ?_
       by_cases c : l[64] = 1
       ·
        have d64 : ((l[64].toNat : Int) != 1) = false := by rw [c]; rfl
        have g64 : l[64].toNat = 1 := by rw [c]; rfl
        rw [if_neg (by rw [getD_elem _ _ _ (by omega), c]; decide)] at hout
        clear c
        refine qp 5 hS ?_
        refine qp 6 hS ?_
        by_cases d : l[65] = 1
        ·
         have d65 : ((l[65].toNat : Int) != 1) = false := by rw [d]; rfl
         have g65 : l[65].toNat = 1 := by rw [d]; rfl
         rw [if_neg (by rw [getD_elem _ _ _ (by omega), d]; decide)] at hout
         clear d
         refine qp 7 hS ?_
         refine qp 8 hS ?_
         refine qp 9 hS ?_
         refine qp 10 hS ?_
         refine wpAnyR_done (by kernel_rfl) (fun w5 h5 => ?_) _
         have b5 := below_step (Below.drew (Below.refl _ _)) h5
         have z5 := b5.size
         have rR5 := (row_below b5 (by omega)).trans rR
         have rX5 := (row_below b5 (by omega)).trans rX
         have bb5 := hbel.trans (b5.mono (by omega))
         clear hS h5 b5 rR rX hbel
         have rX := rX5
         have rR := rR5
         have hbel := bb5
         clear rX5 rR5 bb5
         obtain ⟨W2, hW2⟩ : ∃ v, w5.setRow D (Value.int .i64 1 :: (u8v (vecAt l 8 16) ++ (u8v (vecAt l 24 16) ++ (u8v (vecAt l 48 16) ++ (u8s (gone l 66 6 0) ++ (Value.bool true :: u8v (vecAt l 44 4))))))).toArray = v := ⟨_, rfl⟩
         have rX' : row W2 D = (Value.int .i64 1 :: (u8v (vecAt l 8 16) ++ (u8v (vecAt l 24 16) ++ (u8v (vecAt l 48 16) ++ (u8s (gone l 66 6 0) ++ (Value.bool true :: u8v (vecAt l 44 4))))))).toArray := by rw [← hW2, gone_zero]; exact row_setRow_same (by rw [rX]; simp) (by rw [rX]; simp)
         have rR' : row W2 w.heap.size = (Value.int .i64 0 :: (zeros 54 (Value.int .u8 0) ++ Value.bool false :: zeros 4 (Value.int .u8 0))).toArray := by rw [← hW2, row_setRow_other _ _ _ (by omega)]; exact rR
         have zW2 : W2.heap.size = w5.heap.size := by rw [← hW2, setRow_size]
         have hbel' : Below w.heap.size w W2 := by rw [← hW2]; exact Below.setRow hbel (by omega) _
         rw [gone_zero] at hW2
         replace hW2 : w5.setRow D (Value.int .i64 1 :: (u8v (vecAt l 8 16) ++ (u8v (vecAt l 24 16) ++ (u8v (vecAt l 48 16) ++ (u8v mac0 ++ (Value.bool true :: u8v (vecAt l 44 4))))))).toArray = W2 := hW2
         go_wp2_with fail
         clear hW2 rX rR hbel
         have rX := rX'
         have rR := rR'
         have hbel := hbel'
         clear rX' rR' hbel'
         clear g40 g41 g64 g65 d64 d65 e40 d41 hw64
         go_loopw [8] (fun i wr => ∃ k : Nat, k ≤ 6 ∧ i = .int .i64 k ∧ row wr w.heap.size = (Value.int .i64 0 :: (zeros 54 (Value.int .u8 0) ++ Value.bool false :: zeros 4 (Value.int .u8 0))).toArray ∧ row wr D = (Value.int .i64 1 :: (u8v (vecAt l 8 16) ++ (u8v (vecAt l 24 16) ++ (u8v (vecAt l 48 16) ++ (u8s (gone l 66 6 k) ++ (Value.bool true :: u8v (vecAt l 44 4))))))).toArray ∧ Below w.heap.size w wr ∧ D < wr.heap.size) (fun i _ => 6 - (intOf i).toNat)
         case atStart => exact ⟨0, by omega, rfl, rR, rX, hbel, by omega⟩
         case round =>
          clear rX rR hbel zr
          obtain ⟨k, hk, rfl, rR, rX, hbel, zr⟩ := hrel
          by_cases hlt : k < 6
          ·
           have g1 := gone_length l 66 6 k (by omega) (by omega)
           have c1 : (k : Int) < 6 := by omega
           have f5 : 49 + k < (row wr D).size := by rw [rX]; simp [g1]; omega
           have f1 : 49 + k < 60 := by omega
           have f6 : k < 11 := by omega
           have f7 : k < 6 := by omega
           go_wp2_with fail
           rw [put6b _ _ _ _ _ _ _ _ hls hlt]
           go_roundw
           case rel =>
            refine ⟨k + 1, by omega, rfl, by rw [row_setRow_other _ _ _ (by omega)]; exact rR, row_setRow_same (by rw [rX]; simp) (by rw [rX]; simp [gone_length l _ 6 _ (show 66 + 6 ≤ l.length by omega), hlt, hk, Nat.succ_le_of_lt hlt]), Below.setRow hbel (by omega) _, by simpa using zr⟩
           case measure => simp [intOf]; omega
          ·
           obtain rfl : k = 6 := by omega
           rw [gone_full l 66 6 (by omega)] at rX
           replace rX : row wr D = (Value.int .i64 1 :: (u8v (vecAt l 8 16) ++ (u8v (vecAt l 24 16) ++ (u8v (vecAt l 48 16) ++ (u8v (vecAt l 66 6) ++ (Value.bool true :: u8v (vecAt l 44 4))))))).toArray := rX
           rw [show ((6 : Nat) : Int) = 6 from rfl]
           have lS : (ndS 1 (vecAt l 8 16) (vecAt l 24 16) (vecAt l 48 16) (vecAt l 66 6) true (vecAt l 44 4)).length = 72 := ndS_length _ _ _ _ _ _ _
           have hS42 : List.take 2 (List.drop 42 (ndS 1 (vecAt l 8 16) (vecAt l 24 16) (vecAt l 48 16) (vecAt l 66 6) true (vecAt l 44 4))) = bytesN (sumN 1 (vecAt l 8 16) (vecAt l 24 16) (vecAt l 48 16) (vecAt l 66 6) true (vecAt l 44 4)) 2 := ndS_sum _ _ _ _ _ _ _
           have HPr := fun w => rprint_op1 (vecAt l 8 16) (vecAt l 24 16) (vecAt l 48 16) (vecAt l 66 6) true (vecAt l 44 4) w
           unfold ndV at HPr
           rw [← hS42] at hout
           obtain ⟨S, hSS⟩ : ∃ v, ndS 1 (vecAt l 8 16) (vecAt l 24 16) (vecAt l 48 16) (vecAt l 66 6) true (vecAt l 44 4) = v := ⟨_, rfl⟩
           rw [hSS] at lS hout
           simp only [hSS] at HPr
           have KPr := Lib.hid HPr
           have lSI : (S.length : Int) = 72 := by omega
           have LS := Lib.hid lS
           clear HPr hSS hS42 lS
           go_wp2_with fail
           refine wp_region_beginR [(D, (Value.int .i64 1 :: (u8v (vecAt l 8 16) ++ (u8v (vecAt l 24 16) ++ (u8v (vecAt l 48 16) ++ (u8v (vecAt l 66 6) ++ (Value.bool true :: u8v (vecAt l 44 4))))))).toArray)] rfl (by simp only [Rws]; (repeat (first | exact trivial | refine ⟨(by first | assumption | (simp [go_sem, *]; done)), (by first | omega | (simp; done) | (simp; omega)), ?_⟩))) (fun hS => ?_)
           refine qp 0 hS ?_
           refine qc 1 (v := ?_) hS ?_ ?_
           rotate_left
           ·
            intro w' hS'
            simp only [Rws] at hS'
            go_simp
            with_reducible refine (KPr.out _).mono ?_
            rintro e w'' ⟨rfl, hb⟩
            exact ⟨_, rfl, by rfl, hb⟩
           refine qp 2 hS ?_
           refine qp 3 hS ?_
           refine qp 4 hS ?_
           by_cases he : List.take 2 (List.drop 42 S) = List.take 2 (List.drop 42 l)
           ·
            rw [if_pos he] at hout
            obtain ⟨rfl, rfl⟩ := Prod.mk.inj hout
            have he1 : (List.take 2 (List.drop 42 S) == List.take 2 (List.drop 42 l)) = true := by rw [he]; simp
            have he2 : (List.take 2 (List.drop 42 S) != List.take 2 (List.drop 42 l)) = false := by rw [bne, he1]; rfl
            clear he hout
            refine qp 5 hS ?_
            refine wpAnyR_done (by kernel_rfl) (fun w7 h7 => ?_) _
            have b7 := below_step (Below.drew (Below.refl _ _)) h7
            have z7 := b7.size
            have rR7 := (row_below b7 (by omega)).trans rR
            have rX7 := (row_below b7 (by omega)).trans rX
            have bb7 := hbel.trans (b7.mono (by omega))
            clear hS h7 b7 rR rX hbel
            go_wp2_with fail
            have hfin := row_setRow_same (w := w7) (g := w.heap.size) (c := (Value.int .i64 1 :: (u8v (vecAt l 8 16) ++ (u8v (vecAt l 24 16) ++ (u8v (vecAt l 48 16) ++ (u8v (vecAt l 66 6) ++ (Value.bool true :: u8v (vecAt l 44 4))))))).toArray) (by rw [rR7]; simp) (by rw [rR7]; simp)
            (try simp only [Exit.inBlock, Exit.then])
            refine bodyPost_ret (results_2 rfl (resOk_row rfl ?_) resOk_tmp) rfl ?_
            ·
             rw [hfin]; simp
            ·
             exact ⟨by rw [hfin]; rfl, Below.setRow bb7 (Nat.le_refl _) _⟩
           ·
            rw [if_neg he] at hout
            obtain ⟨rfl, rfl⟩ := Prod.mk.inj hout
            have he1 : (List.take 2 (List.drop 42 S) == List.take 2 (List.drop 42 l)) = false := by simpa using he
            have he2 : (List.take 2 (List.drop 42 S) != List.take 2 (List.drop 42 l)) = true := by rw [bne, he1]; rfl
            clear he hout
            refine qp 5 hS ?_
            refine wpAnyR_done (by kernel_rfl) (fun w7 h7 => ?_) _
            have b7 := below_step (Below.drew (Below.refl _ _)) h7
            have z7 := b7.size
            have rR7 := (row_below b7 (by omega)).trans rR
            have bb7 := hbel.trans (b7.mono (by omega))
            clear hS h7 b7 rR rX hbel
            go_wp2_with fail
            have hfin := row_setRow_same (w := w7) (g := w.heap.size) (c := (Value.int .i64 0 :: (zeros 54 (Value.int .u8 0) ++ Value.bool false :: zeros 4 (Value.int .u8 0))).toArray) (by rw [rR7]; simp) (by rw [rR7])
            (try simp only [Exit.inBlock, Exit.then])
            refine bodyPost_ret (results_2 rfl (resOk_row rfl ?_) resOk_tmp) rfl ?_
            ·
             first | (rw [hfin]; simp; done) | (rw [row_alloc_past _ _ (by rw [setRow_size]; omega), hfin]; simp)
            ·
             first | exact ⟨by rw [hfin]; rfl, Below.setRow bb7 (Nat.le_refl _) _⟩ | exact ⟨by rw [row_alloc_past _ _ (by rw [setRow_size]; omega), hfin]; rfl, Below.alloc (Below.setRow bb7 (Nat.le_refl _) _) (by rw [setRow_size]; omega) _⟩
        ·
         have d65 : ((l[65].toNat : Int) != 1) = true := by simp only [bne_iff_ne, ne_eq]; intro hh; exact d (UInt8.toNat_inj.1 (by show l[65].toNat = 1; omega))
         rw [if_pos (by rw [getD_elem _ _ _ (by omega)]; exact d)] at hout
         obtain ⟨rfl, rfl⟩ := Prod.mk.inj hout
         clear d hout
         refine qp 7 hS ?_
         refine qp 8 hS ?_
         refine qp 9 hS ?_
         refine qp 10 hS ?_
         refine wpAnyR_done (by kernel_rfl) (fun w5 h5 => ?_) _
         have b5 := below_step (Below.drew (Below.refl _ _)) h5
         have z5 := b5.size
         have rR5 := (row_below b5 (by omega)).trans rR
         have rX5 := (row_below b5 (by omega)).trans rX
         have bb5 := hbel.trans (b5.mono (by omega))
         clear hS h5 b5 rR rX hbel
         go_wp2_with fail
         have hfin := row_setRow_same (w := w5) (g := w.heap.size) (c := (Value.int .i64 0 :: (zeros 54 (Value.int .u8 0) ++ Value.bool false :: zeros 4 (Value.int .u8 0))).toArray) (by rw [rR5]; simp) (by rw [rR5])
         (try simp only [Exit.inBlock, Exit.then])
         refine bodyPost_ret (results_2 rfl (resOk_row rfl ?_) resOk_tmp) rfl ?_
         ·
          first | (rw [hfin]; simp; done) | (rw [row_alloc_past _ _ (by rw [setRow_size]; omega), hfin]; simp)
         ·
          first | exact ⟨by rw [hfin]; rfl, Below.setRow bb5 (Nat.le_refl _) _⟩ | exact ⟨by rw [row_alloc_past _ _ (by rw [setRow_size]; omega), hfin]; rfl, Below.alloc (Below.setRow bb5 (Nat.le_refl _) _) (by rw [setRow_size]; omega) _⟩
       ·
        have d64 : ((l[64].toNat : Int) != 1) = true := by simp only [bne_iff_ne, ne_eq]; intro hh; exact c (UInt8.toNat_inj.1 (by show l[64].toNat = 1; omega))
        rw [if_pos (by rw [getD_elem _ _ _ (by omega)]; exact c)] at hout
        obtain ⟨rfl, rfl⟩ := Prod.mk.inj hout
        clear c hout
        refine qp 5 hS ?_
        refine qp 6 hS ?_
        refine wpAnyR_take (i := 7) (v := undef) (by simp only [List.getElem?_toArray, List.getElem?_cons_succ, List.getElem?_cons_zero]; rfl) (by kernel_rfl) (by kernel_rfl) (by kernel_rfl) (by first | exact fun _ _ _ h => h | exact fun _ _ _ h => by cases h.1) (Rws.grow _) (Or.inr ⟨by rfl, by rfl⟩) hS ?_
        (try simp only [Act.put, List.setIfInBounds_toArray, List.set_cons_zero, List.set_cons_succ])
        refine wpAnyR_take (i := 8) (v := undef) (by simp only [List.getElem?_toArray, List.getElem?_cons_succ, List.getElem?_cons_zero]; rfl) (by kernel_rfl) (by kernel_rfl) (by kernel_rfl) (by first | exact fun _ _ _ h => h | exact fun _ _ _ h => by cases h.1) (Rws.grow _) (Or.inr ⟨by rfl, by rfl⟩) hS ?_
        (try simp only [Act.put, List.setIfInBounds_toArray, List.set_cons_zero, List.set_cons_succ])
        refine wpAnyR_take (i := 9) (v := undef) (by simp only [List.getElem?_toArray, List.getElem?_cons_succ, List.getElem?_cons_zero]; rfl) (by kernel_rfl) (by kernel_rfl) (by kernel_rfl) (by first | exact fun _ _ _ h => h | exact fun _ _ _ h => by cases h.1) (Rws.grow _) (Or.inr ⟨by rfl, by rfl⟩) hS ?_
        (try simp only [Act.put, List.setIfInBounds_toArray, List.set_cons_zero, List.set_cons_succ])
        refine qp 10 hS ?_
        refine wpAnyR_done (by kernel_rfl) (fun w5 h5 => ?_) _
        have b5 := below_step (Below.drew (Below.refl _ _)) h5
        have z5 := b5.size
        have rR5 := (row_below b5 (by omega)).trans rR
        have rX5 := (row_below b5 (by omega)).trans rX
        have bb5 := hbel.trans (b5.mono (by omega))
        clear hS h5 b5 rR rX hbel
        go_wp2_with fail
        have hfin := row_setRow_same (w := w5) (g := w.heap.size) (c := (Value.int .i64 0 :: (zeros 54 (Value.int .u8 0) ++ Value.bool false :: zeros 4 (Value.int .u8 0))).toArray) (by rw [rR5]; simp) (by rw [rR5])
        (try simp only [Exit.inBlock, Exit.then])
        refine bodyPost_ret (results_2 rfl (resOk_row rfl ?_) resOk_tmp) rfl ?_
        ·
         first | (rw [hfin]; simp; done) | (rw [row_alloc_past _ _ (by rw [setRow_size]; omega), hfin]; simp)
        ·
         first | exact ⟨by rw [hfin]; rfl, Below.setRow bb5 (Nat.le_refl _) _⟩ | exact ⟨by rw [row_alloc_past _ _ (by rw [setRow_size]; omega), hfin]; rfl, Below.alloc (Below.setRow bb5 (Nat.le_refl _) _) (by rw [setRow_size]; omega) _⟩
      ·
       have d41 : ((l[41].toNat : Int) != 0) = true := by simp only [bne_iff_ne, ne_eq]; intro hh; exact b (UInt8.toNat_inj.1 (by show l[41].toNat = 0; omega))
       have g41d : l.getD 41 0 ≠ 0 := by rw [getD_elem _ _ _ (by omega)]; exact b
       rw [ndRest_op1 l 32 g40d, ndRest1, if_pos g41d] at hout
       clear a b g40d g41d
       obtain ⟨rfl, rfl⟩ := Prod.mk.inj hout
       clear hout
       go_wp2_with fail
       have hfin := row_setRow_same (w := wr) (g := w.heap.size) (c := (Value.int .i64 0 :: (zeros 54 (Value.int .u8 0) ++ Value.bool false :: zeros 4 (Value.int .u8 0))).toArray) (by rw [rR]; simp) (by rw [rR])
       (try simp only [Exit.inBlock, Exit.then])
       refine bodyPost_ret (results_2 rfl (resOk_row rfl ?_) resOk_tmp) rfl ?_
       ·
        first | (rw [hfin]; simp; done) | (rw [row_alloc_past _ _ (by rw [setRow_size]; omega), hfin]; simp)
       ·
        first | exact ⟨by rw [hfin]; rfl, Below.setRow hbel (Nat.le_refl _) _⟩ | exact ⟨by rw [row_alloc_past _ _ (by rw [setRow_size]; omega), hfin]; rfl, Below.alloc (Below.setRow hbel (Nat.le_refl _) _) (by rw [setRow_size]; omega) _⟩
     by_cases a2 : l[40] = 136
     ·
      have a := a2
      clear a2
      have e40 : ((l[40].toNat : Int) != 136) = false := by rw [a]; rfl
      have g40 : l[40].toNat = 136 := by rw [a]; rfl
      have g40d : l.getD 40 0 = 136 := by rw [getD_elem _ _ _ (by omega), a]
      have e40b : ((l[40].toNat : Int) != 135) = true := by rw [a]; rfl
      by_cases b : l[41] = 0
      ·
       have d41 : ((l[41].toNat : Int) != 0) = false := by rw [b]; rfl
       have g41 : l[41].toNat = 0 := by rw [b]; rfl
       have g41d : l.getD 41 0 = 0 := by rw [getD_elem _ _ _ (by omega), b]
       rw [ndRest_op2 l 32 g40d, ndRest1, if_neg (by rw [g41d]; simp)] at hout
       clear a b g40d g41d
       have k64 : (64 : Int) < (l.length : Int) := by omega
       have k65 : (65 : Int) < (l.length : Int) := by omega
       have hw64 : IntKind.i64.wrap ((l[64].toNat : Nat) : Int) = ((l[64].toNat : Nat) : Int) := by have := l[64].toNat_lt; rw [wraps_i64 _ (by omega) (by omega)]
       rw [if_neg (by decide)] at hout
       obtain ⟨W1, hW1⟩ : ∃ v, wr.setRow D (Value.int .i64 2 :: (u8v (vecAt l 8 16) ++ (u8v (vecAt l 24 16) ++ (u8v (vecAt l 48 16) ++ (u8v mac0 ++ (Value.bool false :: u8v (vecAt l 44 4))))))).toArray = v := ⟨_, rfl⟩
       have rX' : row W1 D = (Value.int .i64 2 :: (u8v (vecAt l 8 16) ++ (u8v (vecAt l 24 16) ++ (u8v (vecAt l 48 16) ++ (u8v mac0 ++ (Value.bool false :: u8v (vecAt l 44 4))))))).toArray := by rw [← hW1]; exact row_setRow_same (by rw [rX]; simp) (by rw [rX]; simp)
       have rR' : row W1 w.heap.size = (Value.int .i64 0 :: (zeros 54 (Value.int .u8 0) ++ Value.bool false :: zeros 4 (Value.int .u8 0))).toArray := by rw [← hW1, row_setRow_other _ _ _ (by omega)]; exact rR
       have zW1 : W1.heap.size = wr.heap.size := by rw [← hW1, setRow_size]
       have hbel' : Below w.heap.size w W1 := by rw [← hW1]; exact Below.setRow hbel (by omega) _
       go_wp2_with fail
       clear hW1 rX rR hbel
       have rX := rX'
       have rR := rR'
       have hbel := hbel'
       clear rX' rR' hbel'
       refine wp_region_beginR [(D, (Value.int .i64 2 :: (u8v (vecAt l 8 16) ++ (u8v (vecAt l 24 16) ++ (u8v (vecAt l 48 16) ++ (u8v mac0 ++ (Value.bool false :: u8v (vecAt l 44 4))))))).toArray)] rfl (by simp only [Rws]; (repeat (first | exact trivial | refine ⟨(by first | assumption | (simp [go_sem, *]; done)), (by first | omega | (simp; done) | (simp; omega)), ?_⟩))) (fun hS => ?_)
       refine qp 0 hS ?_
       refine qp 1 hS ?_
       refine qp 2 hS ?_
       refine qp 3 hS ?_
       refine qp 4 hS ?_
       by_cases c : l[64] = 2
       ·
        have d64 : ((l[64].toNat : Int) != 2) = false := by rw [c]; rfl
        have g64 : l[64].toNat = 2 := by rw [c]; rfl
        rw [if_neg (by rw [getD_elem _ _ _ (by omega), c]; decide)] at hout
        clear c
        refine qp 5 hS ?_
        refine qp 6 hS ?_
        by_cases d : l[65] = 1
        ·
         have d65 : ((l[65].toNat : Int) != 1) = false := by rw [d]; rfl
         have g65 : l[65].toNat = 1 := by rw [d]; rfl
         rw [if_neg (by rw [getD_elem _ _ _ (by omega), d]; decide)] at hout
         clear d
         refine qp 7 hS ?_
         refine qp 8 hS ?_
         refine qp 9 hS ?_
         refine qp 10 hS ?_
         refine wpAnyR_done (by kernel_rfl) (fun w5 h5 => ?_) _
         have b5 := below_step (Below.drew (Below.refl _ _)) h5
         have z5 := b5.size
         have rR5 := (row_below b5 (by omega)).trans rR
         have rX5 := (row_below b5 (by omega)).trans rX
         have bb5 := hbel.trans (b5.mono (by omega))
         clear hS h5 b5 rR rX hbel
         have rX := rX5
         have rR := rR5
         have hbel := bb5
         clear rX5 rR5 bb5
         obtain ⟨W2, hW2⟩ : ∃ v, w5.setRow D (Value.int .i64 2 :: (u8v (vecAt l 8 16) ++ (u8v (vecAt l 24 16) ++ (u8v (vecAt l 48 16) ++ (u8s (gone l 66 6 0) ++ (Value.bool true :: u8v (vecAt l 44 4))))))).toArray = v := ⟨_, rfl⟩
         have rX' : row W2 D = (Value.int .i64 2 :: (u8v (vecAt l 8 16) ++ (u8v (vecAt l 24 16) ++ (u8v (vecAt l 48 16) ++ (u8s (gone l 66 6 0) ++ (Value.bool true :: u8v (vecAt l 44 4))))))).toArray := by rw [← hW2, gone_zero]; exact row_setRow_same (by rw [rX]; simp) (by rw [rX]; simp)
         have rR' : row W2 w.heap.size = (Value.int .i64 0 :: (zeros 54 (Value.int .u8 0) ++ Value.bool false :: zeros 4 (Value.int .u8 0))).toArray := by rw [← hW2, row_setRow_other _ _ _ (by omega)]; exact rR
         have zW2 : W2.heap.size = w5.heap.size := by rw [← hW2, setRow_size]
         have hbel' : Below w.heap.size w W2 := by rw [← hW2]; exact Below.setRow hbel (by omega) _
         rw [gone_zero] at hW2
         replace hW2 : w5.setRow D (Value.int .i64 2 :: (u8v (vecAt l 8 16) ++ (u8v (vecAt l 24 16) ++ (u8v (vecAt l 48 16) ++ (u8v mac0 ++ (Value.bool true :: u8v (vecAt l 44 4))))))).toArray = W2 := hW2
         go_wp2_with fail
         clear hW2 rX rR hbel
         have rX := rX'
         have rR := rR'
         have hbel := hbel'
         clear rX' rR' hbel'
         clear g40 g41 g64 g65 d64 d65 e40 d41 hw64
         go_loopw [8] (fun i wr => ∃ k : Nat, k ≤ 6 ∧ i = .int .i64 k ∧ row wr w.heap.size = (Value.int .i64 0 :: (zeros 54 (Value.int .u8 0) ++ Value.bool false :: zeros 4 (Value.int .u8 0))).toArray ∧ row wr D = (Value.int .i64 2 :: (u8v (vecAt l 8 16) ++ (u8v (vecAt l 24 16) ++ (u8v (vecAt l 48 16) ++ (u8s (gone l 66 6 k) ++ (Value.bool true :: u8v (vecAt l 44 4))))))).toArray ∧ Below w.heap.size w wr ∧ D < wr.heap.size) (fun i _ => 6 - (intOf i).toNat)
         case atStart => exact ⟨0, by omega, rfl, rR, rX, hbel, by omega⟩
         case round =>
          clear rX rR hbel zr
          obtain ⟨k, hk, rfl, rR, rX, hbel, zr⟩ := hrel
          by_cases hlt : k < 6
          ·
           have g1 := gone_length l 66 6 k (by omega) (by omega)
           have c1 : (k : Int) < 6 := by omega
           have f5 : 49 + k < (row wr D).size := by rw [rX]; simp [g1]; omega
           have f1 : 49 + k < 60 := by omega
           have f6 : k < 11 := by omega
           have f7 : k < 6 := by omega
           go_wp2_with fail
           rw [put6b _ _ _ _ _ _ _ _ hls hlt]
           go_roundw
           case rel =>
            refine ⟨k + 1, by omega, rfl, by rw [row_setRow_other _ _ _ (by omega)]; exact rR, row_setRow_same (by rw [rX]; simp) (by rw [rX]; simp [gone_length l _ 6 _ (show 66 + 6 ≤ l.length by omega), hlt, hk, Nat.succ_le_of_lt hlt]), Below.setRow hbel (by omega) _, by simpa using zr⟩
           case measure => simp [intOf]; omega
          ·
           obtain rfl : k = 6 := by omega
           rw [gone_full l 66 6 (by omega)] at rX
           replace rX : row wr D = (Value.int .i64 2 :: (u8v (vecAt l 8 16) ++ (u8v (vecAt l 24 16) ++ (u8v (vecAt l 48 16) ++ (u8v (vecAt l 66 6) ++ (Value.bool true :: u8v (vecAt l 44 4))))))).toArray := rX
           rw [show ((6 : Nat) : Int) = 6 from rfl]
           have lS : (ndS 2 (vecAt l 8 16) (vecAt l 24 16) (vecAt l 48 16) (vecAt l 66 6) true (vecAt l 44 4)).length = 72 := ndS_length _ _ _ _ _ _ _
           have hS42 : List.take 2 (List.drop 42 (ndS 2 (vecAt l 8 16) (vecAt l 24 16) (vecAt l 48 16) (vecAt l 66 6) true (vecAt l 44 4))) = bytesN (sumN 2 (vecAt l 8 16) (vecAt l 24 16) (vecAt l 48 16) (vecAt l 66 6) true (vecAt l 44 4)) 2 := ndS_sum _ _ _ _ _ _ _
           have HPr := fun w => rprint_op2 (vecAt l 8 16) (vecAt l 24 16) (vecAt l 48 16) (vecAt l 66 6) true (vecAt l 44 4) w
           unfold ndV at HPr
           rw [← hS42] at hout
           obtain ⟨S, hSS⟩ : ∃ v, ndS 2 (vecAt l 8 16) (vecAt l 24 16) (vecAt l 48 16) (vecAt l 66 6) true (vecAt l 44 4) = v := ⟨_, rfl⟩
           rw [hSS] at lS hout
           simp only [hSS] at HPr
           have KPr := Lib.hid HPr
           have lSI : (S.length : Int) = 72 := by omega
           have LS := Lib.hid lS
           clear HPr hSS hS42 lS
           go_wp2_with fail
           refine wp_region_beginR [(D, (Value.int .i64 2 :: (u8v (vecAt l 8 16) ++ (u8v (vecAt l 24 16) ++ (u8v (vecAt l 48 16) ++ (u8v (vecAt l 66 6) ++ (Value.bool true :: u8v (vecAt l 44 4))))))).toArray)] rfl (by simp only [Rws]; (repeat (first | exact trivial | refine ⟨(by first | assumption | (simp [go_sem, *]; done)), (by first | omega | (simp; done) | (simp; omega)), ?_⟩))) (fun hS => ?_)
           refine qp 0 hS ?_
           refine qc 1 (v := ?_) hS ?_ ?_
           rotate_left
           ·
            intro w' hS'
            simp only [Rws] at hS'
            go_simp
            with_reducible refine (KPr.out _).mono ?_
            rintro e w'' ⟨rfl, hb⟩
            exact ⟨_, rfl, by rfl, hb⟩
           refine qp 2 hS ?_
           refine qp 3 hS ?_
           refine qp 4 hS ?_
           by_cases he : List.take 2 (List.drop 42 S) = List.take 2 (List.drop 42 l)
           ·
            rw [if_pos he] at hout
            obtain ⟨rfl, rfl⟩ := Prod.mk.inj hout
            have he1 : (List.take 2 (List.drop 42 S) == List.take 2 (List.drop 42 l)) = true := by rw [he]; simp
            have he2 : (List.take 2 (List.drop 42 S) != List.take 2 (List.drop 42 l)) = false := by rw [bne, he1]; rfl
            clear he hout
            refine qp 5 hS ?_
            refine wpAnyR_done (by kernel_rfl) (fun w7 h7 => ?_) _
            have b7 := below_step (Below.drew (Below.refl _ _)) h7
            have z7 := b7.size
            have rR7 := (row_below b7 (by omega)).trans rR
            have rX7 := (row_below b7 (by omega)).trans rX
            have bb7 := hbel.trans (b7.mono (by omega))
            clear hS h7 b7 rR rX hbel
            go_wp2_with fail
            have hfin := row_setRow_same (w := w7) (g := w.heap.size) (c := (Value.int .i64 2 :: (u8v (vecAt l 8 16) ++ (u8v (vecAt l 24 16) ++ (u8v (vecAt l 48 16) ++ (u8v (vecAt l 66 6) ++ (Value.bool true :: u8v (vecAt l 44 4))))))).toArray) (by rw [rR7]; simp) (by rw [rR7]; simp)
            (try simp only [Exit.inBlock, Exit.then])
            refine bodyPost_ret (results_2 rfl (resOk_row rfl ?_) resOk_tmp) rfl ?_
            ·
             rw [hfin]; simp
            ·
             exact ⟨by rw [hfin]; rfl, Below.setRow bb7 (Nat.le_refl _) _⟩
           ·
            rw [if_neg he] at hout
            obtain ⟨rfl, rfl⟩ := Prod.mk.inj hout
            have he1 : (List.take 2 (List.drop 42 S) == List.take 2 (List.drop 42 l)) = false := by simpa using he
            have he2 : (List.take 2 (List.drop 42 S) != List.take 2 (List.drop 42 l)) = true := by rw [bne, he1]; rfl
            clear he hout
            refine qp 5 hS ?_
            refine wpAnyR_done (by kernel_rfl) (fun w7 h7 => ?_) _
            have b7 := below_step (Below.drew (Below.refl _ _)) h7
            have z7 := b7.size
            have rR7 := (row_below b7 (by omega)).trans rR
            have bb7 := hbel.trans (b7.mono (by omega))
            clear hS h7 b7 rR rX hbel
            go_wp2_with fail
            have hfin := row_setRow_same (w := w7) (g := w.heap.size) (c := (Value.int .i64 0 :: (zeros 54 (Value.int .u8 0) ++ Value.bool false :: zeros 4 (Value.int .u8 0))).toArray) (by rw [rR7]; simp) (by rw [rR7])
            (try simp only [Exit.inBlock, Exit.then])
            refine bodyPost_ret (results_2 rfl (resOk_row rfl ?_) resOk_tmp) rfl ?_
            ·
             first | (rw [hfin]; simp; done) | (rw [row_alloc_past _ _ (by rw [setRow_size]; omega), hfin]; simp)
            ·
             first | exact ⟨by rw [hfin]; rfl, Below.setRow bb7 (Nat.le_refl _) _⟩ | exact ⟨by rw [row_alloc_past _ _ (by rw [setRow_size]; omega), hfin]; rfl, Below.alloc (Below.setRow bb7 (Nat.le_refl _) _) (by rw [setRow_size]; omega) _⟩
        ·
         have d65 : ((l[65].toNat : Int) != 1) = true := by simp only [bne_iff_ne, ne_eq]; intro hh; exact d (UInt8.toNat_inj.1 (by show l[65].toNat = 1; omega))
         rw [if_pos (by rw [getD_elem _ _ _ (by omega)]; exact d)] at hout
         obtain ⟨rfl, rfl⟩ := Prod.mk.inj hout
         clear d hout
         refine qp 7 hS ?_
         refine qp 8 hS ?_
         refine qp 9 hS ?_
         refine qp 10 hS ?_
         refine wpAnyR_done (by kernel_rfl) (fun w5 h5 => ?_) _
         have b5 := below_step (Below.drew (Below.refl _ _)) h5
         have z5 := b5.size
         have rR5 := (row_below b5 (by omega)).trans rR
         have rX5 := (row_below b5 (by omega)).trans rX
         have bb5 := hbel.trans (b5.mono (by omega))
         clear hS h5 b5 rR rX hbel
         go_wp2_with fail
         have hfin := row_setRow_same (w := w5) (g := w.heap.size) (c := (Value.int .i64 0 :: (zeros 54 (Value.int .u8 0) ++ Value.bool false :: zeros 4 (Value.int .u8 0))).toArray) (by rw [rR5]; simp) (by rw [rR5])
         (try simp only [Exit.inBlock, Exit.then])
         refine bodyPost_ret (results_2 rfl (resOk_row rfl ?_) resOk_tmp) rfl ?_
         ·
          first | (rw [hfin]; simp; done) | (rw [row_alloc_past _ _ (by rw [setRow_size]; omega), hfin]; simp)
         ·
          first | exact ⟨by rw [hfin]; rfl, Below.setRow bb5 (Nat.le_refl _) _⟩ | exact ⟨by rw [row_alloc_past _ _ (by rw [setRow_size]; omega), hfin]; rfl, Below.alloc (Below.setRow bb5 (Nat.le_refl _) _) (by rw [setRow_size]; omega) _⟩
       ·
        have d64 : ((l[64].toNat : Int) != 2) = true := by simp only [bne_iff_ne, ne_eq]; intro hh; exact c (UInt8.toNat_inj.1 (by show l[64].toNat = 2; omega))
        rw [if_pos (by rw [getD_elem _ _ _ (by omega)]; exact c)] at hout
        obtain ⟨rfl, rfl⟩ := Prod.mk.inj hout
        clear c hout
        refine qp 5 hS ?_
        refine qp 6 hS ?_
        refine wpAnyR_take (i := 7) (v := undef) (by simp only [List.getElem?_toArray, List.getElem?_cons_succ, List.getElem?_cons_zero]; rfl) (by kernel_rfl) (by kernel_rfl) (by kernel_rfl) (by first | exact fun _ _ _ h => h | exact fun _ _ _ h => by cases h.1) (Rws.grow _) (Or.inr ⟨by rfl, by rfl⟩) hS ?_
        (try simp only [Act.put, List.setIfInBounds_toArray, List.set_cons_zero, List.set_cons_succ])
        refine wpAnyR_take (i := 8) (v := undef) (by simp only [List.getElem?_toArray, List.getElem?_cons_succ, List.getElem?_cons_zero]; rfl) (by kernel_rfl) (by kernel_rfl) (by kernel_rfl) (by first | exact fun _ _ _ h => h | exact fun _ _ _ h => by cases h.1) (Rws.grow _) (Or.inr ⟨by rfl, by rfl⟩) hS ?_
        (try simp only [Act.put, List.setIfInBounds_toArray, List.set_cons_zero, List.set_cons_succ])
        refine wpAnyR_take (i := 9) (v := undef) (by simp only [List.getElem?_toArray, List.getElem?_cons_succ, List.getElem?_cons_zero]; rfl) (by kernel_rfl) (by kernel_rfl) (by kernel_rfl) (by first | exact fun _ _ _ h => h | exact fun _ _ _ h => by cases h.1) (Rws.grow _) (Or.inr ⟨by rfl, by rfl⟩) hS ?_
        (try simp only [Act.put, List.setIfInBounds_toArray, List.set_cons_zero, List.set_cons_succ])
        refine qp 10 hS ?_
        refine wpAnyR_done (by kernel_rfl) (fun w5 h5 => ?_) _
        have b5 := below_step (Below.drew (Below.refl _ _)) h5
        have z5 := b5.size
        have rR5 := (row_below b5 (by omega)).trans rR
        have rX5 := (row_below b5 (by omega)).trans rX
        have bb5 := hbel.trans (b5.mono (by omega))
        clear hS h5 b5 rR rX hbel
        go_wp2_with fail
        have hfin := row_setRow_same (w := w5) (g := w.heap.size) (c := (Value.int .i64 0 :: (zeros 54 (Value.int .u8 0) ++ Value.bool false :: zeros 4 (Value.int .u8 0))).toArray) (by rw [rR5]; simp) (by rw [rR5])
        (try simp only [Exit.inBlock, Exit.then])
        refine bodyPost_ret (results_2 rfl (resOk_row rfl ?_) resOk_tmp) rfl ?_
        ·
         first | (rw [hfin]; simp; done) | (rw [row_alloc_past _ _ (by rw [setRow_size]; omega), hfin]; simp)
        ·
         first | exact ⟨by rw [hfin]; rfl, Below.setRow bb5 (Nat.le_refl _) _⟩ | exact ⟨by rw [row_alloc_past _ _ (by rw [setRow_size]; omega), hfin]; rfl, Below.alloc (Below.setRow bb5 (Nat.le_refl _) _) (by rw [setRow_size]; omega) _⟩
      ·
       have d41 : ((l[41].toNat : Int) != 0) = true := by simp only [bne_iff_ne, ne_eq]; intro hh; exact b (UInt8.toNat_inj.1 (by show l[41].toNat = 0; omega))
       have g41d : l.getD 41 0 ≠ 0 := by rw [getD_elem _ _ _ (by omega)]; exact b
       rw [ndRest_op2 l 32 g40d, ndRest1, if_pos g41d] at hout
       clear a b g40d g41d
       obtain ⟨rfl, rfl⟩ := Prod.mk.inj hout
       clear hout
       go_wp2_with fail
       have hfin := row_setRow_same (w := wr) (g := w.heap.size) (c := (Value.int .i64 0 :: (zeros 54 (Value.int .u8 0) ++ Value.bool false :: zeros 4 (Value.int .u8 0))).toArray) (by rw [rR]; simp) (by rw [rR])
       (try simp only [Exit.inBlock, Exit.then])
       refine bodyPost_ret (results_2 rfl (resOk_row rfl ?_) resOk_tmp) rfl ?_
       ·
        first | (rw [hfin]; simp; done) | (rw [row_alloc_past _ _ (by rw [setRow_size]; omega), hfin]; simp)
       ·
        first | exact ⟨by rw [hfin]; rfl, Below.setRow hbel (Nat.le_refl _) _⟩ | exact ⟨by rw [row_alloc_past _ _ (by rw [setRow_size]; omega), hfin]; rfl, Below.alloc (Below.setRow hbel (Nat.le_refl _) _) (by rw [setRow_size]; omega) _⟩
     have e1 : ((l[40].toNat : Int) != 135) = true := by simp only [bne_iff_ne, ne_eq]; intro hh; exact a (UInt8.toNat_inj.1 (by show l[40].toNat = 135; omega))
     have e2 : ((l[40].toNat : Int) != 136) = true := by simp only [bne_iff_ne, ne_eq]; intro hh; exact a2 (UInt8.toNat_inj.1 (by show l[40].toNat = 136; omega))
     rw [ndRest_no l 32 (by rw [getD_elem _ _ _ (by omega)]; exact a) (by rw [getD_elem _ _ _ (by omega)]; exact a2)] at hout
     clear a a2
     obtain ⟨rfl, rfl⟩ := Prod.mk.inj hout
     clear hout
     go_wp2_with fail
     have hfin := row_setRow_same (w := wr) (g := w.heap.size) (c := (Value.int .i64 0 :: (zeros 54 (Value.int .u8 0) ++ Value.bool false :: zeros 4 (Value.int .u8 0))).toArray) (by rw [rR]; simp) (by rw [rR])
     (try simp only [Exit.inBlock, Exit.then])
     refine bodyPost_ret (results_2 rfl (resOk_row rfl ?_) resOk_tmp) rfl ?_
     ·
      first | (rw [hfin]; simp; done) | (rw [row_alloc_past _ _ (by rw [setRow_size]; omega), hfin]; simp)
     ·
      first | exact ⟨by rw [hfin]; rfl, Below.setRow hbel (Nat.le_refl _) _⟩ | exact ⟨by rw [row_alloc_past _ _ (by rw [setRow_size]; omega), hfin]; rfl, Below.alloc (Below.setRow hbel (Nat.le_refl _) _) (by rw [setRow_size]; omega) _⟩
end Go.Proofs.Ytckckabedgpbiaa
