/- Texts of this proof, merged: SrS, SmA, SmS, SmK, SnT. -/
import Derived.Test.YtakkicppgkmokaaGreatJ34
import Derived.Test.YtakkicppgkmokaaGreatJ37
import Derived.Test.YtakkicppgkmokaaGreatJ14
import Derived.Test.YtakkicppgkmokaaGreatJ6
set_option linter.unusedSimpArgs false
set_option linter.unusedVariables false
set_option maxRecDepth 4000
namespace Go.Proofs.YtakkicppgkmokaaGreat
section
open Go.RowKit
def In32 (l : List Int) : Prop := ∀ i, 0 ≤ l.getD i 0 ∧ l.getD i 0 < 4294967296
theorem in32_all (l : List Int) (h : (l.all fun x => decide (0 ≤ x ∧ x < 4294967296)) = true) : In32 l := by
 intro i
 rcases Nat.lt_or_ge i l.length with hi | hi
 ·
  have := List.all_eq_true.1 h l[i] (List.getElem_mem hi)
  rw [getD_elem _ _ _ hi]
  simpa using this
 ·
  simp [List.getD_eq_getElem?_getD, List.getElem?_eq_none hi]
theorem first32 : In32 shfirstL := in32_all _ (by decide +kernel)
theorem mix32 (h x k : List Int) (hl : h.length = 8) : In32 (mixL h x k) := by
 have hm : (upTo (mixF k x) 64 h).length = 8 := by rw [upTo_len (mixF_length k x), hl]
 obtain ⟨a, b, c, d, e, f, g, q, hv⟩ := eight hm
 obtain ⟨a', b', c', d', e', f', g', q', hv'⟩ := eight hl
 apply in32_all
 rw [mixL, hv, hv']
 simp [upTo, addF]
 omega
theorem blk_length (t : List UInt8) (j : Nat) : (upTo (blkF shconstantsL t) j shfirstL).length = 8 := by rw [upTo_len (blkF_length _ _), shfirstL_length]
theorem blk32 (t : List UInt8) (j : Nat) : In32 (upTo (blkF shconstantsL t) j shfirstL) := by
 cases j with
 | zero => exact first32
 | succ j => rw [upTo, blkF]; exact mix32 _ _ _ (blk_length t j)
theorem set_four (L : List UInt8) (p : Nat) (a b c d : UInt8) : (((L.set (p + 3) d).set (p + 2) c).set (p + 1) b).set p a = (((L.set p a).set (p + 1) b).set (p + 2) c).set (p + 3) d := by
 rw [List.set_comm _ _ (show p + 3 ≠ p + 2 by omega), List.set_comm _ _ (show p + 3 ≠ p + 1 by omega), List.set_comm _ _ (show p + 3 ≠ p by omega), List.set_comm _ _ (show p + 2 ≠ p + 1 by omega), List.set_comm _ _ (show p + 2 ≠ p by omega), List.set_comm _ _ (show p + 1 ≠ p by omega)]
theorem big_four (h : List Int) (i : Nat) (L : List UInt8) (x : Int) (hx : h.getD i 0 = x) : bigF h (4 * i + 3) (bigF h (4 * i + 2) (bigF h (4 * i + 1) (bigF h (4 * i) L))) = (((L.set (4 * i + 3) (byteI x)).set (4 * i + 2) (byteI (x / 256))).set (4 * i + 1) (byteI (x / 256 / 256))).set (4 * i) (byteI (x / 256 / 256 / 256)) := by
 rw [set_four]
 unfold bigF
 have e0 : 4 * i / 4 = i := by omega
 have e1 : (4 * i + 1) / 4 = i := by omega
 have e2 : (4 * i + 2) / 4 = i := by omega
 have e3 : (4 * i + 3) / 4 = i := by omega
 have f0 : 4 * i % 4 = 0 := by omega
 have f1 : (4 * i + 1) % 4 = 1 := by omega
 have f2 : (4 * i + 2) % 4 = 2 := by omega
 have f3 : (4 * i + 3) % 4 = 3 := by omega
 rw [e0, e1, e2, e3, f0, f1, f2, f3, hx]
 have g3 : x / 2 ^ (24 - 8 * 3) = x := by simp
 have g2 : x / 2 ^ (24 - 8 * 2) = x / 256 := rfl
 have g1 : x / 2 ^ (24 - 8 * 1) = x / 256 / 256 := by show x / 65536 = _; omega
 have g0 : x / 2 ^ (24 - 8 * 0) = x / 256 / 256 / 256 := by show x / 16777216 = _; omega
 rw [g0, g1, g2, g3]
attribute [local irreducible] bigF blkF mixL wdL shconstantsL shfirstL fillL upTo
set_option maxRecDepth 20000 in
set_option maxHeartbeats 4000000 in
theorem sum01_any (s : List UInt8) (w : World) (hs : s.length ≤ 100000) :
  Calls Tryz.prog 62 #[.string ⟨s.toArray⟩] w fun e w' => e = .returned (.agg (u8s (shaK s)).toArray) ∧ Below w.heap.size w w' := by
 have HC := Lib.hid (fun w => r01constants_any w)
 have HF := Lib.hid (fun w => r01first_any w)
 have HL := Lib.hid (fun w => fill01_any s w hs)
 have lc := shconstantsL_length
 have lf := shfirstL_length
 have hB := Lib.hid (fun j => blk_length (fillL s) j)
 have hR := Lib.hid (fun j => blk32 (fillL s) j)
 have hS : shaK s = bigL (upTo (blkF shconstantsL (fillL s)) ((fillL s).length / 64) shfirstL) := by unfold shaK blksL; rfl
 have hm := fillL_mod s
 have hlen := fillL_length s
 have hpd := shPad_lt s.length
 obtain ⟨T, hT⟩ : ∃ T, fillL s = T := ⟨_, rfl⟩
 rw [hT] at HL hB hR hS hm hlen
 have hT2 : T.length ≤ 200000 := by omega
 have hTI : (T.length : Int) ≤ 200000 := by omega
 obtain ⟨B, hBB⟩ : ∃ B, T.length / 64 = B := ⟨_, rfl⟩
 rw [hBB] at hS
 have hTB : T.length = 64 * B := by omega
 obtain ⟨K, hK⟩ : ∃ K, shconstantsL = K := ⟨_, rfl⟩
 obtain ⟨F, hFF⟩ : ∃ F, shfirstL = F := ⟨_, rfl⟩
 rw [hK] at HC lc hB hR hS
 rw [hFF] at HF lf hB hR hS
 have HS := Lib.hid hS
 have HTB := Lib.hid hTB
 clear hT hBB hK hFF hS hm hlen hpd hTB
 go_enter Tryz.func62, Tryz.ntmps62
 obtain ⟨W, hW⟩ : ∃ v, w.alloc (.cells (zeros 32 (.int .u8 0)).toArray 22) = v := ⟨_, rfl⟩
 have rR : row W w.heap.size = (zeros 32 (.int .u8 0)).toArray := by rw [← hW]; simp [go_sem]
 have zW : W.heap.size = w.heap.size + 1 := by rw [← hW]; simp
 have bW : Below w.heap.size w W := by
  rw [← hW]
  (repeat (first | exact Below.refl _ _ | refine Below.al ?_ _ | refine Below.drew ?_ | refine Below.sr ?_ _ | refine Below.sc ?_ _))
 go_wp2_with fail
 clear hW
 refine (HC.out _).mono ?_
 rintro e w1 ⟨rfl, b1⟩
 have z1 := b1.size
 obtain ⟨W2, hW2⟩ : ∃ v, w1.alloc (.cells (u32s K).toArray 135) = v := ⟨_, rfl⟩
 have rK : row W2 w1.heap.size = (u32s K).toArray := by rw [← hW2]; simp [go_sem]
 have zW2 : W2.heap.size = w1.heap.size + 1 := by rw [← hW2]; simp
 have bW2 : Below w1.heap.size w1 W2 := by
  rw [← hW2]
  (repeat (first | exact Below.refl _ _ | refine Below.al ?_ _ | refine Below.drew ?_ | refine Below.sr ?_ _ | refine Below.sc ?_ _))
 go_wp2_with fail
 clear hW2
 refine (HF.out _).mono ?_
 rintro e w3 ⟨rfl, b3⟩
 have z3 := b3.size
 obtain ⟨W4, hW4⟩ : ∃ v, w3.alloc (.cells (u32s F).toArray 137) = v := ⟨_, rfl⟩
 have rH : row W4 w3.heap.size = (u32s F).toArray := by rw [← hW4]; simp [go_sem]
 have zW4 : W4.heap.size = w3.heap.size + 1 := by rw [← hW4]; simp
 have bW4 : Below w3.heap.size w3 W4 := by
  rw [← hW4]
  (repeat (first | exact Below.refl _ _ | refine Below.al ?_ _ | refine Below.drew ?_ | refine Below.sr ?_ _ | refine Below.sc ?_ _))
 go_wp2_with fail
 clear hW4
 refine (HL.out _).mono ?_
 rintro e w5 ⟨rfl, b5⟩
 have z5 := b5.size
 have rH5 := (row_below b5 (by omega)).trans rH
 have rK5 := (row_below b5 (by omega)).trans ((row_below bW4 (by omega)).trans ((row_below b3 (by omega)).trans rK))
 have rR5 := (row_below b5 (by omega)).trans ((row_below bW4 (by omega)).trans ((row_below b3 (by omega)).trans ((row_below bW2 (by omega)).trans ((row_below b1 (by omega)).trans rR))))
 have bb5 : Below w.heap.size w w5 := bW.trans ((b1.mono (by omega)).trans ((bW2.mono (by omega)).trans ((b3.mono (by omega)).trans ((bW4.mono (by omega)).trans (b5.mono (by omega))))))
 obtain ⟨gH, hgH⟩ : ∃ g, w3.heap.size = g := ⟨_, rfl⟩
 obtain ⟨gK, hgK⟩ : ∃ g, w1.heap.size = g := ⟨_, rfl⟩
 rw [hgH] at rH5 ⊢
 rw [hgK] at rK5 ⊢
 have nKH : gK ≠ gH := by omega
 have nRH : w.heap.size ≠ gH := by omega
 have zgH : gH < w5.heap.size := by omega
 have zgK : gK < w5.heap.size := by omega
 have zgR : w.heap.size < gK := by omega
 have zgR2 : w.heap.size < gH := by omega
 clear b1 bW2 b3 bW4 b5 rH rK rR bW hgH hgK zW2 zW4 z3 z5 z1 zW
 go_wp2_with fail
 go_loopw [6] (fun i wr => ∃ j : Nat, j ≤ B ∧ i = .int .i64 ((64 * j : Nat) : Int) ∧ row wr gH = (u32s (upTo (blkF K T) j F)).toArray ∧ row wr gK = (u32s K).toArray ∧ row wr w.heap.size = (zeros 32 (.int .u8 0)).toArray ∧ w5.heap.size ≤ wr.heap.size ∧ Below w.heap.size w wr) (fun i _ => T.length - (intOf i).toNat)
 case atStart => exact ⟨0, by omega, rfl, by rw [show upTo (blkF K T) 0 F = F by unfold upTo; rfl]; exact rH5, rK5, rR5, Nat.le_refl _, bb5⟩
 case round =>
  clear rH5 rK5 rR5 bb5
  obtain ⟨j, hj, rfl, rH, rK, rR, hz, hbel⟩ := hrel
  have hlj := hB.out j
  have hrj := hR.out j
  obtain ⟨H, hH⟩ : ∃ H, upTo (blkF K T) j F = H := ⟨_, rfl⟩
  rw [hH] at rH hlj hrj
  have HH := Lib.hid hH
  clear hH
  by_cases hlt : j < B
  ·
   obtain ⟨p, hp⟩ : ∃ p, 64 * j = p := ⟨_, rfl⟩
   have hpT : p + 64 ≤ T.length := by have := HTB.out; omega
   have hpI : (p : Int) < (T.length : Int) := by omega
   have hpI2 : (p : Int) + 64 ≤ (T.length : Int) := by omega
   have hnx : upTo (blkF K T) (j + 1) F = mixL H (wdL ((T.drop p).take 64)) K := by rw [upTo, HH.out, ← hp, blkF]
   obtain ⟨c, hc⟩ : ∃ c, (T.drop p).take 64 = c := ⟨_, rfl⟩
   have hcl : c.length = 64 := by rw [← hc, List.length_take, List.length_drop]; omega
   obtain ⟨E, hE⟩ : ∃ E, p + 64 = E := ⟨_, rfl⟩
   have hcs : List.take (E - p) (List.drop p T) = c := by rw [show E - p = 64 by omega]; exact hc
   have hEI : (p : Int) + 64 = (E : Int) := by omega
   have hEw : IntKind.i64.wrap (E : Int) = (E : Int) := wrapN _ _ rfl (by omega)
   have hE1 : (p : Int) ≤ (E : Int) := by omega
   have hE2 : (E : Int) ≤ (T.length : Int) := by omega
   have hE0 : (0 : Int) ≤ (E : Int) := by omega
   have hE3 : p ≤ E := by omega
   have hE4 : E ≤ T.length := by omega
   rw [hc] at hnx
   have HBk := Lib.hid (fun w => block01_any H K c w hlj hcl lc hrj)
   have hml : (mixL H (wdL c) K).length = 8 := by rw [mixL_length]; exact hlj
   obtain ⟨M, hM⟩ : ∃ M, mixL H (wdL c) K = M := ⟨_, rfl⟩
   rw [hM] at HBk hnx hml
   have HNX := Lib.hid hnx
   have HP := Lib.hid hp
   have HRJ := Lib.hid hrj
   have hcI : (c.length : Int) = 64 := by omega
   rw [hp]
   have g64 : (64 : Int) ≤ (T.length : Int) - (p : Int) := by omega
   have HE := Lib.hid hE
   clear hnx hM hp hrj hE
   go_wp2_with fail
   have zgH2 : gH < wr.heap.size := by omega
   have zgK2 : gK < wr.heap.size := by omega
   refine wp_region_beginK 8 [(gH, (u32s H).toArray), (gK, (u32s K).toArray)] [(gK, (u32s K).toArray)] rfl (by simp only [Rws]; (repeat (first | exact trivial | refine ⟨(by first | assumption | (simp [go_sem, *]; done)), (by first | omega | (simp; done) | (simp; omega)), ?_⟩))) (fun hS => ?_)
   refine kp 0 hS ?_
   refine kp 1 hS ?_
   refine kp 2 hS ?_
   refine kp 3 hS ?_
   refine kp 4 hS ?_
   refine kp 5 hS ?_
   refine kp 6 hS ?_
   refine wpAnyK_take (i := 7) (v := ?_) (by simp only [List.getElem?_toArray, List.getElem?_cons_succ, List.getElem?_cons_zero]; rfl) (by kernel_rfl) (by kernel_rfl) (by kernel_rfl) (by kernel_rfl) (by first | exact fun _ _ _ h => h | exact fun _ _ _ h => by cases h.1) (Rws.grow _) (Or.inl ⟨by rfl, ?_⟩) hS ?_
   rotate_left
   ·
    intro w' hS'
    simp only [Rws] at hS'
    go_simp
    with_reducible refine (HBk.out _).mono ?_
    rintro e w'' ⟨rfl, hb⟩
    refine ⟨_, rfl, ?_, hb⟩
    rfl
   (try simp only [Act.put, List.setIfInBounds_toArray, List.set_cons_zero, List.set_cons_succ])
   refine wpAnyK_store (k := 8) (by simp only [List.getElem?_toArray, List.getElem?_cons_succ, List.getElem?_cons_zero]; rfl) rfl rfl (by kernel_rfl) (fun u1 hu1 => ?_)
   have cc : Below wr.heap.size wr u1 := Below.trans (Below.drew (Below.refl _ _)) hu1
   have ru1 : row u1 gH = (u32s H).toArray := (row_below cc (by omega)).trans rH
   have rk1 : row u1 gK = (u32s K).toArray := (row_below cc (by omega)).trans rK
   have z1 : wr.heap.size ≤ u1.heap.size := cc.size
   have hrg : row (u1.setRow gH (u32s M).toArray) gK = (u32s K).toArray := by rw [row_setRow_other _ _ _ nKH]; exact rk1
   refine ⟨u1.setRow gH (u32s M).toArray, by go_simp, ⟨hrg, by rw [setRow_size]; omega, trivial⟩, fun hS => ?_⟩
   refine wpAnyR_done (by kernel_rfl) (fun wN hN => ?_) _
   have zN := hN.size
   rw [setRow_size] at zN
   have bN : Below w.heap.size w wN := Below.trans (Below.setRow (hbel.trans (cc.mono (by omega))) (by omega) _) (hN.mono (by rw [setRow_size]; omega))
   have rHN : row wN gH = (u32s M).toArray := by
    rw [row_below hN (by rw [setRow_size]; omega)]
    exact row_setRow_same (by rw [ru1]; simp; omega) (by rw [ru1]; simp [hlj, hml])
   have rKN : row wN gK = (u32s K).toArray := by rw [row_below hN (by rw [setRow_size]; omega)]; exact hrg
   have rRN : row wN w.heap.size = (zeros 32 (.int .u8 0)).toArray := by
    rw [row_below hN (by rw [setRow_size]; omega), row_setRow_other _ _ _ nRH, row_below cc (by omega)]
    exact rR
   clear hN hu1 ru1 rk1 hrg hS cc
   go_wp2_with fail
   go_roundw
   case rel => exact ⟨j + 1, by omega, by have := HP.out; have := HE.out; congr 1; omega, by rw [HNX.out]; exact rHN, rKN, rRN, by omega, bN⟩
   case measure => simp [intOf]; omega
  ·
   obtain rfl : j = B := by omega
   have hTe : ((64 * j : Nat) : Int) = (T.length : Int) := by have := HTB.out; omega
   rw [hTe]
   have hbig : shaK s = bigL H := by rw [HS.out, HH.out]
   have HBG := Lib.hid hbig
   have HRJ := Lib.hid hrj
   clear hTe hbig hrj
   obtain ⟨W6, hW6⟩ : ∃ v, wr.alloc (.cells (zeros 32 (.int .u8 0)).toArray 22) = v := ⟨_, rfl⟩
   have rO : row W6 wr.heap.size = (zeros 32 (.int .u8 0)).toArray := by rw [← hW6]; simp [go_sem]
   have zW6 : W6.heap.size = wr.heap.size + 1 := by rw [← hW6]; simp
   have bW6 : Below wr.heap.size wr W6 := by
    rw [← hW6]
    (repeat (first | exact Below.refl _ _ | refine Below.al ?_ _ | refine Below.drew ?_ | refine Below.sr ?_ _ | refine Below.sc ?_ _))
   have rH6 := (row_below bW6 (by omega)).trans rH
   have rR6 := (row_below bW6 (by omega)).trans rR
   have bb6 := hbel.trans (bW6.mono (by omega))
   go_wp2_with fail
   clear hW6 bW6 rH rK rR hbel
   obtain ⟨gO, hgO⟩ : ∃ g, wr.heap.size = g := ⟨_, rfl⟩
   rw [hgO] at rO zW6 ⊢
   have nOH : gO ≠ gH := by omega
   have nOR : gO ≠ w.heap.size := by omega
   have zOR : w.heap.size < gO := by omega
   have zOH : gH < gO := by omega
   clear hgO hz
   go_loopw [8] (fun i wq => ∃ n : Nat, n ≤ 8 ∧ i = .int .i64 n ∧ row wq gO = (u8s (upTo (bigF H) (4 * n) (List.replicate 32 0))).toArray ∧ row wq gH = (u32s H).toArray ∧ row wq w.heap.size = (zeros 32 (.int .u8 0)).toArray ∧ gO < wq.heap.size ∧ Below w.heap.size w wq) (fun i _ => 8 - (intOf i).toNat)
   case atStart => exact ⟨0, by omega, rfl, by rw [show upTo (bigF H) (4 * 0) (List.replicate 32 0) = List.replicate 32 0 by unfold upTo; rfl, u8s_zeros]; exact rO, rH6, rR6, by omega, bb6⟩
   case round =>
    clear rO rH6 rR6 bb6 zW6
    obtain ⟨n, hn, rfl, rO, rH, rR, hz, hbel⟩ := hrel
    by_cases hlt2 : n < 8
    ·
     have h1 : (n : Int) < 8 := by omega
     have l1 : n < H.length := by omega
     obtain ⟨L, hL⟩ : ∃ L, upTo (bigF H) (4 * n) (List.replicate 32 0) = L := ⟨_, rfl⟩
     have hLl : L.length = 32 := by rw [← hL, upTo_len8 (bigF_length H)]; simp
     obtain ⟨x, hx⟩ : ∃ x, H[n] = x := ⟨_, rfl⟩
     have hxg : H.getD n 0 = x := by rw [getD_elem _ _ _ l1]; exact hx
     obtain ⟨x0, x1⟩ := HRJ.out n
     rw [hxg] at x0 x1
     have hnx : upTo (bigF H) (4 * (n + 1)) (List.replicate 32 0) = (((L.set (4 * n + 3) (byteI x)).set (4 * n + 2) (byteI (x / 256))).set (4 * n + 1) (byteI (x / 256 / 256))).set (4 * n) (byteI (x / 256 / 256 / 256)) := by
      rw [show 4 * (n + 1) = 4 * n + 1 + 1 + 1 + 1 by omega]
      simp only [upTo]
      rw [hL]
      exact big_four H n L x hxg
     rw [hL] at rO
     obtain ⟨p, hp⟩ : ∃ p, 4 * n = p := ⟨_, rfl⟩
     rw [hp] at hnx
     have hpI : (4 : Int) * (n : Int) = (p : Int) := by omega
     have hp28 : p ≤ 28 := by omega
     have hpI2 : (p : Int) ≤ 28 := by omega
     have rOwr := rO
     have rHwr := rH
     have rRwr := rR
     have zwr := hz
     have bwr := hbel
     have lL := hLl
     obtain ⟨b3, hb3⟩ : ∃ bb, byteI x = bb := ⟨_, rfl⟩
     have fb3 : x % 256 = (b3.toNat : Int) := by rw [← hb3, byteI_toNat]
     have gb3 : x.tmod 256 = (b3.toNat : Int) := by rw [Int.tmod_eq_emod_of_nonneg x0]; exact fb3
     have wb3 : IntKind.u8.wrap (b3.toNat : Int) = (b3.toNat : Int) := by have := b3.toNat_lt; rw [IntKind.wrap_u8]; omega
     obtain ⟨y, hy⟩ : ∃ yy, x / 256 = yy := ⟨_, rfl⟩
     have ty : x.tdiv 256 = y := by rw [Int.tdiv_eq_ediv_of_nonneg x0]; exact hy
     have y0 : 0 ≤ y := by omega
     have y1 : y < 4294967296 := by omega
     obtain ⟨b2, hb2⟩ : ∃ bb, byteI y = bb := ⟨_, rfl⟩
     have fb2 : y % 256 = (b2.toNat : Int) := by rw [← hb2, byteI_toNat]
     have gb2 : y.tmod 256 = (b2.toNat : Int) := by rw [Int.tmod_eq_emod_of_nonneg y0]; exact fb2
     have wb2 : IntKind.u8.wrap (b2.toNat : Int) = (b2.toNat : Int) := by have := b2.toNat_lt; rw [IntKind.wrap_u8]; omega
     obtain ⟨u, hu⟩ : ∃ yy, y / 256 = yy := ⟨_, rfl⟩
     have tu : y.tdiv 256 = u := by rw [Int.tdiv_eq_ediv_of_nonneg y0]; exact hu
     have u0 : 0 ≤ u := by omega
     have u1 : u < 4294967296 := by omega
     obtain ⟨b1, hb1⟩ : ∃ bb, byteI u = bb := ⟨_, rfl⟩
     have fb1 : u % 256 = (b1.toNat : Int) := by rw [← hb1, byteI_toNat]
     have gb1 : u.tmod 256 = (b1.toNat : Int) := by rw [Int.tmod_eq_emod_of_nonneg u0]; exact fb1
     have wb1 : IntKind.u8.wrap (b1.toNat : Int) = (b1.toNat : Int) := by have := b1.toNat_lt; rw [IntKind.wrap_u8]; omega
     obtain ⟨v, hv⟩ : ∃ yy, u / 256 = yy := ⟨_, rfl⟩
     have tv : u.tdiv 256 = v := by rw [Int.tdiv_eq_ediv_of_nonneg u0]; exact hv
     have v0 : 0 ≤ v := by omega
     have v1 : v < 4294967296 := by omega
     obtain ⟨b0, hb0⟩ : ∃ bb, byteI v = bb := ⟨_, rfl⟩
     have fb0 : v % 256 = (b0.toNat : Int) := by rw [← hb0, byteI_toNat]
     have gb0 : v.tmod 256 = (b0.toNat : Int) := by rw [Int.tmod_eq_emod_of_nonneg v0]; exact fb0
     have wb0 : IntKind.u8.wrap (b0.toNat : Int) = (b0.toNat : Int) := by have := b0.toNat_lt; rw [IntKind.wrap_u8]; omega
     obtain ⟨v9, hv9⟩ : ∃ yy, v / 256 = yy := ⟨_, rfl⟩
     have tv9 : v.tdiv 256 = v9 := by rw [Int.tdiv_eq_ediv_of_nonneg v0]; exact hv9
     have v90 : 0 ≤ v9 := by omega
     have v91 : v9 < 4294967296 := by omega
     have i3 : p + 3 < 32 := by omega
     obtain ⟨V3, hV3⟩ : ∃ VV, wr.setCell ⟨gO, p + 3, none⟩ (.int .u8 (b3.toNat : Int)) = VV := ⟨_, rfl⟩
     have eV3 : V3 = wr.setRow gO (u8s (L.set (p + 3) b3)).toArray := by
      rw [← hV3, setCell_row _ (by rw [rOwr]; simp; omega), rOwr]
      congr 1
      simp only [List.setIfInBounds_toArray, u8s_setB]
     obtain ⟨L3, hL3⟩ : ∃ l, L.set (p + 3) b3 = l := ⟨_, rfl⟩
     rw [hL3] at eV3
     have lL3 : L3.length = 32 := by rw [← hL3, List.length_set]; exact lL
     have rOV3 : row V3 gO = (u8s L3).toArray := by rw [eV3]; exact row_setRow_same (by rw [rOwr]; simp; omega) (by rw [rOwr]; simp; omega)
     have rHV3 : row V3 gH = (u32s H).toArray := by rw [eV3, row_setRow_other _ _ _ (by omega)]; exact rHwr
     have rRV3 : row V3 w.heap.size = (zeros 32 (.int .u8 0)).toArray := by rw [eV3, row_setRow_other _ _ _ (by omega)]; exact rRwr
     have zV3 : gO < V3.heap.size := by rw [eV3, setRow_size]; exact zwr
     have bV3 : Below w.heap.size w V3 := by rw [eV3]; exact Below.setRow bwr (by omega) _
     have i2 : p + 2 < 32 := by omega
     obtain ⟨V2, hV2⟩ : ∃ VV, V3.setCell ⟨gO, p + 2, none⟩ (.int .u8 (b2.toNat : Int)) = VV := ⟨_, rfl⟩
     have eV2 : V2 = V3.setRow gO (u8s (L3.set (p + 2) b2)).toArray := by
      rw [← hV2, setCell_row _ (by rw [rOV3]; simp; omega), rOV3]
      congr 1
      simp only [List.setIfInBounds_toArray, u8s_setB]
     obtain ⟨L2, hL2⟩ : ∃ l, L3.set (p + 2) b2 = l := ⟨_, rfl⟩
     rw [hL2] at eV2
     have lL2 : L2.length = 32 := by rw [← hL2, List.length_set]; exact lL3
     have rOV2 : row V2 gO = (u8s L2).toArray := by rw [eV2]; exact row_setRow_same (by rw [rOV3]; simp; omega) (by rw [rOV3]; simp; omega)
     have rHV2 : row V2 gH = (u32s H).toArray := by rw [eV2, row_setRow_other _ _ _ (by omega)]; exact rHV3
     have rRV2 : row V2 w.heap.size = (zeros 32 (.int .u8 0)).toArray := by rw [eV2, row_setRow_other _ _ _ (by omega)]; exact rRV3
     have zV2 : gO < V2.heap.size := by rw [eV2, setRow_size]; exact zV3
     have bV2 : Below w.heap.size w V2 := by rw [eV2]; exact Below.setRow bV3 (by omega) _
     have i1 : p + 1 < 32 := by omega
     obtain ⟨V1, hV1⟩ : ∃ VV, V2.setCell ⟨gO, p + 1, none⟩ (.int .u8 (b1.toNat : Int)) = VV := ⟨_, rfl⟩
     have eV1 : V1 = V2.setRow gO (u8s (L2.set (p + 1) b1)).toArray := by
      rw [← hV1, setCell_row _ (by rw [rOV2]; simp; omega), rOV2]
      congr 1
      simp only [List.setIfInBounds_toArray, u8s_setB]
     obtain ⟨L1, hL1⟩ : ∃ l, L2.set (p + 1) b1 = l := ⟨_, rfl⟩
     rw [hL1] at eV1
     have lL1 : L1.length = 32 := by rw [← hL1, List.length_set]; exact lL2
     have rOV1 : row V1 gO = (u8s L1).toArray := by rw [eV1]; exact row_setRow_same (by rw [rOV2]; simp; omega) (by rw [rOV2]; simp; omega)
     have rHV1 : row V1 gH = (u32s H).toArray := by rw [eV1, row_setRow_other _ _ _ (by omega)]; exact rHV2
     have rRV1 : row V1 w.heap.size = (zeros 32 (.int .u8 0)).toArray := by rw [eV1, row_setRow_other _ _ _ (by omega)]; exact rRV2
     have zV1 : gO < V1.heap.size := by rw [eV1, setRow_size]; exact zV2
     have bV1 : Below w.heap.size w V1 := by rw [eV1]; exact Below.setRow bV2 (by omega) _
     have i0 : p < 32 := by omega
     obtain ⟨V0, hV0⟩ : ∃ VV, V1.setCell ⟨gO, p, none⟩ (.int .u8 (b0.toNat : Int)) = VV := ⟨_, rfl⟩
     have eV0 : V0 = V1.setRow gO (u8s (L1.set (p) b0)).toArray := by
      rw [← hV0, setCell_row _ (by rw [rOV1]; simp; omega), rOV1]
      congr 1
      simp only [List.setIfInBounds_toArray, u8s_setB]
     obtain ⟨L0, hL0⟩ : ∃ l, L1.set (p) b0 = l := ⟨_, rfl⟩
     rw [hL0] at eV0
     have lL0 : L0.length = 32 := by rw [← hL0, List.length_set]; exact lL1
     have rOV0 : row V0 gO = (u8s L0).toArray := by rw [eV0]; exact row_setRow_same (by rw [rOV1]; simp; omega) (by rw [rOV1]; simp; omega)
     have rHV0 : row V0 gH = (u32s H).toArray := by rw [eV0, row_setRow_other _ _ _ (by omega)]; exact rHV1
     have rRV0 : row V0 w.heap.size = (zeros 32 (.int .u8 0)).toArray := by rw [eV0, row_setRow_other _ _ _ (by omega)]; exact rRV1
     have zV0 : gO < V0.heap.size := by rw [eV0, setRow_size]; exact zV1
     have bV0 : Below w.heap.size w V0 := by rw [eV0]; exact Below.setRow bV1 (by omega) _
     rw [hb3, hy, hb2, hu, hb1, hv, hb0, hL3, hL2, hL1, hL0] at hnx
     have HNX := Lib.hid hnx
     clear hnx hL hxg hp hb3 hb2 hb1 hb0 hL3 hL2 hL1 hL0 hv9 tv9 v90 v91 rO rH rR hz hbel eV3 eV2 eV1 eV0
     go_wp2_with fail
     refine wp_loop_rounds 5 ?_
     rw [rounds_succ]
     go_wp2_with fail
     rw [rounds_succ]
     go_wp2_with fail
     rw [rounds_succ]
     go_wp2_with fail
     rw [rounds_succ]
     go_wp2_with fail
     rw [rounds_succ]
     go_wp2_with fail
     exact ⟨⟨n + 1, by omega, by simp, by rw [HNX.out]; exact rOV0, rHV0, rRV0, zV0, bV0⟩, by simp [intOf]; omega⟩
    ·
     obtain rfl : n = 8 := by omega
     rw [show ((8 : Nat) : Int) = 8 from rfl]
     have hfb : upTo (bigF H) (4 * 8) (List.replicate 32 0) = shaK s := by rw [HBG.out]; unfold bigL; rfl
     rw [hfb] at rO
     have hsl := shaK_length s
     obtain ⟨Y, hY⟩ : ∃ Y, shaK s = Y := ⟨_, rfl⟩
     rw [hY] at rO hsl
     have HY := Lib.hid hY
     clear hfb hY
     go_wp2_with fail
     have hfin := row_setRow_same (w := wr) (g := w.heap.size) (c := (u8s Y).toArray) (by rw [rR]; simp) (by rw [rR]; simp [hsl])
     (try simp only [Exit.inBlock, Exit.then])
     refine bodyPost_ret (results_1 rfl (resOk_row rfl ?_)) rfl ?_
     ·
      rw [hfin]
      simp [hsl]
     ·
      exact ⟨by rw [hfin, HY.out], Below.setRow hbel (by omega) _⟩
end
section
open Go.RowKit
def withL (s : List UInt8) (b : UInt8) : List UInt8 := s.map (· ^^^ b)
theorem xF_take (s : List UInt8) (b : UInt8) (n : Nat) (hn : n ≤ s.length) : upTo (xF b) n s = withL (s.take n) b ++ s.drop n := by
 induction n with
 | zero => simp [upTo, withL]
 | succ n ih =>
  have h : n < s.length := by omega
  rw [upTo, ih (by omega), xF]
  have hl : (withL (s.take n) b).length = n := by simp [withL]; omega
  have hd : s.drop n = s[n] :: s.drop (n + 1) := by rw [List.drop_eq_getElem_cons h]
  rw [hd, List.set_append_right _ _ (by omega), hl, Nat.sub_self, List.set_cons_zero]
  have hg : (withL (s.take n) b ++ s[n] :: s.drop (n + 1)).getD n 0 = s[n] := by
   rw [List.getD_eq_getElem?_getD, List.getElem?_append_right (by omega), hl, Nat.sub_self]
   simp [h]
  rw [hg]
  have ht : s.take (n + 1) = s.take n ++ [s[n]] := by rw [List.take_add_one, List.getElem?_eq_getElem h]; rfl
  rw [ht]
  unfold withL
  rw [List.map_append, List.append_assoc]
  rfl
theorem moneL_with (s : List UInt8) (b : UInt8) : moneL s b = withL s b := by
 unfold moneL
 rw [xF_take s b s.length (Nat.le_refl _), List.take_of_length_le (Nat.le_refl _), List.drop_of_length_le (Nat.le_refl _), List.append_nil]
theorem withL_snoc (s : List UInt8) (b : UInt8) (n : Nat) (h : n < s.length) : withL (s.take (n + 1)) b = withL (s.take n) b ++ [s[n] ^^^ b] := by
 have ht : s.take (n + 1) = s.take n ++ [s[n]] := by rw [List.take_add_one, List.getElem?_eq_getElem h]; rfl
 rw [ht]
 unfold withL
 rw [List.map_append]
 rfl
theorem withL_length (s : List UInt8) (b : UInt8) : (withL s b).length = s.length := by simp [withL]
attribute [local irreducible] withL
set_option maxRecDepth 20000 in
set_option maxHeartbeats 1000000 in
theorem with02_any (s : List UInt8) (b : UInt8) (w : World) (hs : s.length ≤ 1000) :
  Calls Tryz.prog 72 #[.string ⟨s.toArray⟩, .int .u8 b.toNat] w fun e w' => e = .returned (.string ⟨(withL s b).toArray⟩) ∧ Below w.heap.size w w' := by
 have hsI : (s.length : Int) ≤ 1000 := by omega
 go_enter Tryz.func72, Tryz.ntmps72
 go_wp2_with fail
 go_loopw [5, 6] (fun v i wr => ∃ n : Nat, n ≤ s.length ∧ i = .int .i64 n ∧ Own wr w.heap.size 5 v (u8s (withL (s.take n) b)) ∧ Below w.heap.size w wr) (fun _ i _ => s.length - (intOf i).toNat)
 case atStart => exact ⟨0, by omega, rfl, by rw [show withL (s.take 0) b = [] by unfold withL; simp]; exact Own.nil, Below.refl _ _⟩
 case round =>
  obtain ⟨n, hn, rfl, hown, hbel⟩ := hrel
  have hsz := hbel.size
  by_cases hlt : n < s.length
  ·
   have h1 : (n : Int) < (s.length : Int) := by omega
   have hsn := withL_snoc s b n hlt
   have hl := withL_length (s.take n) b
   obtain ⟨x, hx⟩ : ∃ x, s[n] ^^^ b = x := ⟨_, rfl⟩
   have hxor := xor_u8 s[n] b
   rw [hx] at hsn hxor
   obtain ⟨L, hL⟩ : ∃ L, withL (s.take n) b = L := ⟨_, rfl⟩
   rw [hL] at hown hsn hl
   have hl2 : L.length ≤ 1000 := by rw [hl, List.length_take]; omega
   have HSN := Lib.hid hsn
   have hn1 : (u8s L).length + 1 ≤ 1000000 := by simp; omega
   clear hsn hx hL hl
   go_wp2_with (at_builtin; refine wpList_append1 rfl rfl inferInstance w.heap.size _ (u8s L) rfl hown (.int .u8 (x.toNat : Int)) rfl rfl hn1 (by omega) ?_)
   intro v' w2 o2 b2
   go_wp2_with fail
   go_roundw
   case rel => exact ⟨n + 1, by omega, rfl, by rw [HSN.out, u8s_append]; exact o2, hbel.trans (b2.mono (by omega))⟩
   case measure => simp [intOf]; omega
  ·
   obtain rfl : n = s.length := by omega
   rw [List.take_of_length_le (Nat.le_refl _)] at hown
   have hcv := convS_own (P := Tryz.prog) (src := 113) (dst := 9) hown
   have HO := Lib.hid hown
   clear hown
   go_wp2_with fail
   go_ret
   exact ⟨rfl, hbel⟩
end
section
open Go.RowKit
set_option maxRecDepth 20000 in
theorem text02_any (k : List UInt8) (w : World) (hk : k.length = 32) :
  Calls Tryz.prog 71 #[.agg (u8s k).toArray] w fun e w' => e = .returned (.string ⟨k.toArray⟩) ∧ Below w.heap.size w w' := by
 go_enter Tryz.func71, Tryz.ntmps71
 go_wp2_with fail
 go_ret
 exact ⟨rfl, (by (repeat (first | exact Below.refl _ _ | refine Below.al ?_ _ | refine Below.drew ?_ | refine Below.sr ?_ _ | refine Below.sc ?_ _)))⟩
theorem fill_at (key : List UInt8) (k : Nat) (h : key.length + k = 64) : key ++ List.replicate k 0 = filledL key := by
 unfold filledL
 rw [show 64 - key.length = k by omega]
attribute [local irreducible] shaK withL filledL
set_option maxRecDepth 20000 in
set_option maxHeartbeats 2000000 in
theorem sum02_any (key s : List UInt8) (w : World) (hk : key.length ≤ 64) (hs : s.length ≤ 10000) :
  Calls Tryz.prog 42 #[.string ⟨key.toArray⟩, .string ⟨s.toArray⟩] w fun e w' => e = .returned (.agg (u8s (macL key s)).toArray) ∧ Below w.heap.size w w' := by
 have hkI : ¬ (64 : Int) < (key.length : Int) := by omega
 have hsI : (s.length : Int) ≤ 10000 := by omega
 have hKl := filledL_length key hk
 obtain ⟨K, hK⟩ : ∃ K, filledL key = K := ⟨_, rfl⟩
 have hml : macL key s = shaK (withL K 92 ++ shaK (withL K 54 ++ s)) := by unfold macL; rw [moneL_with, moneL_with, hK]
 have hfa := Lib.hid (fun k h => (fill_at key k h).trans hK)
 rw [hK] at hKl
 have HA := fun w => with02_any K 92 w (by omega)
 have HB := fun w => with02_any K 54 w (by omega)
 have la := withL_length K 92
 have lb := withL_length K 54
 obtain ⟨A, hA⟩ : ∃ A, withL K 92 = A := ⟨_, rfl⟩
 obtain ⟨B, hB⟩ : ∃ A, withL K 54 = A := ⟨_, rfl⟩
 rw [hA] at HA la hml
 rw [hB] at HB lb hml
 have H1 := fun w => sum01_any (B ++ s) w (by rw [List.length_append]; omega)
 have l1 := shaK_length (B ++ s)
 obtain ⟨x, hx⟩ : ∃ x, shaK (B ++ s) = x := ⟨_, rfl⟩
 rw [hx] at H1 l1 hml
 have H2 := fun w => sum01_any (A ++ x) w (by rw [List.length_append]; omega)
 have l2 := shaK_length (A ++ x)
 obtain ⟨y, hy⟩ : ∃ v, shaK (A ++ x) = v := ⟨_, rfl⟩
 rw [hy] at H2 l2 hml
 have HT := Lib.hid (fun w => text02_any x w l1)
 have KA := Lib.hid HA
 have KB := Lib.hid HB
 have K1 := Lib.hid H1
 have K2 := Lib.hid H2
 have HM := Lib.hid hml
 have g1 : ¬ 9223372036854775807 < B.length + s.length := by omega
 have g2 : ¬ 9223372036854775807 < A.length + x.length := by omega
 rw [show (UInt8.toNat 92 : Int) = 92 from rfl] at KA
 rw [show (UInt8.toNat 54 : Int) = 54 from rfl] at KB
 clear hK hA hB hx hy HA HB H1 H2 hml
 go_enter Tryz.func42, Tryz.ntmps42
 obtain ⟨W, hW⟩ : ∃ v, w.alloc (.cells (zeros 32 (.int .u8 0)).toArray 22) = v := ⟨_, rfl⟩
 have rR : row W w.heap.size = (zeros 32 (.int .u8 0)).toArray := by rw [← hW]; simp [go_sem]
 have zW : W.heap.size = w.heap.size + 1 := by rw [← hW]; simp
 have bW : Below w.heap.size w W := by
  rw [← hW]
  (repeat (first | exact Below.refl _ _ | refine Below.al ?_ _ | refine Below.drew ?_ | refine Below.sr ?_ _ | refine Below.sc ?_ _))
 go_wp2_with fail
 clear hW
 go_loopw [0] (fun t wr => ∃ k : Nat, key.length + k ≤ 64 ∧ t = .string ⟨(key ++ List.replicate k 0).toArray⟩ ∧ wr = W) (fun t _ => 64 - (match t with | .string b => b.data.size | _ => 0))
 case atStart => exact ⟨0, by omega, by simp, rfl⟩
 case round =>
  obtain ⟨k, hk2, rfl, rfl⟩ := hrel
  obtain ⟨T, hTT⟩ : ∃ T, key ++ List.replicate k (0 : UInt8) = T := ⟨_, rfl⟩
  have hTl : T.length = key.length + k := by rw [← hTT]; simp
  rw [hTT]
  have HTT := Lib.hid hTT
  clear hTT
  by_cases hlt : T.length < 64
  ·
   have h1 : (T.length : Int) < 64 := by omega
   have hl4 : ¬ 9223372036854775807 < T.length + 1 := by omega
   have hTl2 := Lib.hid hTl
   clear hTl
   go_wp2_with fail
   go_roundw
   case rel =>
    refine ⟨k + 1, by have := hTl2.out; omega, ?_, by first | rfl | trivial⟩
    rw [← HTT.out, List.replicate_succ']
    simp
   case measure => have := hTl2.out; simp; omega
  ·
   have hTK : T = K := by rw [← HTT.out]; exact hfa.out k (by omega)
   subst hTK
   have h1 : ¬ (T.length : Int) < 64 := by omega
   clear hTl HTT
   go_wp2_with fail
   refine (KA.out _).mono ?_
   rintro e w1 ⟨rfl, b1⟩
   have z1 := b1.size
   go_wp2_with fail
   refine (KB.out _).mono ?_
   rintro e w2 ⟨rfl, b2⟩
   have z2 := b2.size
   go_wp2_with fail
   refine (K1.out _).mono ?_
   rintro e w3 ⟨rfl, b3⟩
   have z3 := b3.size
   go_wp2_with fail
   refine (HT.out _).mono ?_
   rintro e w4 ⟨rfl, b4⟩
   have z4 := b4.size
   go_wp2_with fail
   refine (K2.out _).mono ?_
   rintro e w5 ⟨rfl, b5⟩
   have c1 := b1.trans ((b2.mono z1).trans ((b3.mono (by omega)).trans ((b4.mono (by omega)).trans (b5.mono (by omega)))))
   have rR5 := (row_below c1 (by omega)).trans rR
   have bb5 := bW.trans (c1.mono (by omega))
   clear b1 b2 b3 b4 b5 c1 rR
   go_wp2_with fail
   have hfin := row_setRow_same (w := w5) (g := w.heap.size) (c := (u8s y).toArray) (by rw [rR5]; simp) (by rw [rR5]; simp [l2])
   (try simp only [Exit.inBlock, Exit.then])
   refine bodyPost_ret (results_1 rfl (resOk_row rfl ?_)) rfl ?_
   ·
    rw [hfin]
    simp [l2]
   ·
    exact ⟨by rw [hfin, HM.out], Below.setRow bb5 (by omega) _⟩
end
section
open Go.RowKit
def OwnE (w : World) (B : Nat) (v : Value) (n : Nat) (l : List UInt8) : Prop := w.ownsRow B 22 32 v n (u8s l)
theorem OwnE.but {w w' : World} {B S n : Nat} {v : Value} {l : List UInt8} (h : OwnE w B v n l) (hb : BelowBut w.heap.size S w w') (hS : S < B) : OwnE w' B v n l := by
 obtain ⟨hl, ⟨rfl, h0⟩ | ⟨g, cap, cur, rfl, hg0, hg, hr⟩⟩ := h
 ·
  exact ⟨hl, .inl ⟨rfl, h0⟩⟩
 ·
  refine ⟨hl, .inr ⟨g, cap, cur, rfl, hg0, ?_, hr⟩⟩
  rw [hb.block g ?_ (by omega)]
  ·
   exact hg
  ·
   rcases Nat.lt_or_ge g w.heap.size with h1 | h1
   ·
    exact h1
   ·
    rw [Array.getElem?_eq_none h1] at hg
    cases hg
theorem eInfo : (Tryz.prog.info? 22).map (fun i => (i.zero.map (·.cells.size), i.size, i.bytes)) = some (some 32, 32, 32) := by kernel_rfl
theorem eInfo2 : ∃ i z, Tryz.prog.info? 22 = some i ∧ i.zero = some z ∧ i.size = 32 ∧ i.bytes = 32 ∧ z.cells.size = 32 := by
 have h := eInfo
 cases hi : Tryz.prog.info? 22 with
 | none => rw [hi] at h; simp at h
 | some i =>
  rw [hi] at h
  simp at h
  obtain ⟨⟨z, h1, h2⟩, h3, h4⟩ := h
  exact ⟨i, z, rfl, h1, h3, h4, h2⟩
theorem wpList_appendE {w : World} {ops : Array Oper} {rest : List Oper} {o : Oper} {a : Act} {Q : Exit → Act → World → Prop} (hgd : o.guard = none) {s x : Operand}
  (ho : o.op = .call { callee := .builtin .append, args := #[s, x], argTypes := #[86, 86] })
  (base : Nat) (v : Value) (n : Nat) (l : List UInt8) (hs : a.eval s = v) (hown : OwnE w base v n l)
  (u : List UInt8) (hx : a.eval x = .slice (some ⟨w.heap.size, 0, none⟩) 1 1) (hu : u.length = 32) (hn : n ≤ 10000) (hbase : base ≤ w.heap.size)
  (h : ∀ v' w', OwnE w' base v' (n + 1) (l ++ u) → Below base w w' → (∀ X, X < w.heap.size → v.ownBlock ≠ some X → row w' X = row w X) → wpList Tryz.prog ops Q rest (a.put o.dst v') w') :
  wpList Tryz.prog ops Q (o :: rest) a (w.alloc (.cells (u8s u).toArray 22)) := by
 obtain ⟨i0, z, hi, hz, h32, hb32, hzs⟩ := eInfo2
 refine wpList_append_own _ hgd s x _ ho base 22 i0 z 32 32 Tryz.underlying86 hi hz h32 hb32 hzs (by decide) v n (u8s l) hs (World.ownsRow.alloc hown _) ⟨w.heap.size, 0, none⟩ 1 1 (u8s u) hx (by simp [hu]) ?_ (u8s_one u) ?_ ?_ ?_ ?_
 ·
  intro j y hj
  have hlt : j < (u8s u).length := by
   rcases Nat.lt_or_ge j (u8s u).length with h1 | h1
   ·
    exact h1
   ·
    rw [List.getElem?_eq_none h1] at hj; cases hj
  have : (⟨w.heap.size, 0, none⟩ : Addr).add j = ⟨w.heap.size, j, none⟩ := by
   simp [Addr.add]
   try exact fun h => h.symm
  have hr : row (w.alloc (.cells (u8s u).toArray 22)) w.heap.size = (u8s u).toArray := row_alloc_at _ _ _ rfl
  rw [this, cell_of_row' (by rw [hr]; simpa using hlt), hr, List.getElem?_toArray]
  exact hj
 ·
  unfold maxLen; omega
 ·
  omega
 ·
  simp; omega
 ·
  intro v' w' h1 h2 _
  refine h v' w' ?_ (((Below.refl base w).alloc hbase _).grown h2 (by simp; omega) fun k hk => (World.ownsRow.lt hown k hk).1) (fun X hX hne => by rw [row_of_block (h2.block X (by simp; omega) (fun e => hne e.symm)), row_alloc_past _ _ (by omega)])
  unfold OwnE
  rw [u8s_append]
  exact h1
attribute [local irreducible] macL
set_option maxRecDepth 20000 in
set_option maxHeartbeats 4000000 in
theorem keys02_any (root info : List UInt8) (n : Nat) (w : World) (hroot : root.length = 32) (hin : info.length ≤ 1000) (hn : n ≤ 255) :
  Calls Tryz.prog 41 #[.agg (u8s root).toArray, .string ⟨info.toArray⟩, .int .i64 n] w fun e w' => ∃ v, e = .returned v ∧ OwnE w' (w.heap.size + 1) v n (keysF root info n) ∧ Below w.heap.size w w' := by
 have hnI : (n : Int) ≤ 255 := by omega
 have HT := Lib.hid (fun w => text02_any root w hroot)
 go_enter Tryz.func41, Tryz.ntmps41
 go_wp2_with fail
 go_loopw [7, 8, 9] (fun v t i wr => ∃ m : Nat, m ≤ n ∧ t = .string ⟨(keyN root info m).toArray⟩ ∧ i = .int .i64 ((m + 1 : Nat) : Int) ∧ OwnE wr (w.heap.size + 1) v m (keysF root info m) ∧ row wr w.heap.size = (u8s root).toArray ∧ w.heap.size < wr.heap.size ∧ Below w.heap.size w wr) (fun _ _ i _ => n + 1 - (intOf i).toNat)
 case atStart =>
  refine ⟨0, by omega, rfl, rfl, World.ownsRow_nil _ _ _ _, ?_, by simp, (by (repeat (first | exact Below.refl _ _ | refine Below.al ?_ _ | refine Below.drew ?_ | refine Below.sr ?_ _ | refine Below.sc ?_ _)))⟩
  simp [go_sem]
 case round =>
  obtain ⟨m, hm, rfl, rfl, hown, hR, hz, hbel⟩ := hrel
  by_cases hlt : m < n
  ·
   have h1 : ((m + 1 : Nat) : Int) ≤ n := by omega
   have hw1 : IntKind.i64.wrap (((m + 1 : Nat) : Int) + 1) = ((m + 1 + 1 : Nat) : Int) := by rw [IntKind.wrap_i64]; omega
   have hah := keyN_le root info m
   have hkl := keyN_length root info m
   have HKF := Lib.hid (show keysF root info (m + 1) = keysF root info m ++ keyN root info (m + 1) from rfl)
   have hky : keyN root info (m + 1) = macL root (keyN root info m ++ (info ++ [byteI ((m + 1 : Nat) : Int)])) := rfl
   obtain ⟨ahead, ha⟩ : ∃ y, keyN root info m = y := ⟨_, rfl⟩
   rw [ha] at hah hky ⊢
   have hM := Lib.hid (fun w => sum02_any root (ahead ++ (info ++ [byteI ((m + 1 : Nat) : Int)])) w (by omega) (by simp; omega))
   rw [← hky] at hM
   obtain ⟨y, hy⟩ : ∃ y, keyN root info (m + 1) = y := ⟨_, rfl⟩
   have HY := Lib.hid hy
   rw [hy] at hM hkl HKF
   have hT2 := Lib.hid (fun w => text02_any y w hkl)
   obtain ⟨count, hc⟩ : ∃ c, m + 1 = c := ⟨_, rfl⟩
   rw [hc] at h1 hw1 hM ⊢
   have hl1 : (ahead.length : Int) ≤ 32 := by omega
   have hl2 : (info.length : Int) ≤ 1000 := by omega
   have hwc : IntKind.u8.wrap (count : Int) = (count : Int) := by rw [IntKind.wrap_u8]; omega
   have hbyte : UInt8.ofNat count = byteI count := by rw [byteI]; congr 1; omega
   have hl3 : ¬ 9223372036854775807 < ahead.length + info.length := by omega
   have hl4 : ¬ 9223372036854775807 < ahead.length + info.length + 1 := by omega
   have hl5 : ¬ 9223372036854775807 < ahead.length + (info.length + 1) := by omega
   clear hy hky
   go_wp2_with fail
   have zd : wr.drew.heap.size = wr.heap.size := rfl
   refine wp_region_beginR [(w.heap.size, (u8s root).toArray)] rfl (by simp only [Rws]; (repeat (first | exact trivial | refine ⟨(by first | assumption | (simp [go_sem, *]; done)), (by first | omega | (simp; done) | (simp; omega)), ?_⟩))) (fun hS => ?_)
   refine qp 0 hS ?_
   refine qp 2 hS ?_
   refine qp 3 hS ?_
   refine qp 4 hS ?_
   refine qp 5 hS ?_
   refine qp 6 hS ?_
   refine qc 1 (v := ?_) hS ?_ ?_
   rotate_left
   ·
    intro w' hS'
    simp only [Rws] at hS'
    go_simp
    with_reducible refine (HT.out _).mono ?_
    rintro e w'' ⟨rfl, hb⟩
    exact ⟨_, rfl, by rfl, hb⟩
   refine wpAnyR_all (rs := [7, 11]) (by kernel_rfl) (by simp) (Rws.grow _) hS (fun u1 hu1 hSW => ?_)
   intro i hi
   simp only [List.mem_cons, List.not_mem_nil, or_false] at hi
   rcases hi with rfl | rfl
   ·
    refine wpOp_step rfl (fun K hK2 => ?_)
    clear hS
    go_simp
    refine hK2 _ _ ⟨hSW.alloc _, ?_⟩
    clear hK2 K
    (try simp only [Act.put, List.setIfInBounds_toArray, List.set_cons_zero, List.set_cons_succ])
    have zu1 := hu1.size
    obtain ⟨G, hG⟩ : ∃ G, u1.heap.size = G := ⟨_, rfl⟩
    obtain ⟨u2, hu2⟩ : ∃ v, u1.alloc (.cells #[.int .u8 (count : Int)] 5) = v := ⟨_, rfl⟩
    have rG : row u2 G = #[.int .u8 (count : Int)] := by rw [← hu2, ← hG]; exact row_alloc_at _ _ _ rfl
    have zG : u2.heap.size = G + 1 := by rw [← hu2, alloc_sizeW, hG]
    have bG : Below wr.heap.size wr u2 := by rw [← hu2]; exact Below.alloc (Below.trans (Below.drew (Below.refl _ _)) hu1) (by omega) _
    have hSW2 := hSW.alloc (.cells #[.int .u8 (count : Int)] 5)
    rw [hG, hu2]
    rw [hu2] at hSW2
    refine wpAnyR_strengthen (S2 := Rws [(G, #[.int .u8 (count : Int)]), (w.heap.size, (u8s root).toArray)]) (fun w h => h.2.2) _ _ _ _ ?_
    have hS : Rws [(G, #[.int .u8 (count : Int)]), (w.heap.size, (u8s root).toArray)] u2 := ⟨rG, by omega, hSW2⟩
    clear hSW hSW2 hu2
    refine qp 8 hS ?_
    refine qp 9 hS ?_
    refine qc 10 (v := ?_) hS ?_ ?_
    rotate_left
    ·
     intro w' hS'
     simp only [Rws] at hS'
     go_simp
     with_reducible refine (hM.out _).mono ?_
     rintro e w'' ⟨rfl, hb⟩
     exact ⟨_, rfl, by rfl, hb⟩
    refine wpAnyR_single (i := 11) (k := 12) (zi := (zeros 32 (.int .u8 0)).toArray) (cA := (u8s y).toArray) (by simp only [List.getElem?_toArray, List.getElem?_cons_succ, List.getElem?_cons_zero]; rfl) (by simp only [List.getElem?_toArray, List.getElem?_cons_succ, List.getElem?_cons_zero]; rfl) ⟨rfl, rfl, fun a w => by go_simp; (refine ⟨?_, ?_⟩ <;> rfl)⟩ (by kernel_rfl) (by kernel_rfl) (by kernel_rfl) rfl rfl (by simp [hkl]) (by simp) (by simp; omega) (fun A w1 hr => by
     simp only [Act.put, List.setIfInBounds_toArray, List.set_cons_zero, List.set_cons_succ, ptr]
     go_simp
     try rfl) hS (fun X w3 gX zX b3 rX => ?_)
    (try simp only [Act.put, List.setIfInBounds_toArray, List.set_cons_zero, List.set_cons_succ])
    simp only [ptr]
    have z3 := b3.size
    have b13 : Below wr.heap.size wr w3 := Below.trans bG (b3.mono (by omega))
    clear hS b3 bG rG hM hu1
    have own3 := hown.but (BelowBut.of (S := w.heap.size) b13) (by omega)
    have hR3 := (row_below b13 hz).trans hR
    have b03 : Below w.heap.size w w3 := Below.trans hbel (b13.mono (by omega))
    have zz3 := b13.size
    have hlt2 := World.ownsRow.lt hown
    have zX3 : X < w3.heap.size := by first | exact zX | omega
    clear b13 hR hown hbel
    have hfold := fold_full (u8s y) (zeros 32 (.int .u8 0)).toArray (by simp [hkl])
    simp only [zeros, List.replicate] at hfold
    go_wp2_with (at_builtin; refine wpList_appendE rfl rfl (w.heap.size + 1) _ m _ rfl own3 y rfl hkl (by omega) (by omega) ?_)
    intro v' w4 o4 b4 f4
    have z4 := b4.size
    have hX4 := (f4 X zX3 (fun e => by have := (hlt2 X e).2; omega)).trans rX
    have hR4 := (row_below b4 (by omega)).trans hR3
    go_wp2_with fail
    refine (hT2.out _).mono ?_
    rintro e w5 ⟨rfl, b5⟩
    have z5 := b5.size
    go_wp2_with fail
    go_roundw
    case rel =>
     refine ⟨m + 1, by omega, by rw [HY.out], by rw [← hc]; rfl, ?_, ?_, ?_, ?_⟩
     ·
      rw [HKF.out, hc]
      exact OwnE.but o4 (BelowBut.of (S := w.heap.size) b5) (by omega)
     ·
      exact (row_below b5 (by omega)).trans hR4
     ·
      omega
     ·
      exact Below.trans b03 (Below.trans (b4.mono (by omega)) (b5.mono (by omega)))
    case measure => simp [intOf]; omega
   ·
    refine wpOp_step rfl (fun K hK2 => ?_)
    clear hS
    go_simp
    refine hK2 _ _ ⟨hSW.alloc _, ?_⟩
    clear hK2 K
    (try simp only [Act.put, List.setIfInBounds_toArray, List.set_cons_zero, List.set_cons_succ])
    have zu1 := hu1.size
    obtain ⟨X, hX⟩ : ∃ G, u1.heap.size = G := ⟨_, rfl⟩
    obtain ⟨u2, hu2⟩ : ∃ v, u1.alloc (.cells (zeros 32 (.int .u8 0)).toArray 22) = v := ⟨_, rfl⟩
    have rX2 : row u2 X = (zeros 32 (.int .u8 0)).toArray := by rw [← hu2, ← hX]; exact row_alloc_at _ _ _ rfl
    have zX2 : u2.heap.size = X + 1 := by rw [← hu2, alloc_sizeW, hX]
    have bX : Below wr.heap.size wr u2 := by rw [← hu2]; exact Below.alloc (Below.trans (Below.drew (Below.refl _ _)) hu1) (by omega) _
    have hS := hSW.alloc (.cells (zeros 32 (.int .u8 0)).toArray 22)
    rw [hX, hu2]
    rw [hu2] at hS
    clear hSW hu2 hu1
    refine wpAnyR_all (rs := [7]) (by kernel_rfl) (by simp) (Rws.grow _) hS (fun u3 hu3 hSW => ?_)
    intro i hi
    obtain rfl := List.mem_singleton.1 hi
    refine wpOp_step rfl (fun K hK2 => ?_)
    clear hS hi
    go_simp
    refine hK2 _ _ ⟨hSW.alloc _, ?_⟩
    clear hK2 K
    (try simp only [Act.put, List.setIfInBounds_toArray, List.set_cons_zero, List.set_cons_succ])
    have zu3 := hu3.size
    obtain ⟨G, hG⟩ : ∃ G, u3.heap.size = G := ⟨_, rfl⟩
    obtain ⟨u4, hu4⟩ : ∃ v, u3.alloc (.cells #[.int .u8 (count : Int)] 5) = v := ⟨_, rfl⟩
    have rG : row u4 G = #[.int .u8 (count : Int)] := by rw [← hu4, ← hG]; exact row_alloc_at _ _ _ rfl
    have zG : u4.heap.size = G + 1 := by rw [← hu4, alloc_sizeW, hG]
    have bG : Below u2.heap.size u2 u4 := by rw [← hu4]; exact Below.alloc hu3 (by omega) _
    have hSW2 := hSW.alloc (.cells #[.int .u8 (count : Int)] 5)
    rw [hG, hu4]
    rw [hu4] at hSW2
    have rX4 : row u4 X = (zeros 32 (.int .u8 0)).toArray := (row_below bG (by omega)).trans rX2
    refine wpAnyR_strengthen (S2 := Rws [(G, #[.int .u8 (count : Int)]), (w.heap.size, (u8s root).toArray)]) (fun w h => h.2.2) _ _ _ _ ?_
    have hS : Rws [(G, #[.int .u8 (count : Int)]), (w.heap.size, (u8s root).toArray)] u4 := ⟨rG, by omega, hSW2⟩
    clear hSW hSW2 hu4
    refine qp 8 hS ?_
    refine qp 9 hS ?_
    refine qc 10 (v := ?_) hS ?_ ?_
    rotate_left
    ·
     intro w' hS'
     simp only [Rws] at hS'
     go_simp
     with_reducible refine (hM.out _).mono ?_
     rintro e w'' ⟨rfl, hb⟩
     exact ⟨_, rfl, by rfl, hb⟩
    refine wpAnyR_store (i := 12) (b := X) (c := (u8s y).toArray) (by simp only [List.getElem?_toArray, List.getElem?_cons_succ, List.getElem?_cons_zero]; rfl) rfl rfl (by kernel_rfl) (by simp; (try omega)) hS (by rw [rX4]; simp; (try omega)) (fun w1 hr => by rw [rX4] at hr; go_simp; (try rfl)) (fun u5 hu5 ru5 hS => ?_)
    refine wpAnyR_done (by kernel_rfl) (fun w3 h3 => ?_) _
    have zu5 := hu5.size
    have z3 := h3.size
    rw [setRow_size] at z3
    have rX : row w3 X = (u8s y).toArray := by
     rw [row_below h3 (by rw [setRow_size]; omega)]
     exact row_setRow_same (by rw [ru5, rX4]; simp) (by rw [ru5, rX4]; simp [hkl])
    have zX : X < w3.heap.size := by omega
    have b13 : Below wr.heap.size wr w3 := Below.trans (Below.setRow (Below.trans (Below.trans bX (bG.mono (by omega))) (hu5.mono (by omega))) (by omega) _) (h3.mono (by rw [setRow_size]; omega))
    clear hS h3 hu5 ru5 bG bX rG rX4 rX2 hM
    have own3 := hown.but (BelowBut.of (S := w.heap.size) b13) (by omega)
    have hR3 := (row_below b13 hz).trans hR
    have b03 : Below w.heap.size w w3 := Below.trans hbel (b13.mono (by omega))
    have zz3 := b13.size
    have hlt2 := World.ownsRow.lt hown
    have zX3 : X < w3.heap.size := by first | exact zX | omega
    clear b13 hR hown hbel
    have hfold := fold_full (u8s y) (zeros 32 (.int .u8 0)).toArray (by simp [hkl])
    simp only [zeros, List.replicate] at hfold
    go_wp2_with (at_builtin; refine wpList_appendE rfl rfl (w.heap.size + 1) _ m _ rfl own3 y rfl hkl (by omega) (by omega) ?_)
    intro v' w4 o4 b4 f4
    have z4 := b4.size
    have hX4 := (f4 X zX3 (fun e => by have := (hlt2 X e).2; omega)).trans rX
    have hR4 := (row_below b4 (by omega)).trans hR3
    go_wp2_with fail
    refine (hT2.out _).mono ?_
    rintro e w5 ⟨rfl, b5⟩
    have z5 := b5.size
    go_wp2_with fail
    go_roundw
    case rel =>
     refine ⟨m + 1, by omega, by rw [HY.out], by rw [← hc]; rfl, ?_, ?_, ?_, ?_⟩
     ·
      rw [HKF.out, hc]
      exact OwnE.but o4 (BelowBut.of (S := w.heap.size) b5) (by omega)
     ·
      exact (row_below b5 (by omega)).trans hR4
     ·
      omega
     ·
      exact Below.trans b03 (Below.trans (b4.mono (by omega)) (b5.mono (by omega)))
    case measure => simp [intOf]; omega
  ·
   obtain rfl : m = n := by omega
   have h1 : ¬ ((m + 1 : Nat) : Int) ≤ (m : Int) := by omega
   go_wp2_with fail
   go_ret
   exact ⟨_, rfl, hown, hbel⟩
end
section
open Go.RowKit
set_option maxRecDepth 20000 in
theorem text13_any (k : List UInt8) (w : World) (hk : k.length = 32) :
  Calls Tryz.prog 39 #[.agg (u8s k).toArray] w fun e w' => e = .returned (.string ⟨k.toArray⟩) ∧ Below w.heap.size w w' := by
 go_enter Tryz.func39, Tryz.ntmps39
 go_wp2_with fail
 go_ret
 exact ⟨rfl, (by (repeat (first | exact Below.refl _ _ | refine Below.al ?_ _ | refine Below.drew ?_ | refine Below.sr ?_ _ | refine Below.sc ?_ _)))⟩
attribute [local irreducible] shaK
set_option maxRecDepth 20000 in
set_option maxHeartbeats 2000000 in
theorem in13_any (h c k s : List UInt8) (w : World) (hh : h.length = 32) (hc : c.length = 32) (hk : k.length = 32) (hs : s.length ≤ 10000) :
  Calls Tryz.prog 36 #[.agg (u8s h ++ (u8s c ++ u8s k)).toArray, .string ⟨s.toArray⟩] w fun e w' => e = .returned (.agg (u8s (shaK (h ++ s)) ++ (u8s c ++ u8s k)).toArray) ∧ Below w.heap.size w w' := by
 have HT := Lib.hid (fun w => text13_any h w hh)
 have HS := Lib.hid (fun w => sum01_any (h ++ s) w (by rw [List.length_append]; omega))
 have hl := shaK_length (h ++ s)
 obtain ⟨y, hy⟩ : ∃ y, shaK (h ++ s) = y := ⟨_, rfl⟩
 rw [hy] at HS hl ⊢
 clear hy
 have hsI : (s.length : Int) ≤ 10000 := by omega
 have hl1 : ¬ 9223372036854775807 < h.length + s.length := by omega
 go_enter Tryz.func36, Tryz.ntmps36
 obtain ⟨W, hW⟩ : ∃ v, (w.alloc (.cells (u8s h ++ (u8s c ++ u8s k)).toArray 34)).alloc (.cells (zeros 96 (.int .u8 0)).toArray 34) = v := ⟨_, rfl⟩
 have rT : row W w.heap.size = (u8s h ++ (u8s c ++ u8s k)).toArray := by rw [← hW]; simp [go_sem]
 have rR : row W (w.heap.size + 1) = (zeros 96 (.int .u8 0)).toArray := by rw [← hW]; simp [go_sem]
 have zW : W.heap.size = w.heap.size + 1 + 1 := by rw [← hW]; simp
 have bW : Below w.heap.size w W := by
  rw [← hW]
  (repeat (first | exact Below.refl _ _ | refine Below.al ?_ _ | refine Below.drew ?_ | refine Below.sr ?_ _ | refine Below.sc ?_ _))
 go_wp2_with fail
 clear hW
 refine (HT.out _).mono ?_
 rintro e w1 ⟨rfl, b1⟩
 go_wp2_with fail
 refine (HS.out _).mono ?_
 rintro e w2 ⟨rfl, b2⟩
 have z1 := b1.size
 have z2 := b2.size
 have rT2 := (row_below b2 (by omega)).trans ((row_below b1 (by omega)).trans rT)
 have rR2 := (row_below b2 (by omega)).trans ((row_below b1 (by omega)).trans rR)
 have bb : Below w.heap.size w w2 := Below.trans bW (Below.trans (b1.mono (by omega)) (b2.mono (by omega)))
 clear rT rR bW b1 b2
 have hsp : (u8s h ++ (u8s c ++ u8s k)).length = 96 := by simp; omega
 have rR3 : row (w2.setRow w.heap.size (u8s y ++ (u8s c ++ u8s k)).toArray) (w.heap.size + 1) = (zeros 96 (.int .u8 0)).toArray := by rw [row_setRow_other _ _ _ (by omega)]; exact rR2
 go_wp2_with fail
 have hfin := row_setRow_same (w := w2.setRow w.heap.size (u8s y ++ (u8s c ++ u8s k)).toArray) (g := w.heap.size + 1) (c := (u8s y ++ (u8s c ++ u8s k)).toArray) (by rw [rR3]; simp) (by rw [rR3]; simp [hl, hc, hk])
 (try simp only [Exit.inBlock, Exit.then])
 refine bodyPost_ret (results_1 rfl (resOk_row rfl ?_)) rfl ?_
 ·
  rw [hfin]
  simp [hl, hc, hk]
 exact ⟨by rw [hfin], Below.setRow (Below.setRow bb (by omega) _) (by omega) _⟩
end
end Go.Proofs.YtakkicppgkmokaaGreat
