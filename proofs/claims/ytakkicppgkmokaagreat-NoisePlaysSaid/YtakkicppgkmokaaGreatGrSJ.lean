/- Contracts of the reference of chapter 6: a shared key. -/
import Derived.Test.YtakkicppgkmokaaGreatJ30
import Derived.Test.YtakkicppgkmokaaGreatJ40
import Derived.Test.YtakkicppgkmokaaGreatFourJ
set_option linter.unusedSimpArgs false
set_option linter.unusedVariables false
namespace Go.Proofs.YtakkicppgkmokaaGreat
open Go.RowKit
theorem clamp0 (b : UInt8) : (b &&& 248).toNat = b.toNat / 8 * 8 := by
 refine all_u8 (p := fun b => (b &&& 248).toNat = b.toNat / 8 * 8) (by decide +kernel) b
theorem clamp31 (b : UInt8) : ((b &&& 127) ||| 64).toNat = b.toNat % 64 + 64 := by
 refine all_u8 (p := fun b => ((b &&& 127) ||| 64).toNat = b.toNat % 64 + 64) (by decide +kernel) b
theorem pB_32 : pB < 256 ^ 32 := by decide +kernel
theorem cst_digB : digB 121665 = 65 :: 219 :: 1 :: List.replicate 29 0 := by decide +kernel
theorem cst_cells : (Value.int .i64 65 :: (Value.int .i64 219 :: (Value.int .i64 1 :: (zeros 32 (Value.int .i64 0)).tail.tail.tail))) = n64s (digB 121665) := by
 rw [cst_digB]
 rfl
theorem gD8 (l : List UInt8) (i : Nat) (h : i < l.length) : l.getD i 0 = l[i] := by simp [List.getD_eq_getElem?_getD, h]
set_option maxRecDepth 20000 in
set_option maxHeartbeats 8000000 in
theorem sharedG_any (n u : List UInt8) (w : World) (hn : n.length = 32) (hu : u.length = 32) :
  Calls Tryz.prog 40 #[.agg (u8s n).toArray, .agg (u8s u).toArray] w fun e w' => e = .returned (.agg (u8s (sharedK n u)).toArray) ∧ Below w.heap.size w w' := by
 rw [shared_ref n u hu]
 have HP := Lib.hid (fun w => placeG_any u w hu)
 obtain ⟨v, hv⟩ : ∃ v, nK u % pB = v := ⟨_, rfl⟩
 have hvl : v < pB := by rw [← hv]; exact Nat.mod_lt _ pB_pos
 have hv32 : v < 256 ^ 32 := by rw [← hv]; exact pB_lt _
 simp only [hv] at HP ⊢
 have hcl : (clampL n).length = 32 := by rw [clampL_length, hn]
 obtain ⟨W0, hw0⟩ : ∃ W, ((w.alloc (.cells (u8s n).toArray 22)).alloc (.cells (u8s u).toArray 22)).alloc (.cells (zeros 32 (Value.int .u8 0)).toArray 22) = W := ⟨_, rfl⟩
 have rn0 : row W0 w.heap.size = (u8s n).toArray := by rw [← hw0]; simp [go_sem]
 have ru0 : row W0 (w.heap.size + 1) = (u8s u).toArray := by rw [← hw0]; simp [go_sem]
 have rR0 : row W0 (w.heap.size + 1 + 1) = (zeros 32 (Value.int .u8 0)).toArray := by rw [← hw0]; simp [go_sem]
 have z0 : W0.heap.size = w.heap.size + 1 + 1 + 1 := by rw [← hw0]; simp
 have b0 : Below w.heap.size w W0 := by
  rw [← hw0]
  (repeat (first | exact Below.refl _ _ | refine Below.al ?_ _ | refine Below.drew ?_ | refine Below.sr ?_ _ | refine Below.sc ?_ _))
 have hn0 : 0 < n.length := by omega
 have hn31 : 31 < n.length := by omega
 obtain ⟨c, hc⟩ : ∃ c, clampL n = c := ⟨_, rfl⟩
 rw [hc] at hcl ⊢
 obtain ⟨y0, hy0⟩ : ∃ y : UInt8, n[0] &&& 248 = y := ⟨_, rfl⟩
 obtain ⟨y31, hy31⟩ : ∃ y : UInt8, (n[31] &&& 127) ||| 64 = y := ⟨_, rfl⟩
 have e0 := clamp0 n[0]
 have e31 := clamp31 n[31]
 rw [hy0] at e0
 rw [hy31] at e31
 have hcs : (n.set 0 y0).set 31 y31 = c := by rw [← hc, clampL, ← hy0, ← hy31, gD8 _ _ hn0, gD8 _ _ hn31]
 obtain ⟨a0, ha0⟩ : ∃ x, n[0].toNat = x := ⟨_, rfl⟩
 obtain ⟨a31, ha31⟩ : ∃ x, n[31].toNat = x := ⟨_, rfl⟩
 have va0 : a0 < 256 := by rw [← ha0]; exact n[0].toNat_lt
 have va31 : a31 < 256 := by rw [← ha31]; exact n[31].toNat_lt
 rw [ha0] at e0
 rw [ha31] at e31
 obtain ⟨q0, hq0⟩ : ∃ q, a0 / 8 = q := ⟨_, rfl⟩
 obtain ⟨q31, hq31⟩ : ∃ q, a31 % 64 = q := ⟨_, rfl⟩
 have f0 : (a0 : Int) / 8 = (q0 : Int) := by omega
 have f0t : (a0 : Int).tdiv 8 = (q0 : Int) := by rw [Int.tdiv_eq_ediv_of_nonneg (by omega)]; exact f0
 have f31 : (a31 : Int) % 64 = (q31 : Int) := by omega
 have f31t : (a31 : Int).tmod 64 = (q31 : Int) := by rw [Int.tmod_eq_emod_of_nonneg (by omega)]; exact f31
 have g0 : (q0 : Int) * 8 = (y0.toNat : Int) := by omega
 have g31 : (q31 : Int) + 64 = (y31.toNat : Int) := by omega
 have g31n : q31 + 64 = y31.toNat := by omega
 have w0 : IntKind.u8.wrap ((q0 : Int) * 8) = (y0.toNat : Int) := by rw [g0, IntKind.wrap_u8]; have := y0.toNat_lt; omega
 have w31 : IntKind.u8.wrap ((q31 : Int) + 64) = (y31.toNat : Int) := by rw [g31, IntKind.wrap_u8]; have := y31.toNat_lt; omega
 have hset0 := u8s_setB n 0 y0
 have hset31 : (u8s (n.set 0 y0)).set 31 (.int .u8 (y31.toNat : Int)) = u8s c := by rw [u8s_setB, hcs]
 have hi31 : (n.set 0 y0)[31]'(by simpa using hn31) = n[31] := by rw [List.getElem_set_ne (by omega)]
 clear hy0 hy31 hq0 hq31 e0 e31 g0 g31 g31n hc hv
 go_enter Tryz.func40, Tryz.ntmps40
 obtain ⟨d1, hd1⟩ : ∃ x, digB 1 = x := ⟨_, rfl⟩
 obtain ⟨dv, hdv⟩ : ∃ x, digB v = x := ⟨_, rfl⟩
 have l1 : d1.length = 32 := by rw [← hd1]; exact digB_length 1
 have lv : dv.length = 32 := by rw [← hdv]; exact digB_length v
 have hone : (Value.int .i64 1 :: (zeros 32 (Value.int .i64 0)).tail) = n64s d1 := by rw [← hd1]; exact one_cellsG
 simp only [hdv] at HP
 have HD1 := Lib.hid hd1
 have HDV := Lib.hid hdv
 clear hd1 hdv
 go_wp2_with fail
 obtain ⟨w1, hw1⟩ : ∃ W, W0.alloc (.cells (u8s c).toArray 22) = W := ⟨_, rfl⟩
 have rN1 : row w1 (w.heap.size + 1 + 1 + 1) = (u8s c).toArray := by rw [← hw1, ← z0]; exact row_alloc_at _ _ _ rfl
 have rR1 : row w1 (w.heap.size + 1 + 1) = (zeros 32 (Value.int .u8 0)).toArray := by rw [← hw1, row_alloc_past _ _ (by omega)]; exact rR0
 have z1 : w1.heap.size = w.heap.size + 1 + 1 + 1 + 1 := by rw [← hw1, alloc_sizeW, z0]
 have b1 : Below w.heap.size w w1 := by rw [← hw1]; exact Below.alloc b0 (by omega) _
 rw [hw1]
 clear hw1 hw0 rn0 ru0 rR0 b0 z0
 (with_reducible refine (HP.out _).mono ?_)
 rintro e w2 ⟨rfl, b2⟩
 have rN2 := (row_below b2 (by omega)).trans rN1
 have rR2 := (row_below b2 (by omega)).trans rR1
 have z2 := b2.size
 have B2 := b1.trans (b2.mono (by omega))
 clear b1 b2 rN1 rR1
 go_wp2_with fail
 obtain ⟨U, hU⟩ : ∃ U, w2.heap.size = U := ⟨_, rfl⟩
 obtain ⟨w3, hw3⟩ : ∃ W, (w2.alloc (.cells (n64s dv).toArray 120)).alloc (.cells (n64s d1).toArray 120) = W := ⟨_, rfl⟩
 have z3 : w3.heap.size = U + 1 + 1 := by rw [← hw3, alloc_sizeW, alloc_sizeW, hU]
 have rU3 : row w3 U = (n64s dv).toArray := by rw [← hw3, row_alloc_past _ _ (by rw [alloc_sizeW]; omega), ← hU, row_alloc_at _ _ _ rfl]
 have rO3 : row w3 (U + 1) = (n64s d1).toArray := by rw [← hw3, ← hU]; exact row_alloc_at _ _ _ (by simp)
 have rN3 : row w3 (w.heap.size + 1 + 1 + 1) = (u8s c).toArray := by rw [← hw3, row_alloc_past _ _ (by rw [alloc_sizeW]; omega), row_alloc_past _ _ (by omega)]; exact rN2
 have rR3 : row w3 (w.heap.size + 1 + 1) = (zeros 32 (Value.int .u8 0)).toArray := by rw [← hw3, row_alloc_past _ _ (by rw [alloc_sizeW]; omega), row_alloc_past _ _ (by omega)]; exact rR2
 have B3 : Below w.heap.size w w3 := by rw [← hw3]; exact Below.alloc (Below.alloc B2 (by omega) _) (by rw [alloc_sizeW]; omega) _
 have zU : w.heap.size + 1 + 1 + 1 < U := by omega
 rw [hw3, hU]
 clear hw3 hU z1 z2 B2 rN2 rR2
 refine wp_region_beginR [(U, (n64s dv).toArray), (U + 1, (n64s d1).toArray)] rfl (by simp only [Rws]; (repeat (first | exact trivial | refine ⟨(by first | assumption | (simp [go_sem, *]; done)), (by first | omega | (simp; done) | (simp; omega)), ?_⟩))) (fun hS => ?_)
 refine qp 0 hS ?_
 refine qp 1 hS ?_
 refine qp 2 hS ?_
 refine qp 3 hS ?_
 refine wpAnyR_four (i1 := 4) (i2 := 5) (i3 := 6) (i4 := 7) (z := (zeros 32 (Value.int .i64 0)).toArray) (by simp only [List.getElem?_toArray, List.getElem?_cons_succ, List.getElem?_cons_zero]; rfl) (by simp only [List.getElem?_toArray, List.getElem?_cons_succ, List.getElem?_cons_zero]; rfl) (by simp only [List.getElem?_toArray, List.getElem?_cons_succ, List.getElem?_cons_zero]; rfl) (by simp only [List.getElem?_toArray, List.getElem?_cons_succ, List.getElem?_cons_zero]; rfl) ⟨rfl, rfl, fun a w => by go_simp; first | rfl | (refine ⟨?_, ?_⟩ <;> rfl)⟩ ⟨rfl, rfl, fun a w => by go_simp; first | rfl | (refine ⟨?_, ?_⟩ <;> rfl)⟩ ⟨rfl, rfl, fun a w => by go_simp; first | rfl | (refine ⟨?_, ?_⟩ <;> rfl)⟩ ⟨rfl, rfl, fun a w => by go_simp; first | rfl | (refine ⟨?_, ?_⟩ <;> rfl)⟩ (by decide) (by decide) (by decide) (by decide) (by decide) (by decide) (by decide) (by decide) (by decide) (by decide) (by decide) (by decide) (by kernel_rfl) (by kernel_rfl) (by kernel_rfl) (by kernel_rfl) (by kernel_rfl) (by kernel_rfl) (by kernel_rfl) (by kernel_rfl) (by kernel_rfl) (by kernel_rfl) (by kernel_rfl) (by kernel_rfl) (by kernel_rfl) (by kernel_rfl) (by kernel_rfl) hS (fun A B C D w4 gA gB gC gD nAB nAC nAD nBC nBD nCD yA yB yC yD b4 hS4 qA qB qC qD => ?_)
 (try simp only [Act.put, List.setIfInBounds_toArray, List.set_cons_zero, List.set_cons_succ])
 simp only [ptr]
 have z4 := b4.size
 replace z4 : w3.heap.size ≤ w4.heap.size := z4
 replace gA : w3.heap.size ≤ A := gA
 replace gB : w3.heap.size ≤ B := gB
 replace gC : w3.heap.size ≤ C := gC
 replace gD : w3.heap.size ≤ D := gD
 have B4 : Below w.heap.size w w4 := B3.trans ((below_step (Below.drew (Below.refl _ _)) b4).mono (by omega))
 refine wpAnyR_fill4 (k1 := 8) (k2 := 9) (k3 := 10) (k4 := 11) (m := w.heap.size) (cA := (n64s d1).toArray) (cB := (zeros 32 (Value.int .i64 0)).toArray) (cC := (n64s dv).toArray) (cD := (n64s d1).toArray) (by simp only [List.getElem?_toArray, List.getElem?_cons_succ, List.getElem?_cons_zero]; rfl) (by simp only [List.getElem?_toArray, List.getElem?_cons_succ, List.getElem?_cons_zero]; rfl) (by simp only [List.getElem?_toArray, List.getElem?_cons_succ, List.getElem?_cons_zero]; rfl) (by simp only [List.getElem?_toArray, List.getElem?_cons_succ, List.getElem?_cons_zero]; rfl) (by kernel_rfl) (by kernel_rfl) (by kernel_rfl) (by kernel_rfl) (by kernel_rfl) rfl rfl rfl rfl rfl rfl rfl rfl nAB nAC nAD nBC nBD nCD (by omega) (by omega) (by omega) (by omega) (by omega) qA qB qC qD (by simp) (by simp) (by simp) (by simp) (by simp [l1]) (by simp) (by simp [lv]) (by simp [l1]) (by simp; omega) hS4 (fun w1 hr => by go_simp; (try rfl)) (fun w1 hr => by go_simp; (try rfl)) (fun w1 hr => by go_simp; (try rfl)) (fun w1 hr => by go_simp; (try rfl)) (fun w5 b5 tA tB tC tD keep => ?_)
 have e0 : zeros 32 (Value.int .i64 0) = n64s (digB 0) := by
  have h0 : digB 0 = List.replicate 32 0 := by decide +kernel
  rw [h0]
  simp [n64s, zeros]
 rw [e0] at tB
 clear e0
 have z5 := b5.size
 have rU5 := (keep U (by omega) (by omega) (by omega) (by omega) (by omega)).trans ((row_below (below_step (Below.drew (Below.refl _ _)) b4) (by omega)).trans rU3)
 have rN5 := (keep (w.heap.size + 1 + 1 + 1) (by omega) (by omega) (by omega) (by omega) (by omega)).trans ((row_below (below_step (Below.drew (Below.refl _ _)) b4) (by omega)).trans rN3)
 have rR5 := (keep (w.heap.size + 1 + 1) (by omega) (by omega) (by omega) (by omega) (by omega)).trans ((row_below (below_step (Below.drew (Below.refl _ _)) b4) (by omega)).trans rR3)
 have B5 := B4.trans b5
 clear keep qA qB qC qD b4 b5 hS4 B4 B3 rU3 rO3 rN3 rR3 hone
 go_wp2_with fail
 obtain ⟨s0, hs0⟩ : ∃ s : LadB, (⟨1, 0, v, 1⟩ : LadB) = s := ⟨_, rfl⟩
 have hlad : ladB c v = upTo (ladBF c v) 255 s0 := by rw [ladB, hs0]
 have hlt0 : ∀ k, (upTo (ladBF c v) k s0).lt := fun k => by rw [← hs0]; exact (ladBU_M c v hvl k).1
 have tA0 : row w5 A = (n64s (digB s0.x)).toArray := by rw [← hs0, tA, HD1.out]
 have tB0 : row w5 B = (n64s (digB s0.z)).toArray := by rw [← hs0, tB]
 have tC0 : row w5 C = (n64s (digB s0.w)).toArray := by rw [← hs0, tC, HDV.out]
 have tD0 : row w5 D = (n64s (digB s0.t)).toArray := by rw [← hs0, tD, HD1.out]
 have HLAD := Lib.hid hlad
 have HLT := Lib.hid hlt0
 clear hs0 hlad hlt0 tA tB tC tD
 go_loopw [12] (fun i wr => ∃ (k : Nat) (s : LadB), k ≤ 255 ∧ i = .int .i64 (254 - (k : Int)) ∧ s = upTo (ladBF c v) k s0 ∧ row wr A = (n64s (digB s.x)).toArray ∧ row wr B = (n64s (digB s.z)).toArray ∧ row wr C = (n64s (digB s.w)).toArray ∧ row wr D = (n64s (digB s.t)).toArray ∧ row wr U = (n64s dv).toArray ∧ row wr (w.heap.size + 1 + 1 + 1) = (u8s c).toArray ∧ row wr (w.heap.size + 1 + 1) = (zeros 32 (Value.int .u8 0)).toArray ∧ w5.heap.size ≤ wr.heap.size ∧ Below w.heap.size w wr) (fun i _ => (intOf i + 1).toNat)
 case atStart => exact ⟨0, s0, by omega, by simp, by rw [upTo], tA0, tB0, tC0, tD0, rU5, rN5, rR5, Nat.le_refl _, B5⟩
 case round =>
  clear tA0 tB0 tC0 tD0 rU5 rN5 rR5 B5
  obtain ⟨k, s, hk, rfl, hs, rA, rB, rC, rD, rU, rN, rR, zz, bb⟩ := hrel
  have hslt : s.lt := by rw [hs]; exact HLT.out k
  have zA5 : A < w5.heap.size := by omega
  have zB5 : B < w5.heap.size := by omega
  have zC5 : C < w5.heap.size := by omega
  have zD5 : D < w5.heap.size := by omega
  have zU5 : U < w5.heap.size := by omega
  by_cases hlt : k < 255
  ·
   obtain ⟨b, hb⟩ : ∃ b : Nat, (254 : Int) - (k : Int) = (b : Int) := ⟨254 - k, by omega⟩
   rw [hb]
   have hbk : 254 - k = b := by omega
   have hbI : (0 : Int) ≤ (b : Int) := by omega
   obtain ⟨q, hq⟩ : ∃ q, b / 8 = q := ⟨_, rfl⟩
   obtain ⟨r, hr⟩ : ∃ r, b % 8 = r := ⟨_, rfl⟩
   have m1 : (b : Int) / 8 = (q : Int) := by omega
   have m2 : (b : Int).tdiv 8 = (q : Int) := by rw [Int.tdiv_eq_ediv_of_nonneg (by omega)]; exact m1
   have m3 : (b : Int) % 8 = (r : Int) := by omega
   have m4 : (b : Int).tmod 8 = (r : Int) := by rw [Int.tmod_eq_emod_of_nonneg (by omega)]; exact m3
   have hqc : q < c.length := by omega
   have hqI : (q : Int) < 32 := by omega
   have hq32 : q < 32 := by omega
   have hr8 : r < 8 := by omega
   obtain ⟨e0, he0⟩ : ∃ x, c[q].toNat = x := ⟨_, rfl⟩
   have ve0 : e0 < 256 := by rw [← he0]; exact c[q].toNat_lt
   have hbit : bitN c (254 - k) = (e0 / 2 ^ r % 2 == 1) := by rw [bitN, hbk, hq, hr, gD8 _ _ hqc, he0]
   have HBIT := Lib.hid hbit
   have HB := Lib.hid hb
   have HS := Lib.hid hs
   have HCL := Lib.hid hcl
   have zN : w.heap.size + 1 + 1 + 1 < wr.heap.size := by omega
   clear hbit hb hq hr hbk hs hcl
   go_wp2_with fail
   go_loopw [13, 14] (fun yv jv wq => ∃ j m : Nat, j ≤ r ∧ jv = .int .i64 j ∧ yv = .int .i64 m ∧ e0 / 2 ^ j = m ∧ wr = wq) (fun _ jv _ => r - (intOf jv).toNat)
   case atStart => exact ⟨0, e0, by omega, rfl, rfl, by simp, rfl⟩
   case round =>
    obtain ⟨j, m, hj, rfl, rfl, hm, rfl⟩ := hrel
    have vm : m < 256 := by rw [← hm]; exact Nat.lt_of_le_of_lt (Nat.div_le_self _ _) ve0
    by_cases hjr : j < r
    ·
     have jI : (j : Int) < r := by omega
     obtain ⟨m', hm'⟩ : ∃ x, m / 2 = x := ⟨_, rfl⟩
     have f1 : (m : Int) / 2 = (m' : Int) := by omega
     have f2 : (m : Int).tdiv 2 = (m' : Int) := by rw [Int.tdiv_eq_ediv_of_nonneg (by omega)]; exact f1
     have hn2 : e0 / 2 ^ (j + 1) = m' := by rw [Nat.pow_succ, ← Nat.div_div_eq_div_mul, hm, hm']
     have HN2 := Lib.hid hn2
     clear hn2 hm hm'
     go_wp2_with fail
     go_roundw
     case rel => exact ⟨j + 1, m', by omega, rfl, rfl, HN2.out, trivial⟩
     case measure => simp [intOf]; omega
    ·
     obtain rfl : j = r := by omega
     have jI : ¬ (j : Int) < j := by omega
     rw [hm] at HBIT
     by_cases h1 : m % 2 = 1
     ·
      have b1 : (m : Int) % 2 = 1 := by omega
      have b2 : (m : Int).tmod 2 = 1 := by rw [Int.tmod_eq_emod_of_nonneg (by omega)]; exact b1
      clear hm
      obtain ⟨s1, hs1e⟩ : ∃ x, s.swap = x := ⟨_, rfl⟩
      have hs1 : s1.lt := by rw [← hs1e]; exact swap_lt hslt
      have hst : (s1.step v).swap = upTo (ladBF c v) (k + 1) s0 := by
       rw [upTo, ← HS.out, ladBF, if_pos, hs1e]
       rw [HBIT.out]
       simp
       omega
      have HST := Lib.hid hst
      have ew : s.x = s1.w := by rw [← hs1e]; rfl
      have et : s.z = s1.t := by rw [← hs1e]; rfl
      have ex : s.w = s1.x := by rw [← hs1e]; rfl
      have ez : s.t = s1.z := by rw [← hs1e]; rfl
      rw [ew] at rA
      rw [et] at rB
      rw [ex] at rC
      rw [ez] at rD
      clear hs1e hst h1 hslt ew et ex ez
      go_wp2_with fail
      have lW := digB_length s1.w
      obtain ⟨EW, hEW⟩ : ∃ x, digB s1.w = x := ⟨_, rfl⟩
      rw [hEW] at rA lW
      have HEW := Lib.hid hEW
      clear hEW
      have lT := digB_length s1.t
      obtain ⟨ET, hET⟩ : ∃ x, digB s1.t = x := ⟨_, rfl⟩
      rw [hET] at rB lT
      have HET := Lib.hid hET
      clear hET
      have lX := digB_length s1.x
      obtain ⟨EX, hEX⟩ : ∃ x, digB s1.x = x := ⟨_, rfl⟩
      rw [hEX] at rC lX
      have HEX := Lib.hid hEX
      clear hEX
      have lZ := digB_length s1.z
      obtain ⟨EZ, hEZ⟩ : ∃ x, digB s1.z = x := ⟨_, rfl⟩
      rw [hEZ] at rD lZ
      have HEZ := Lib.hid hEZ
      clear hEZ
      refine wp_region_beginK 4 [(C, (n64s EX).toArray), (D, (n64s EZ).toArray), (A, (n64s EW).toArray), (B, (n64s ET).toArray)] [] rfl (by simp only [Rws]; (repeat (first | exact trivial | refine ⟨(by first | assumption | (simp [go_sem, *]; done)), (by first | omega | (simp; done) | (simp; omega)), ?_⟩))) (fun hS => ?_)
      refine kp 0 hS ?_
      refine kp 2 hS ?_
      refine kp 3 hS ?_
      refine wpAnyK_swap (i := 1) (k := 4) (v := .agg (n64s EZ).toArray) (A := A) (D := D) (m := w.heap.size) (cA := (n64s EX).toArray) (by simp only [List.getElem?_toArray, List.getElem?_cons_succ, List.getElem?_cons_zero]; rfl) (by simp only [List.getElem?_toArray, List.getElem?_cons_succ, List.getElem?_cons_zero]; rfl) (by decide) rfl rfl rfl rfl (by kernel_rfl) (by kernel_rfl) (by kernel_rfl) (by omega) (by omega) (by simp; omega) rA rD (by simp; omega) (by simp; omega) (by simp [lW, lT, lX, lZ]) hS (fun w1 hr => by go_simp; (try rfl)) (fun w1 hr => by go_simp; (try rfl)) (fun w1 hr => by go_simp; (try rfl)) (fun x2 e2 qA keep1 g2 => ?_)
      have gx : wr.heap.size ≤ x2.heap.size := g2
      have kB : row x2 B = (n64s ET).toArray := (keep1 B (by simp; omega) (by omega)).trans rB
      have kC : row x2 C = (n64s EX).toArray := (keep1 C (by simp; omega) (by omega)).trans rC
      have kD : row x2 D = (n64s EZ).toArray := (keep1 D (by simp; omega) (by omega)).trans rD
      refine wpAnyR_fill3 (k1 := 5) (k2 := 6) (k3 := 7) (m := w.heap.size) (A := B) (B := C) (C := D) (cA := (n64s EZ).toArray) (cB := (n64s EW).toArray) (cC := (n64s ET).toArray) (by simp only [List.getElem?_toArray, List.getElem?_cons_succ, List.getElem?_cons_zero]; rfl) (by simp only [List.getElem?_toArray, List.getElem?_cons_succ, List.getElem?_cons_zero]; rfl) (by simp only [List.getElem?_toArray, List.getElem?_cons_succ, List.getElem?_cons_zero]; rfl) (by kernel_rfl) (by kernel_rfl) (by kernel_rfl) (by kernel_rfl) rfl rfl rfl rfl rfl rfl (by omega) (by omega) (by omega) (by omega) (by omega) (by omega) (by omega) kB kC kD (by simp; omega) (by simp; omega) (by simp; omega) (by simp [lW, lT, lX, lZ]) (by simp [lW, lT, lX, lZ]) (by simp [lW, lT, lX, lZ]) (by simp) trivial (fun w1 hr => by go_simp; (try rfl)) (fun w1 hr => by go_simp; (try rfl)) (fun w1 hr => by go_simp; (try rfl)) (fun wa e3 qB qC qD keep2 => ?_)
      have g3 := e3.size
      replace rU : row wa U = (n64s dv).toArray := (keep2 U (by omega) (by omega) (by omega) (by omega)).trans ((keep1 U (by simp; omega) (by omega)).trans rU)
      replace rN : row wa (w.heap.size + 1 + 1 + 1) = (u8s c).toArray := (keep2 _ (by omega) (by omega) (by omega) (by omega)).trans ((keep1 _ (by simp; omega) (by omega)).trans rN)
      replace rR : row wa (w.heap.size + 1 + 1) = (zeros 32 (Value.int .u8 0)).toArray := (keep2 _ (by omega) (by omega) (by omega) (by omega)).trans ((keep1 _ (by simp; omega) (by omega)).trans rR)
      replace rA : row wa A = (n64s EX).toArray := (keep2 A (by omega) (by omega) (by omega) (by omega)).trans qA
      have rB := qB
      have rC := qC
      have rD := qD
      replace bb : Below w.heap.size w wa := Below.trans (Below.drew bb) (e2.trans e3)
      replace zz : w5.heap.size ≤ wa.heap.size := by omega
      clear keep1 keep2 qA qB qC qD kB kC kD e2 e3 hS
      rw [← HEX.out] at rA
      rw [← HEZ.out] at rB
      rw [← HEW.out] at rC
      rw [← HET.out] at rD
      clear lW lT lX lZ HEW HET HEX HEZ
      have pE : lE s1 < pB := Nat.mod_lt _ pB_pos
      have pF : lF s1 < pB := Nat.mod_lt _ pB_pos
      have pG : lG s1 < pB := Nat.mod_lt _ pB_pos
      have pH : lH s1 < pB := Nat.mod_lt _ pB_pos
      have pDD : lD s1 < pB := Nat.mod_lt _ pB_pos
      have pP1 : subB s1.w s1.t < pB := Nat.mod_lt _ pB_pos
      have pJ : lJ s1 < pB := Nat.mod_lt _ pB_pos
      have pP2 : (s1.w + s1.t) % pB < pB := Nat.mod_lt _ pB_pos
      have pK : lK s1 < pB := Nat.mod_lt _ pB_pos
      have pJK : (lJ s1 + lK s1) % pB < pB := Nat.mod_lt _ pB_pos
      have pWW : (s1.step v).w < pB := Nat.mod_lt _ pB_pos
      have pS : subB (lJ s1) (lK s1) < pB := Nat.mod_lt _ pB_pos
      have pSS : subB (lJ s1) (lK s1) * subB (lJ s1) (lK s1) % pB < pB := Nat.mod_lt _ pB_pos
      have pTT : (s1.step v).t < pB := Nat.mod_lt _ pB_pos
      have pXX : (s1.step v).x < pB := Nat.mod_lt _ pB_pos
      have pCD : 121665 * lD s1 % pB < pB := Nat.mod_lt _ pB_pos
      have pFC : (lF s1 + 121665 * lD s1 % pB) % pB < pB := Nat.mod_lt _ pB_pos
      have pZZ : (s1.step v).z < pB := Nat.mod_lt _ pB_pos
      obtain ⟨pX, pZ, pW, pT⟩ := hs1
      have pV := hvl
      have pCC : 121665 < pB := by decide +kernel
      have qX : s1.x < 256 ^ 32 := Nat.lt_trans pX pB_32
      have qZ : s1.z < 256 ^ 32 := Nat.lt_trans pZ pB_32
      have qW : s1.w < 256 ^ 32 := Nat.lt_trans pW pB_32
      have qT : s1.t < 256 ^ 32 := Nat.lt_trans pT pB_32
      have qV : v < 256 ^ 32 := Nat.lt_trans pV pB_32
      have qE : lE s1 < 256 ^ 32 := Nat.lt_trans pE pB_32
      have qF : lF s1 < 256 ^ 32 := Nat.lt_trans pF pB_32
      have qG : lG s1 < 256 ^ 32 := Nat.lt_trans pG pB_32
      have qH : lH s1 < 256 ^ 32 := Nat.lt_trans pH pB_32
      have qDD : lD s1 < 256 ^ 32 := Nat.lt_trans pDD pB_32
      have qP1 : subB s1.w s1.t < 256 ^ 32 := Nat.lt_trans pP1 pB_32
      have qJ : lJ s1 < 256 ^ 32 := Nat.lt_trans pJ pB_32
      have qP2 : (s1.w + s1.t) % pB < 256 ^ 32 := Nat.lt_trans pP2 pB_32
      have qK : lK s1 < 256 ^ 32 := Nat.lt_trans pK pB_32
      have qJK : (lJ s1 + lK s1) % pB < 256 ^ 32 := Nat.lt_trans pJK pB_32
      have qWW : (s1.step v).w < 256 ^ 32 := Nat.lt_trans pWW pB_32
      have qS : subB (lJ s1) (lK s1) < 256 ^ 32 := Nat.lt_trans pS pB_32
      have qSS : subB (lJ s1) (lK s1) * subB (lJ s1) (lK s1) % pB < 256 ^ 32 := Nat.lt_trans pSS pB_32
      have qTT : (s1.step v).t < 256 ^ 32 := Nat.lt_trans pTT pB_32
      have qXX : (s1.step v).x < 256 ^ 32 := Nat.lt_trans pXX pB_32
      have qCC : 121665 < 256 ^ 32 := Nat.lt_trans pCC pB_32
      have qCD : 121665 * lD s1 % pB < 256 ^ 32 := Nat.lt_trans pCD pB_32
      have qFC : (lF s1 + 121665 * lD s1 % pB) % pB < 256 ^ 32 := Nat.lt_trans pFC pB_32
      have qZZ : (s1.step v).z < 256 ^ 32 := Nat.lt_trans pZZ pB_32
      have cE : ∀ W', Calls Tryz.prog 66 #[.agg (n64s (digB (s1.x))).toArray, .agg (n64s (digB (s1.z))).toArray] W' fun e w' => e = .returned (.agg (n64s (digB (lE s1))).toArray) ∧ Below W'.heap.size W' w' := fun W' => plusG_any (s1.x) (s1.z) _ qX qZ
      have cF : ∀ W', Calls Tryz.prog 67 #[.agg (n64s (digB (lE s1))).toArray, .agg (n64s (digB (lE s1))).toArray] W' fun e w' => e = .returned (.agg (n64s (digB (lF s1))).toArray) ∧ Below W'.heap.size W' w' := fun W' => timesG_any (lE s1) (lE s1) _ qE qE
      have cG : ∀ W', Calls Tryz.prog 68 #[.agg (n64s (digB (s1.x))).toArray, .agg (n64s (digB (s1.z))).toArray] W' fun e w' => e = .returned (.agg (n64s (digB (lG s1))).toArray) ∧ Below W'.heap.size W' w' := fun W' => lessG_any (s1.x) (s1.z) _ qX qZ pZ pX
      have cH : ∀ W', Calls Tryz.prog 67 #[.agg (n64s (digB (lG s1))).toArray, .agg (n64s (digB (lG s1))).toArray] W' fun e w' => e = .returned (.agg (n64s (digB (lH s1))).toArray) ∧ Below W'.heap.size W' w' := fun W' => timesG_any (lG s1) (lG s1) _ qG qG
      have cDD : ∀ W', Calls Tryz.prog 68 #[.agg (n64s (digB (lF s1))).toArray, .agg (n64s (digB (lH s1))).toArray] W' fun e w' => e = .returned (.agg (n64s (digB (lD s1))).toArray) ∧ Below W'.heap.size W' w' := fun W' => lessG_any (lF s1) (lH s1) _ qF qH pH pF
      have cP1 : ∀ W', Calls Tryz.prog 68 #[.agg (n64s (digB (s1.w))).toArray, .agg (n64s (digB (s1.t))).toArray] W' fun e w' => e = .returned (.agg (n64s (digB (subB s1.w s1.t))).toArray) ∧ Below W'.heap.size W' w' := fun W' => lessG_any (s1.w) (s1.t) _ qW qT pT pW
      have cJ : ∀ W', Calls Tryz.prog 67 #[.agg (n64s (digB (subB s1.w s1.t))).toArray, .agg (n64s (digB (lE s1))).toArray] W' fun e w' => e = .returned (.agg (n64s (digB (lJ s1))).toArray) ∧ Below W'.heap.size W' w' := fun W' => timesG_any (subB s1.w s1.t) (lE s1) _ qP1 qE
      have cP2 : ∀ W', Calls Tryz.prog 66 #[.agg (n64s (digB (s1.w))).toArray, .agg (n64s (digB (s1.t))).toArray] W' fun e w' => e = .returned (.agg (n64s (digB ((s1.w + s1.t) % pB))).toArray) ∧ Below W'.heap.size W' w' := fun W' => plusG_any (s1.w) (s1.t) _ qW qT
      have cK : ∀ W', Calls Tryz.prog 67 #[.agg (n64s (digB ((s1.w + s1.t) % pB))).toArray, .agg (n64s (digB (lG s1))).toArray] W' fun e w' => e = .returned (.agg (n64s (digB (lK s1))).toArray) ∧ Below W'.heap.size W' w' := fun W' => timesG_any ((s1.w + s1.t) % pB) (lG s1) _ qP2 qG
      have cJK : ∀ W', Calls Tryz.prog 66 #[.agg (n64s (digB (lJ s1))).toArray, .agg (n64s (digB (lK s1))).toArray] W' fun e w' => e = .returned (.agg (n64s (digB ((lJ s1 + lK s1) % pB))).toArray) ∧ Below W'.heap.size W' w' := fun W' => plusG_any (lJ s1) (lK s1) _ qJ qK
      have cWW : ∀ W', Calls Tryz.prog 67 #[.agg (n64s (digB ((lJ s1 + lK s1) % pB))).toArray, .agg (n64s (digB ((lJ s1 + lK s1) % pB))).toArray] W' fun e w' => e = .returned (.agg (n64s (digB ((s1.step v).w))).toArray) ∧ Below W'.heap.size W' w' := fun W' => timesG_any ((lJ s1 + lK s1) % pB) ((lJ s1 + lK s1) % pB) _ qJK qJK
      have cS : ∀ W', Calls Tryz.prog 68 #[.agg (n64s (digB (lJ s1))).toArray, .agg (n64s (digB (lK s1))).toArray] W' fun e w' => e = .returned (.agg (n64s (digB (subB (lJ s1) (lK s1)))).toArray) ∧ Below W'.heap.size W' w' := fun W' => lessG_any (lJ s1) (lK s1) _ qJ qK pK pJ
      have cSS : ∀ W', Calls Tryz.prog 67 #[.agg (n64s (digB (subB (lJ s1) (lK s1)))).toArray, .agg (n64s (digB (subB (lJ s1) (lK s1)))).toArray] W' fun e w' => e = .returned (.agg (n64s (digB (subB (lJ s1) (lK s1) * subB (lJ s1) (lK s1) % pB))).toArray) ∧ Below W'.heap.size W' w' := fun W' => timesG_any (subB (lJ s1) (lK s1)) (subB (lJ s1) (lK s1)) _ qS qS
      have cTT : ∀ W', Calls Tryz.prog 67 #[.agg (n64s (digB (v))).toArray, .agg (n64s (digB (subB (lJ s1) (lK s1) * subB (lJ s1) (lK s1) % pB))).toArray] W' fun e w' => e = .returned (.agg (n64s (digB ((s1.step v).t))).toArray) ∧ Below W'.heap.size W' w' := fun W' => timesG_any (v) (subB (lJ s1) (lK s1) * subB (lJ s1) (lK s1) % pB) _ qV qSS
      have cXX : ∀ W', Calls Tryz.prog 67 #[.agg (n64s (digB (lF s1))).toArray, .agg (n64s (digB (lH s1))).toArray] W' fun e w' => e = .returned (.agg (n64s (digB ((s1.step v).x))).toArray) ∧ Below W'.heap.size W' w' := fun W' => timesG_any (lF s1) (lH s1) _ qF qH
      have cCD : ∀ W', Calls Tryz.prog 67 #[.agg (n64s (digB (121665))).toArray, .agg (n64s (digB (lD s1))).toArray] W' fun e w' => e = .returned (.agg (n64s (digB (121665 * lD s1 % pB))).toArray) ∧ Below W'.heap.size W' w' := fun W' => timesG_any (121665) (lD s1) _ qCC qDD
      have cFC : ∀ W', Calls Tryz.prog 66 #[.agg (n64s (digB (lF s1))).toArray, .agg (n64s (digB (121665 * lD s1 % pB))).toArray] W' fun e w' => e = .returned (.agg (n64s (digB ((lF s1 + 121665 * lD s1 % pB) % pB))).toArray) ∧ Below W'.heap.size W' w' := fun W' => plusG_any (lF s1) (121665 * lD s1 % pB) _ qF qCD
      have cZZ : ∀ W', Calls Tryz.prog 67 #[.agg (n64s (digB (lD s1))).toArray, .agg (n64s (digB ((lF s1 + 121665 * lD s1 % pB) % pB))).toArray] W' fun e w' => e = .returned (.agg (n64s (digB ((s1.step v).z))).toArray) ∧ Below W'.heap.size W' w' := fun W' => timesG_any (lD s1) ((lF s1 + 121665 * lD s1 % pB) % pB) _ qDD qFC
      have lenX := digB_length (s1.x)
      have lenZ := digB_length (s1.z)
      have lenW := digB_length (s1.w)
      have lenT := digB_length (s1.t)
      have lenV := digB_length (v)
      have lenE := digB_length (lE s1)
      have lenF := digB_length (lF s1)
      have lenG := digB_length (lG s1)
      have lenH := digB_length (lH s1)
      have lenDD := digB_length (lD s1)
      have lenP1 := digB_length (subB s1.w s1.t)
      have lenJ := digB_length (lJ s1)
      have lenP2 := digB_length ((s1.w + s1.t) % pB)
      have lenK := digB_length (lK s1)
      have lenJK := digB_length ((lJ s1 + lK s1) % pB)
      have lenWW := digB_length ((s1.step v).w)
      have lenS := digB_length (subB (lJ s1) (lK s1))
      have lenSS := digB_length (subB (lJ s1) (lK s1) * subB (lJ s1) (lK s1) % pB)
      have lenTT := digB_length ((s1.step v).t)
      have lenXX := digB_length ((s1.step v).x)
      have lenCC := digB_length (121665)
      have lenCD := digB_length (121665 * lD s1 % pB)
      have lenFC := digB_length ((lF s1 + 121665 * lD s1 % pB) % pB)
      have lenZZ := digB_length ((s1.step v).z)
      obtain ⟨DX, hX⟩ : ∃ x, digB (s1.x) = x := ⟨_, rfl⟩
      obtain ⟨DZ, hZ⟩ : ∃ x, digB (s1.z) = x := ⟨_, rfl⟩
      obtain ⟨DW, hW⟩ : ∃ x, digB (s1.w) = x := ⟨_, rfl⟩
      obtain ⟨DT, hT⟩ : ∃ x, digB (s1.t) = x := ⟨_, rfl⟩
      obtain ⟨DV, hV⟩ : ∃ x, digB (v) = x := ⟨_, rfl⟩
      obtain ⟨DE, hE⟩ : ∃ x, digB (lE s1) = x := ⟨_, rfl⟩
      obtain ⟨DF, hF⟩ : ∃ x, digB (lF s1) = x := ⟨_, rfl⟩
      obtain ⟨DG, hG⟩ : ∃ x, digB (lG s1) = x := ⟨_, rfl⟩
      obtain ⟨DH, hH⟩ : ∃ x, digB (lH s1) = x := ⟨_, rfl⟩
      obtain ⟨DDD, hDD⟩ : ∃ x, digB (lD s1) = x := ⟨_, rfl⟩
      obtain ⟨DP1, hP1⟩ : ∃ x, digB (subB s1.w s1.t) = x := ⟨_, rfl⟩
      obtain ⟨DJ, hJ⟩ : ∃ x, digB (lJ s1) = x := ⟨_, rfl⟩
      obtain ⟨DP2, hP2⟩ : ∃ x, digB ((s1.w + s1.t) % pB) = x := ⟨_, rfl⟩
      obtain ⟨DK, hK⟩ : ∃ x, digB (lK s1) = x := ⟨_, rfl⟩
      obtain ⟨DJK, hJK⟩ : ∃ x, digB ((lJ s1 + lK s1) % pB) = x := ⟨_, rfl⟩
      obtain ⟨DWW, hWW⟩ : ∃ x, digB ((s1.step v).w) = x := ⟨_, rfl⟩
      obtain ⟨DS, hS⟩ : ∃ x, digB (subB (lJ s1) (lK s1)) = x := ⟨_, rfl⟩
      obtain ⟨DSS, hSS⟩ : ∃ x, digB (subB (lJ s1) (lK s1) * subB (lJ s1) (lK s1) % pB) = x := ⟨_, rfl⟩
      obtain ⟨DTT, hTT⟩ : ∃ x, digB ((s1.step v).t) = x := ⟨_, rfl⟩
      obtain ⟨DXX, hXX⟩ : ∃ x, digB ((s1.step v).x) = x := ⟨_, rfl⟩
      obtain ⟨DCC, hCC⟩ : ∃ x, digB (121665) = x := ⟨_, rfl⟩
      obtain ⟨DCD, hCD⟩ : ∃ x, digB (121665 * lD s1 % pB) = x := ⟨_, rfl⟩
      obtain ⟨DFC, hFC⟩ : ∃ x, digB ((lF s1 + 121665 * lD s1 % pB) % pB) = x := ⟨_, rfl⟩
      obtain ⟨DZZ, hZZ⟩ : ∃ x, digB ((s1.step v).z) = x := ⟨_, rfl⟩
      simp only [hX, hZ, hW, hT, hV, hE, hF, hG, hH, hDD, hP1, hJ, hP2, hK, hJK, hWW, hS, hSS, hTT, hXX, hCC, hCD, hFC, hZZ] at cE cF cG cH cDD cP1 cJ cP2 cK cJK cWW cS cSS cTT cXX cCD cFC cZZ lenX lenZ lenW lenT lenV lenE lenF lenG lenH lenDD lenP1 lenJ lenP2 lenK lenJK lenWW lenS lenSS lenTT lenXX lenCC lenCD lenFC lenZZ rA rB rC rD
      have HX := Lib.hid hX
      have HZ := Lib.hid hZ
      have HW := Lib.hid hW
      have HT := Lib.hid hT
      have HV := Lib.hid hV
      have HE := Lib.hid hE
      have HF := Lib.hid hF
      have HG := Lib.hid hG
      have HH := Lib.hid hH
      have HDD := Lib.hid hDD
      have HP1 := Lib.hid hP1
      have HJ := Lib.hid hJ
      have HP2 := Lib.hid hP2
      have HK := Lib.hid hK
      have HJK := Lib.hid hJK
      have HWW := Lib.hid hWW
      have HS := Lib.hid hS
      have HSS := Lib.hid hSS
      have HTT := Lib.hid hTT
      have HXX := Lib.hid hXX
      have HCC := Lib.hid hCC
      have HCD := Lib.hid hCD
      have HFC := Lib.hid hFC
      have HZZ := Lib.hid hZZ
      have KE := Lib.hid cE
      have KF := Lib.hid cF
      have KG := Lib.hid cG
      have KH := Lib.hid cH
      have KDD := Lib.hid cDD
      have KP1 := Lib.hid cP1
      have KJ := Lib.hid cJ
      have KP2 := Lib.hid cP2
      have KK := Lib.hid cK
      have KJK := Lib.hid cJK
      have KWW := Lib.hid cWW
      have KS := Lib.hid cS
      have KSS := Lib.hid cSS
      have KTT := Lib.hid cTT
      have KXX := Lib.hid cXX
      have KCD := Lib.hid cCD
      have KFC := Lib.hid cFC
      have KZZ := Lib.hid cZZ
      have hcst : (Value.int .i64 65 :: (Value.int .i64 219 :: (Value.int .i64 1 :: (zeros 30 (Value.int .i64 0)).tail))) = n64s DCC := by rw [← HCC.out]; exact cst_cells
      have eV : DV = dv := by rw [← HV.out, HDV.out]
      rw [eV] at KTT
      clear cE cF cG cH cDD cP1 cJ cP2 cK cJK cWW cS cSS cTT cXX cCD cFC cZZ hX hZ hW hT hV hE hF hG hH hDD hP1 hJ hP2 hK hJK hWW hS hSS hTT hXX hCC hCD hFC hZZ pX pZ pW pT pV pE pF pG pH pDD pP1 pJ pP2 pK pJK pWW pS pSS pTT pXX pCC pCD pFC pZZ qX qZ qW qT qV qE qF qG qH qDD qP1 qJ qP2 qK qJK qWW qS qSS qTT qXX qCC qCD qFC qZZ
      go_wp2_with fail
      (with_reducible refine (KE.out _).mono ?_)
      rintro e t1 ⟨rfl, b1⟩
      have y1 := b1.size
      replace rA : row t1 A = (n64s DX).toArray := (row_below b1 (by omega)).trans rA
      replace rB : row t1 B = (n64s DZ).toArray := (row_below b1 (by omega)).trans rB
      replace rC : row t1 C = (n64s DW).toArray := (row_below b1 (by omega)).trans rC
      replace rD : row t1 D = (n64s DT).toArray := (row_below b1 (by omega)).trans rD
      replace rU : row t1 U = (n64s dv).toArray := (row_below b1 (by omega)).trans rU
      replace rN : row t1 (w.heap.size + 1 + 1 + 1) = (u8s c).toArray := (row_below b1 (by omega)).trans rN
      replace rR : row t1 (w.heap.size + 1 + 1) = (zeros 32 (Value.int .u8 0)).toArray := (row_below b1 (by omega)).trans rR
      replace bb : Below w.heap.size w t1 := bb.trans (b1.mono (by omega))
      obtain ⟨v1, hv1⟩ : ∃ x, t1.alloc (.cells (n64s DE).toArray 120) = x := ⟨_, rfl⟩
      have rE : row v1 t1.heap.size = (n64s DE).toArray := by rw [← hv1]; exact row_alloc_at _ _ _ rfl
      have f1 : Below t1.heap.size t1 v1 := by rw [← hv1]; exact Below.alloc (Below.refl _ _) (Nat.le_refl _) _
      have x1 : v1.heap.size = t1.heap.size + 1 := by rw [← hv1, alloc_sizeW]
      have gg : w5.heap.size ≤ t1.heap.size := by omega
      replace rA : row v1 A = (n64s DX).toArray := (row_below f1 (by omega)).trans rA
      replace rB : row v1 B = (n64s DZ).toArray := (row_below f1 (by omega)).trans rB
      replace rC : row v1 C = (n64s DW).toArray := (row_below f1 (by omega)).trans rC
      replace rD : row v1 D = (n64s DT).toArray := (row_below f1 (by omega)).trans rD
      replace rU : row v1 U = (n64s dv).toArray := (row_below f1 (by omega)).trans rU
      replace rN : row v1 (w.heap.size + 1 + 1 + 1) = (u8s c).toArray := (row_below f1 (by omega)).trans rN
      replace rR : row v1 (w.heap.size + 1 + 1) = (zeros 32 (Value.int .u8 0)).toArray := (row_below f1 (by omega)).trans rR
      replace bb : Below w.heap.size w v1 := bb.trans (f1.mono (by omega))
      replace zz : w5.heap.size ≤ v1.heap.size := by omega
      clear b1 f1
      go_wp2_with fail
      obtain ⟨BE, aE⟩ : ∃ x, t1.heap.size = x := ⟨_, rfl⟩
      rw [aE] at rE x1 gg ⊢
      have gE : w5.heap.size ≤ BE := gg
      clear hv1 gg
      (with_reducible refine (KF.out _).mono ?_)
      rintro e t2 ⟨rfl, b2⟩
      have y2 := b2.size
      replace rA : row t2 A = (n64s DX).toArray := (row_below b2 (by omega)).trans rA
      replace rB : row t2 B = (n64s DZ).toArray := (row_below b2 (by omega)).trans rB
      replace rC : row t2 C = (n64s DW).toArray := (row_below b2 (by omega)).trans rC
      replace rD : row t2 D = (n64s DT).toArray := (row_below b2 (by omega)).trans rD
      replace rU : row t2 U = (n64s dv).toArray := (row_below b2 (by omega)).trans rU
      replace rN : row t2 (w.heap.size + 1 + 1 + 1) = (u8s c).toArray := (row_below b2 (by omega)).trans rN
      replace rR : row t2 (w.heap.size + 1 + 1) = (zeros 32 (Value.int .u8 0)).toArray := (row_below b2 (by omega)).trans rR
      replace rE : row t2 BE = (n64s DE).toArray := (row_below b2 (by omega)).trans rE
      replace bb : Below w.heap.size w t2 := bb.trans (b2.mono (by omega))
      obtain ⟨v2, hv2⟩ : ∃ x, t2.alloc (.cells (n64s DF).toArray 120) = x := ⟨_, rfl⟩
      have rF : row v2 t2.heap.size = (n64s DF).toArray := by rw [← hv2]; exact row_alloc_at _ _ _ rfl
      have f2 : Below t2.heap.size t2 v2 := by rw [← hv2]; exact Below.alloc (Below.refl _ _) (Nat.le_refl _) _
      have x2 : v2.heap.size = t2.heap.size + 1 := by rw [← hv2, alloc_sizeW]
      have gg : w5.heap.size ≤ t2.heap.size := by omega
      replace rA : row v2 A = (n64s DX).toArray := (row_below f2 (by omega)).trans rA
      replace rB : row v2 B = (n64s DZ).toArray := (row_below f2 (by omega)).trans rB
      replace rC : row v2 C = (n64s DW).toArray := (row_below f2 (by omega)).trans rC
      replace rD : row v2 D = (n64s DT).toArray := (row_below f2 (by omega)).trans rD
      replace rU : row v2 U = (n64s dv).toArray := (row_below f2 (by omega)).trans rU
      replace rN : row v2 (w.heap.size + 1 + 1 + 1) = (u8s c).toArray := (row_below f2 (by omega)).trans rN
      replace rR : row v2 (w.heap.size + 1 + 1) = (zeros 32 (Value.int .u8 0)).toArray := (row_below f2 (by omega)).trans rR
      replace rE : row v2 BE = (n64s DE).toArray := (row_below f2 (by omega)).trans rE
      replace bb : Below w.heap.size w v2 := bb.trans (f2.mono (by omega))
      replace zz : w5.heap.size ≤ v2.heap.size := by omega
      clear b2 f2
      go_wp2_with fail
      obtain ⟨BF, aF⟩ : ∃ x, t2.heap.size = x := ⟨_, rfl⟩
      rw [aF] at rF x2 gg ⊢
      have gF : w5.heap.size ≤ BF := gg
      clear hv2 gg
      (with_reducible refine (KG.out _).mono ?_)
      rintro e t3 ⟨rfl, b3⟩
      have y3 := b3.size
      replace rA : row t3 A = (n64s DX).toArray := (row_below b3 (by omega)).trans rA
      replace rB : row t3 B = (n64s DZ).toArray := (row_below b3 (by omega)).trans rB
      replace rC : row t3 C = (n64s DW).toArray := (row_below b3 (by omega)).trans rC
      replace rD : row t3 D = (n64s DT).toArray := (row_below b3 (by omega)).trans rD
      replace rU : row t3 U = (n64s dv).toArray := (row_below b3 (by omega)).trans rU
      replace rN : row t3 (w.heap.size + 1 + 1 + 1) = (u8s c).toArray := (row_below b3 (by omega)).trans rN
      replace rR : row t3 (w.heap.size + 1 + 1) = (zeros 32 (Value.int .u8 0)).toArray := (row_below b3 (by omega)).trans rR
      replace rE : row t3 BE = (n64s DE).toArray := (row_below b3 (by omega)).trans rE
      replace rF : row t3 BF = (n64s DF).toArray := (row_below b3 (by omega)).trans rF
      replace bb : Below w.heap.size w t3 := bb.trans (b3.mono (by omega))
      obtain ⟨v3, hv3⟩ : ∃ x, t3.alloc (.cells (n64s DG).toArray 120) = x := ⟨_, rfl⟩
      have rG : row v3 t3.heap.size = (n64s DG).toArray := by rw [← hv3]; exact row_alloc_at _ _ _ rfl
      have f3 : Below t3.heap.size t3 v3 := by rw [← hv3]; exact Below.alloc (Below.refl _ _) (Nat.le_refl _) _
      have x3 : v3.heap.size = t3.heap.size + 1 := by rw [← hv3, alloc_sizeW]
      have gg : w5.heap.size ≤ t3.heap.size := by omega
      replace rA : row v3 A = (n64s DX).toArray := (row_below f3 (by omega)).trans rA
      replace rB : row v3 B = (n64s DZ).toArray := (row_below f3 (by omega)).trans rB
      replace rC : row v3 C = (n64s DW).toArray := (row_below f3 (by omega)).trans rC
      replace rD : row v3 D = (n64s DT).toArray := (row_below f3 (by omega)).trans rD
      replace rU : row v3 U = (n64s dv).toArray := (row_below f3 (by omega)).trans rU
      replace rN : row v3 (w.heap.size + 1 + 1 + 1) = (u8s c).toArray := (row_below f3 (by omega)).trans rN
      replace rR : row v3 (w.heap.size + 1 + 1) = (zeros 32 (Value.int .u8 0)).toArray := (row_below f3 (by omega)).trans rR
      replace rE : row v3 BE = (n64s DE).toArray := (row_below f3 (by omega)).trans rE
      replace rF : row v3 BF = (n64s DF).toArray := (row_below f3 (by omega)).trans rF
      replace bb : Below w.heap.size w v3 := bb.trans (f3.mono (by omega))
      replace zz : w5.heap.size ≤ v3.heap.size := by omega
      clear b3 f3
      go_wp2_with fail
      obtain ⟨BG, aG⟩ : ∃ x, t3.heap.size = x := ⟨_, rfl⟩
      rw [aG] at rG x3 gg ⊢
      have gG : w5.heap.size ≤ BG := gg
      clear hv3 gg
      (with_reducible refine (KH.out _).mono ?_)
      rintro e t4 ⟨rfl, b4⟩
      have y4 := b4.size
      replace rA : row t4 A = (n64s DX).toArray := (row_below b4 (by omega)).trans rA
      replace rB : row t4 B = (n64s DZ).toArray := (row_below b4 (by omega)).trans rB
      replace rC : row t4 C = (n64s DW).toArray := (row_below b4 (by omega)).trans rC
      replace rD : row t4 D = (n64s DT).toArray := (row_below b4 (by omega)).trans rD
      replace rU : row t4 U = (n64s dv).toArray := (row_below b4 (by omega)).trans rU
      replace rN : row t4 (w.heap.size + 1 + 1 + 1) = (u8s c).toArray := (row_below b4 (by omega)).trans rN
      replace rR : row t4 (w.heap.size + 1 + 1) = (zeros 32 (Value.int .u8 0)).toArray := (row_below b4 (by omega)).trans rR
      replace rE : row t4 BE = (n64s DE).toArray := (row_below b4 (by omega)).trans rE
      replace rF : row t4 BF = (n64s DF).toArray := (row_below b4 (by omega)).trans rF
      replace rG : row t4 BG = (n64s DG).toArray := (row_below b4 (by omega)).trans rG
      replace bb : Below w.heap.size w t4 := bb.trans (b4.mono (by omega))
      obtain ⟨v4, hv4⟩ : ∃ x, t4.alloc (.cells (n64s DH).toArray 120) = x := ⟨_, rfl⟩
      have rH : row v4 t4.heap.size = (n64s DH).toArray := by rw [← hv4]; exact row_alloc_at _ _ _ rfl
      have f4 : Below t4.heap.size t4 v4 := by rw [← hv4]; exact Below.alloc (Below.refl _ _) (Nat.le_refl _) _
      have x4 : v4.heap.size = t4.heap.size + 1 := by rw [← hv4, alloc_sizeW]
      have gg : w5.heap.size ≤ t4.heap.size := by omega
      replace rA : row v4 A = (n64s DX).toArray := (row_below f4 (by omega)).trans rA
      replace rB : row v4 B = (n64s DZ).toArray := (row_below f4 (by omega)).trans rB
      replace rC : row v4 C = (n64s DW).toArray := (row_below f4 (by omega)).trans rC
      replace rD : row v4 D = (n64s DT).toArray := (row_below f4 (by omega)).trans rD
      replace rU : row v4 U = (n64s dv).toArray := (row_below f4 (by omega)).trans rU
      replace rN : row v4 (w.heap.size + 1 + 1 + 1) = (u8s c).toArray := (row_below f4 (by omega)).trans rN
      replace rR : row v4 (w.heap.size + 1 + 1) = (zeros 32 (Value.int .u8 0)).toArray := (row_below f4 (by omega)).trans rR
      replace rE : row v4 BE = (n64s DE).toArray := (row_below f4 (by omega)).trans rE
      replace rF : row v4 BF = (n64s DF).toArray := (row_below f4 (by omega)).trans rF
      replace rG : row v4 BG = (n64s DG).toArray := (row_below f4 (by omega)).trans rG
      replace bb : Below w.heap.size w v4 := bb.trans (f4.mono (by omega))
      replace zz : w5.heap.size ≤ v4.heap.size := by omega
      clear b4 f4
      go_wp2_with fail
      obtain ⟨BH, aH⟩ : ∃ x, t4.heap.size = x := ⟨_, rfl⟩
      rw [aH] at rH x4 gg ⊢
      have gH : w5.heap.size ≤ BH := gg
      clear hv4 gg
      (with_reducible refine (KDD.out _).mono ?_)
      rintro e t5 ⟨rfl, b5⟩
      have y5 := b5.size
      replace rA : row t5 A = (n64s DX).toArray := (row_below b5 (by omega)).trans rA
      replace rB : row t5 B = (n64s DZ).toArray := (row_below b5 (by omega)).trans rB
      replace rC : row t5 C = (n64s DW).toArray := (row_below b5 (by omega)).trans rC
      replace rD : row t5 D = (n64s DT).toArray := (row_below b5 (by omega)).trans rD
      replace rU : row t5 U = (n64s dv).toArray := (row_below b5 (by omega)).trans rU
      replace rN : row t5 (w.heap.size + 1 + 1 + 1) = (u8s c).toArray := (row_below b5 (by omega)).trans rN
      replace rR : row t5 (w.heap.size + 1 + 1) = (zeros 32 (Value.int .u8 0)).toArray := (row_below b5 (by omega)).trans rR
      replace rE : row t5 BE = (n64s DE).toArray := (row_below b5 (by omega)).trans rE
      replace rF : row t5 BF = (n64s DF).toArray := (row_below b5 (by omega)).trans rF
      replace rG : row t5 BG = (n64s DG).toArray := (row_below b5 (by omega)).trans rG
      replace rH : row t5 BH = (n64s DH).toArray := (row_below b5 (by omega)).trans rH
      replace bb : Below w.heap.size w t5 := bb.trans (b5.mono (by omega))
      obtain ⟨v5, hv5⟩ : ∃ x, t5.alloc (.cells (n64s DDD).toArray 120) = x := ⟨_, rfl⟩
      have rDD : row v5 t5.heap.size = (n64s DDD).toArray := by rw [← hv5]; exact row_alloc_at _ _ _ rfl
      have f5 : Below t5.heap.size t5 v5 := by rw [← hv5]; exact Below.alloc (Below.refl _ _) (Nat.le_refl _) _
      have x5 : v5.heap.size = t5.heap.size + 1 := by rw [← hv5, alloc_sizeW]
      have gg : w5.heap.size ≤ t5.heap.size := by omega
      replace rA : row v5 A = (n64s DX).toArray := (row_below f5 (by omega)).trans rA
      replace rB : row v5 B = (n64s DZ).toArray := (row_below f5 (by omega)).trans rB
      replace rC : row v5 C = (n64s DW).toArray := (row_below f5 (by omega)).trans rC
      replace rD : row v5 D = (n64s DT).toArray := (row_below f5 (by omega)).trans rD
      replace rU : row v5 U = (n64s dv).toArray := (row_below f5 (by omega)).trans rU
      replace rN : row v5 (w.heap.size + 1 + 1 + 1) = (u8s c).toArray := (row_below f5 (by omega)).trans rN
      replace rR : row v5 (w.heap.size + 1 + 1) = (zeros 32 (Value.int .u8 0)).toArray := (row_below f5 (by omega)).trans rR
      replace rE : row v5 BE = (n64s DE).toArray := (row_below f5 (by omega)).trans rE
      replace rF : row v5 BF = (n64s DF).toArray := (row_below f5 (by omega)).trans rF
      replace rG : row v5 BG = (n64s DG).toArray := (row_below f5 (by omega)).trans rG
      replace rH : row v5 BH = (n64s DH).toArray := (row_below f5 (by omega)).trans rH
      replace bb : Below w.heap.size w v5 := bb.trans (f5.mono (by omega))
      replace zz : w5.heap.size ≤ v5.heap.size := by omega
      clear b5 f5
      go_wp2_with fail
      obtain ⟨BDD, aDD⟩ : ∃ x, t5.heap.size = x := ⟨_, rfl⟩
      rw [aDD] at rDD x5 gg ⊢
      have gDD : w5.heap.size ≤ BDD := gg
      clear hv5 gg
      refine wp_region_beginR [(C, (n64s DW).toArray), (D, (n64s DT).toArray), (BE, (n64s DE).toArray)] rfl (by simp only [Rws]; (repeat (first | exact trivial | refine ⟨(by first | assumption | (simp [go_sem, *]; done)), (by first | omega | (simp; done) | (simp; omega)), ?_⟩))) (fun hS => ?_)
      refine qp 0 hS ?_
      refine qp 1 hS ?_
      refine qp 3 hS ?_
      refine qc 2 (v := ?_) hS ?_ ?_
      rotate_left
      ·
       intro w' hS'
       simp only [Rws] at hS'
       go_simp
       with_reducible refine (KP1.out _).mono ?_
       rintro e w'' ⟨rfl, hb⟩
       exact ⟨_, rfl, by rfl, hb⟩
      refine qc 4 (v := ?_) hS ?_ ?_
      rotate_left
      ·
       intro w' hS'
       simp only [Rws] at hS'
       go_simp
       with_reducible refine (KJ.out _).mono ?_
       rintro e w'' ⟨rfl, hb⟩
       exact ⟨_, rfl, by rfl, hb⟩
      refine wpAnyR_single (i := 5) (k := 6) (zi := (zeros 32 (Value.int .i64 0)).toArray) (cA := (n64s DJ).toArray) (by simp only [List.getElem?_toArray, List.getElem?_cons_succ, List.getElem?_cons_zero]; rfl) (by simp only [List.getElem?_toArray, List.getElem?_cons_succ, List.getElem?_cons_zero]; rfl) ⟨rfl, rfl, fun a w => by go_simp; (refine ⟨?_, ?_⟩ <;> rfl)⟩ (by kernel_rfl) (by kernel_rfl) (by kernel_rfl) rfl rfl (by simp [*]) (by simp) (by simp; (try omega)) (fun A w1 hr => by
       simp only [Act.put, List.setIfInBounds_toArray, List.set_cons_zero, List.set_cons_succ, ptr]
       go_simp
       try rfl) hS (fun BJ v6 gBJ zBJ b6 rBJ => ?_)
      (try simp only [Act.put, List.setIfInBounds_toArray, List.set_cons_zero, List.set_cons_succ])
      replace gBJ : (v5).heap.size ≤ BJ := gBJ
      replace b6 : Below (v5).heap.size v5 v6 := Below.trans (Below.drew (Below.refl _ _)) b6
      have zv6 := (b6).size
      simp only [ptr]
      clear hS
      have rJ := rBJ
      replace rA : row v6 A = (n64s DX).toArray := (row_below b6 (by omega)).trans rA
      replace rB : row v6 B = (n64s DZ).toArray := (row_below b6 (by omega)).trans rB
      replace rC : row v6 C = (n64s DW).toArray := (row_below b6 (by omega)).trans rC
      replace rD : row v6 D = (n64s DT).toArray := (row_below b6 (by omega)).trans rD
      replace rU : row v6 U = (n64s dv).toArray := (row_below b6 (by omega)).trans rU
      replace rN : row v6 (w.heap.size + 1 + 1 + 1) = (u8s c).toArray := (row_below b6 (by omega)).trans rN
      replace rR : row v6 (w.heap.size + 1 + 1) = (zeros 32 (Value.int .u8 0)).toArray := (row_below b6 (by omega)).trans rR
      replace rE : row v6 BE = (n64s DE).toArray := (row_below b6 (by omega)).trans rE
      replace rF : row v6 BF = (n64s DF).toArray := (row_below b6 (by omega)).trans rF
      replace rG : row v6 BG = (n64s DG).toArray := (row_below b6 (by omega)).trans rG
      replace rH : row v6 BH = (n64s DH).toArray := (row_below b6 (by omega)).trans rH
      replace rDD : row v6 BDD = (n64s DDD).toArray := (row_below b6 (by omega)).trans rDD
      replace bb : Below w.heap.size w v6 := bb.trans (b6.mono (by omega))
      replace zz : w5.heap.size ≤ v6.heap.size := by have := b6.size; omega
      have gJ : w5.heap.size ≤ BJ := by omega
      clear b6
      go_wp2_with fail
      refine wp_region_beginR [(C, (n64s DW).toArray), (D, (n64s DT).toArray), (BG, (n64s DG).toArray)] rfl (by simp only [Rws]; (repeat (first | exact trivial | refine ⟨(by first | assumption | (simp [go_sem, *]; done)), (by first | omega | (simp; done) | (simp; omega)), ?_⟩))) (fun hS => ?_)
      refine qp 0 hS ?_
      refine qp 1 hS ?_
      refine qp 3 hS ?_
      refine qc 2 (v := ?_) hS ?_ ?_
      rotate_left
      ·
       intro w' hS'
       simp only [Rws] at hS'
       go_simp
       with_reducible refine (KP2.out _).mono ?_
       rintro e w'' ⟨rfl, hb⟩
       exact ⟨_, rfl, by rfl, hb⟩
      refine qc 4 (v := ?_) hS ?_ ?_
      rotate_left
      ·
       intro w' hS'
       simp only [Rws] at hS'
       go_simp
       with_reducible refine (KK.out _).mono ?_
       rintro e w'' ⟨rfl, hb⟩
       exact ⟨_, rfl, by rfl, hb⟩
      refine wpAnyR_single (i := 5) (k := 6) (zi := (zeros 32 (Value.int .i64 0)).toArray) (cA := (n64s DK).toArray) (by simp only [List.getElem?_toArray, List.getElem?_cons_succ, List.getElem?_cons_zero]; rfl) (by simp only [List.getElem?_toArray, List.getElem?_cons_succ, List.getElem?_cons_zero]; rfl) ⟨rfl, rfl, fun a w => by go_simp; (refine ⟨?_, ?_⟩ <;> rfl)⟩ (by kernel_rfl) (by kernel_rfl) (by kernel_rfl) rfl rfl (by simp [*]) (by simp) (by simp; (try omega)) (fun A w1 hr => by
       simp only [Act.put, List.setIfInBounds_toArray, List.set_cons_zero, List.set_cons_succ, ptr]
       go_simp
       try rfl) hS (fun BK v7 gBK zBK b7 rBK => ?_)
      (try simp only [Act.put, List.setIfInBounds_toArray, List.set_cons_zero, List.set_cons_succ])
      replace gBK : (v6).heap.size ≤ BK := gBK
      replace b7 : Below (v6).heap.size v6 v7 := Below.trans (Below.drew (Below.refl _ _)) b7
      have zv7 := (b7).size
      simp only [ptr]
      clear hS
      have rK := rBK
      replace rA : row v7 A = (n64s DX).toArray := (row_below b7 (by omega)).trans rA
      replace rB : row v7 B = (n64s DZ).toArray := (row_below b7 (by omega)).trans rB
      replace rC : row v7 C = (n64s DW).toArray := (row_below b7 (by omega)).trans rC
      replace rD : row v7 D = (n64s DT).toArray := (row_below b7 (by omega)).trans rD
      replace rU : row v7 U = (n64s dv).toArray := (row_below b7 (by omega)).trans rU
      replace rN : row v7 (w.heap.size + 1 + 1 + 1) = (u8s c).toArray := (row_below b7 (by omega)).trans rN
      replace rR : row v7 (w.heap.size + 1 + 1) = (zeros 32 (Value.int .u8 0)).toArray := (row_below b7 (by omega)).trans rR
      replace rE : row v7 BE = (n64s DE).toArray := (row_below b7 (by omega)).trans rE
      replace rF : row v7 BF = (n64s DF).toArray := (row_below b7 (by omega)).trans rF
      replace rG : row v7 BG = (n64s DG).toArray := (row_below b7 (by omega)).trans rG
      replace rH : row v7 BH = (n64s DH).toArray := (row_below b7 (by omega)).trans rH
      replace rDD : row v7 BDD = (n64s DDD).toArray := (row_below b7 (by omega)).trans rDD
      replace rJ : row v7 BJ = (n64s DJ).toArray := (row_below b7 (by omega)).trans rJ
      replace bb : Below w.heap.size w v7 := bb.trans (b7.mono (by omega))
      replace zz : w5.heap.size ≤ v7.heap.size := by have := b7.size; omega
      have gK : w5.heap.size ≤ BK := by omega
      clear b7
      go_wp2_with fail
      refine wp_region_beginR [(BJ, (n64s DJ).toArray), (BK, (n64s DK).toArray)] rfl (by simp only [Rws]; (repeat (first | exact trivial | refine ⟨(by first | assumption | (simp [go_sem, *]; done)), (by first | omega | (simp; done) | (simp; omega)), ?_⟩))) (fun hS => ?_)
      refine qp 0 hS ?_
      refine qp 1 hS ?_
      refine qp 3 hS ?_
      refine qp 4 hS ?_
      refine qc 2 (v := ?_) hS ?_ ?_
      rotate_left
      ·
       intro w' hS'
       simp only [Rws] at hS'
       go_simp
       with_reducible refine (KJK.out _).mono ?_
       rintro e w'' ⟨rfl, hb⟩
       exact ⟨_, rfl, by rfl, hb⟩
      refine qc 5 (v := ?_) hS ?_ ?_
      rotate_left
      ·
       intro w' hS'
       simp only [Rws] at hS'
       go_simp
       with_reducible refine (KJK.out _).mono ?_
       rintro e w'' ⟨rfl, hb⟩
       exact ⟨_, rfl, by rfl, hb⟩
      refine qc 6 (v := ?_) hS ?_ ?_
      rotate_left
      ·
       intro w' hS'
       simp only [Rws] at hS'
       go_simp
       with_reducible refine (KWW.out _).mono ?_
       rintro e w'' ⟨rfl, hb⟩
       exact ⟨_, rfl, by rfl, hb⟩
      have rd : row v7.drew C = (n64s DW).toArray := rC
      refine wpAnyR_store (i := 7) (b := C) (c := (n64s DWW).toArray) (by simp only [List.getElem?_toArray, List.getElem?_cons_succ, List.getElem?_cons_zero]; rfl) rfl rfl (by kernel_rfl) (by simp; (try omega)) hS (by rw [rd]; simp; (try omega)) (fun w1 hr => by rw [rd] at hr; go_simp; (try rfl)) (fun u8 hu8 ru8 hS => ?_)
      have yu : v7.heap.size ≤ u8.heap.size := hu8.size
      have cu := below_step (Below.drew (Below.refl _ _)) hu8
      refine wpAnyR_done (by kernel_rfl) (fun v8 b8 => ?_) _
      have yb := b8.size
      rw [setRow_size] at yb
      have zk8 : v7.heap.size ≤ v8.heap.size := by omega
      replace rA : row v8 A = (n64s DX).toArray := by rw [row_below b8 (by rw [setRow_size]; omega), row_setRow_other _ _ _ (by omega), row_below cu (by omega)]; exact rA
      replace rB : row v8 B = (n64s DZ).toArray := by rw [row_below b8 (by rw [setRow_size]; omega), row_setRow_other _ _ _ (by omega), row_below cu (by omega)]; exact rB
      replace rC : row v8 C = (n64s DWW).toArray := by rw [row_below b8 (by rw [setRow_size]; omega)]; exact row_setRow_same (by rw [ru8, rd]; simp; omega) (by rw [ru8, rd]; simp; omega)
      replace rD : row v8 D = (n64s DT).toArray := by rw [row_below b8 (by rw [setRow_size]; omega), row_setRow_other _ _ _ (by omega), row_below cu (by omega)]; exact rD
      replace rU : row v8 U = (n64s dv).toArray := by rw [row_below b8 (by rw [setRow_size]; omega), row_setRow_other _ _ _ (by omega), row_below cu (by omega)]; exact rU
      replace rN : row v8 (w.heap.size + 1 + 1 + 1) = (u8s c).toArray := by rw [row_below b8 (by rw [setRow_size]; omega), row_setRow_other _ _ _ (by omega), row_below cu (by omega)]; exact rN
      replace rR : row v8 (w.heap.size + 1 + 1) = (zeros 32 (Value.int .u8 0)).toArray := by rw [row_below b8 (by rw [setRow_size]; omega), row_setRow_other _ _ _ (by omega), row_below cu (by omega)]; exact rR
      replace rE : row v8 BE = (n64s DE).toArray := by rw [row_below b8 (by rw [setRow_size]; omega), row_setRow_other _ _ _ (by omega), row_below cu (by omega)]; exact rE
      replace rF : row v8 BF = (n64s DF).toArray := by rw [row_below b8 (by rw [setRow_size]; omega), row_setRow_other _ _ _ (by omega), row_below cu (by omega)]; exact rF
      replace rG : row v8 BG = (n64s DG).toArray := by rw [row_below b8 (by rw [setRow_size]; omega), row_setRow_other _ _ _ (by omega), row_below cu (by omega)]; exact rG
      replace rH : row v8 BH = (n64s DH).toArray := by rw [row_below b8 (by rw [setRow_size]; omega), row_setRow_other _ _ _ (by omega), row_below cu (by omega)]; exact rH
      replace rDD : row v8 BDD = (n64s DDD).toArray := by rw [row_below b8 (by rw [setRow_size]; omega), row_setRow_other _ _ _ (by omega), row_below cu (by omega)]; exact rDD
      replace rJ : row v8 BJ = (n64s DJ).toArray := by rw [row_below b8 (by rw [setRow_size]; omega), row_setRow_other _ _ _ (by omega), row_below cu (by omega)]; exact rJ
      replace rK : row v8 BK = (n64s DK).toArray := by rw [row_below b8 (by rw [setRow_size]; omega), row_setRow_other _ _ _ (by omega), row_below cu (by omega)]; exact rK
      replace bb : Below w.heap.size w v8 := Below.trans (Below.setRow (Below.trans bb (cu.mono (by omega))) (by omega) _) (b8.mono (by rw [setRow_size]; omega))
      replace zz : w5.heap.size ≤ v8.heap.size := by omega
      clear rd hu8 cu b8 ru8 hS yu yb
      go_wp2_with fail
      refine wp_region_beginR [(U, (n64s dv).toArray), (BJ, (n64s DJ).toArray), (BK, (n64s DK).toArray)] rfl (by simp only [Rws]; (repeat (first | exact trivial | refine ⟨(by first | assumption | (simp [go_sem, *]; done)), (by first | omega | (simp; done) | (simp; omega)), ?_⟩))) (fun hS => ?_)
      refine qp 0 hS ?_
      refine qp 1 hS ?_
      refine qp 2 hS ?_
      refine qp 4 hS ?_
      refine qp 5 hS ?_
      refine qc 3 (v := ?_) hS ?_ ?_
      rotate_left
      ·
       intro w' hS'
       simp only [Rws] at hS'
       go_simp
       with_reducible refine (KS.out _).mono ?_
       rintro e w'' ⟨rfl, hb⟩
       exact ⟨_, rfl, by rfl, hb⟩
      refine qc 6 (v := ?_) hS ?_ ?_
      rotate_left
      ·
       intro w' hS'
       simp only [Rws] at hS'
       go_simp
       with_reducible refine (KS.out _).mono ?_
       rintro e w'' ⟨rfl, hb⟩
       exact ⟨_, rfl, by rfl, hb⟩
      refine qc 7 (v := ?_) hS ?_ ?_
      rotate_left
      ·
       intro w' hS'
       simp only [Rws] at hS'
       go_simp
       with_reducible refine (KSS.out _).mono ?_
       rintro e w'' ⟨rfl, hb⟩
       exact ⟨_, rfl, by rfl, hb⟩
      refine qc 8 (v := ?_) hS ?_ ?_
      rotate_left
      ·
       intro w' hS'
       simp only [Rws] at hS'
       go_simp
       with_reducible refine (KTT.out _).mono ?_
       rintro e w'' ⟨rfl, hb⟩
       exact ⟨_, rfl, by rfl, hb⟩
      have rd : row v8.drew D = (n64s DT).toArray := rD
      refine wpAnyR_store (i := 9) (b := D) (c := (n64s DTT).toArray) (by simp only [List.getElem?_toArray, List.getElem?_cons_succ, List.getElem?_cons_zero]; rfl) rfl rfl (by kernel_rfl) (by simp; (try omega)) hS (by rw [rd]; simp; (try omega)) (fun w1 hr => by rw [rd] at hr; go_simp; (try rfl)) (fun u9 hu9 ru9 hS => ?_)
      have yu : v8.heap.size ≤ u9.heap.size := hu9.size
      have cu := below_step (Below.drew (Below.refl _ _)) hu9
      refine wpAnyR_done (by kernel_rfl) (fun v9 b9 => ?_) _
      have yb := b9.size
      rw [setRow_size] at yb
      have zk9 : v8.heap.size ≤ v9.heap.size := by omega
      replace rA : row v9 A = (n64s DX).toArray := by rw [row_below b9 (by rw [setRow_size]; omega), row_setRow_other _ _ _ (by omega), row_below cu (by omega)]; exact rA
      replace rB : row v9 B = (n64s DZ).toArray := by rw [row_below b9 (by rw [setRow_size]; omega), row_setRow_other _ _ _ (by omega), row_below cu (by omega)]; exact rB
      replace rC : row v9 C = (n64s DWW).toArray := by rw [row_below b9 (by rw [setRow_size]; omega), row_setRow_other _ _ _ (by omega), row_below cu (by omega)]; exact rC
      replace rD : row v9 D = (n64s DTT).toArray := by rw [row_below b9 (by rw [setRow_size]; omega)]; exact row_setRow_same (by rw [ru9, rd]; simp; omega) (by rw [ru9, rd]; simp; omega)
      replace rU : row v9 U = (n64s dv).toArray := by rw [row_below b9 (by rw [setRow_size]; omega), row_setRow_other _ _ _ (by omega), row_below cu (by omega)]; exact rU
      replace rN : row v9 (w.heap.size + 1 + 1 + 1) = (u8s c).toArray := by rw [row_below b9 (by rw [setRow_size]; omega), row_setRow_other _ _ _ (by omega), row_below cu (by omega)]; exact rN
      replace rR : row v9 (w.heap.size + 1 + 1) = (zeros 32 (Value.int .u8 0)).toArray := by rw [row_below b9 (by rw [setRow_size]; omega), row_setRow_other _ _ _ (by omega), row_below cu (by omega)]; exact rR
      replace rE : row v9 BE = (n64s DE).toArray := by rw [row_below b9 (by rw [setRow_size]; omega), row_setRow_other _ _ _ (by omega), row_below cu (by omega)]; exact rE
      replace rF : row v9 BF = (n64s DF).toArray := by rw [row_below b9 (by rw [setRow_size]; omega), row_setRow_other _ _ _ (by omega), row_below cu (by omega)]; exact rF
      replace rG : row v9 BG = (n64s DG).toArray := by rw [row_below b9 (by rw [setRow_size]; omega), row_setRow_other _ _ _ (by omega), row_below cu (by omega)]; exact rG
      replace rH : row v9 BH = (n64s DH).toArray := by rw [row_below b9 (by rw [setRow_size]; omega), row_setRow_other _ _ _ (by omega), row_below cu (by omega)]; exact rH
      replace rDD : row v9 BDD = (n64s DDD).toArray := by rw [row_below b9 (by rw [setRow_size]; omega), row_setRow_other _ _ _ (by omega), row_below cu (by omega)]; exact rDD
      replace rJ : row v9 BJ = (n64s DJ).toArray := by rw [row_below b9 (by rw [setRow_size]; omega), row_setRow_other _ _ _ (by omega), row_below cu (by omega)]; exact rJ
      replace rK : row v9 BK = (n64s DK).toArray := by rw [row_below b9 (by rw [setRow_size]; omega), row_setRow_other _ _ _ (by omega), row_below cu (by omega)]; exact rK
      replace bb : Below w.heap.size w v9 := Below.trans (Below.setRow (Below.trans bb (cu.mono (by omega))) (by omega) _) (b9.mono (by rw [setRow_size]; omega))
      replace zz : w5.heap.size ≤ v9.heap.size := by omega
      clear rd hu9 cu b9 ru9 hS yu yb
      go_wp2_with fail
      (with_reducible refine (KXX.out _).mono ?_)
      rintro e t10 ⟨rfl, b10⟩
      have y10 := b10.size
      replace rA : row t10 A = (n64s DX).toArray := (row_below b10 (by omega)).trans rA
      replace rB : row t10 B = (n64s DZ).toArray := (row_below b10 (by omega)).trans rB
      replace rC : row t10 C = (n64s DWW).toArray := (row_below b10 (by omega)).trans rC
      replace rD : row t10 D = (n64s DTT).toArray := (row_below b10 (by omega)).trans rD
      replace rU : row t10 U = (n64s dv).toArray := (row_below b10 (by omega)).trans rU
      replace rN : row t10 (w.heap.size + 1 + 1 + 1) = (u8s c).toArray := (row_below b10 (by omega)).trans rN
      replace rR : row t10 (w.heap.size + 1 + 1) = (zeros 32 (Value.int .u8 0)).toArray := (row_below b10 (by omega)).trans rR
      replace rE : row t10 BE = (n64s DE).toArray := (row_below b10 (by omega)).trans rE
      replace rF : row t10 BF = (n64s DF).toArray := (row_below b10 (by omega)).trans rF
      replace rG : row t10 BG = (n64s DG).toArray := (row_below b10 (by omega)).trans rG
      replace rH : row t10 BH = (n64s DH).toArray := (row_below b10 (by omega)).trans rH
      replace rDD : row t10 BDD = (n64s DDD).toArray := (row_below b10 (by omega)).trans rDD
      replace rJ : row t10 BJ = (n64s DJ).toArray := (row_below b10 (by omega)).trans rJ
      replace rK : row t10 BK = (n64s DK).toArray := (row_below b10 (by omega)).trans rK
      replace bb : Below w.heap.size w t10 := bb.trans (b10.mono (by omega))
      have rA0 := rA
      obtain ⟨v10, hv10⟩ : ∃ x, t10.setRow A (n64s DXX).toArray = x := ⟨_, rfl⟩
      have x10 : v10.heap.size = t10.heap.size := by rw [← hv10, setRow_size]
      replace rA : row v10 A = (n64s DXX).toArray := by rw [← hv10]; exact row_setRow_same (by rw [rA]; simp; omega) (by rw [rA]; simp; omega)
      replace rB : row v10 B = (n64s DZ).toArray := by rw [← hv10, row_setRow_other _ _ _ (by omega)]; exact rB
      replace rC : row v10 C = (n64s DWW).toArray := by rw [← hv10, row_setRow_other _ _ _ (by omega)]; exact rC
      replace rD : row v10 D = (n64s DTT).toArray := by rw [← hv10, row_setRow_other _ _ _ (by omega)]; exact rD
      replace rU : row v10 U = (n64s dv).toArray := by rw [← hv10, row_setRow_other _ _ _ (by omega)]; exact rU
      replace rN : row v10 (w.heap.size + 1 + 1 + 1) = (u8s c).toArray := by rw [← hv10, row_setRow_other _ _ _ (by omega)]; exact rN
      replace rR : row v10 (w.heap.size + 1 + 1) = (zeros 32 (Value.int .u8 0)).toArray := by rw [← hv10, row_setRow_other _ _ _ (by omega)]; exact rR
      replace rE : row v10 BE = (n64s DE).toArray := by rw [← hv10, row_setRow_other _ _ _ (by omega)]; exact rE
      replace rF : row v10 BF = (n64s DF).toArray := by rw [← hv10, row_setRow_other _ _ _ (by omega)]; exact rF
      replace rG : row v10 BG = (n64s DG).toArray := by rw [← hv10, row_setRow_other _ _ _ (by omega)]; exact rG
      replace rH : row v10 BH = (n64s DH).toArray := by rw [← hv10, row_setRow_other _ _ _ (by omega)]; exact rH
      replace rDD : row v10 BDD = (n64s DDD).toArray := by rw [← hv10, row_setRow_other _ _ _ (by omega)]; exact rDD
      replace rJ : row v10 BJ = (n64s DJ).toArray := by rw [← hv10, row_setRow_other _ _ _ (by omega)]; exact rJ
      replace rK : row v10 BK = (n64s DK).toArray := by rw [← hv10, row_setRow_other _ _ _ (by omega)]; exact rK
      replace bb : Below w.heap.size w v10 := by rw [← hv10]; exact Below.setRow bb (by omega) _
      replace zz : w5.heap.size ≤ v10.heap.size := by omega
      clear b10
      go_wp2_with fail
      clear hv10 rA0
      refine wp_region_beginR [(BDD, (n64s DDD).toArray), (BF, (n64s DF).toArray)] rfl (by simp only [Rws]; (repeat (first | exact trivial | refine ⟨(by first | assumption | (simp [go_sem, *]; done)), (by first | omega | (simp; done) | (simp; omega)), ?_⟩))) (fun hS => ?_)
      refine qp 0 hS ?_
      refine qp 1 hS ?_
      refine qp 2 hS ?_
      refine qp 3 hS ?_
      refine qc 4 (v := ?_) hS ?_ ?_
      rotate_left
      ·
       intro w' hS'
       simp only [Rws] at hS'
       go_simp
       with_reducible refine (KCD.out _).mono ?_
       rintro e w'' ⟨rfl, hb⟩
       exact ⟨_, rfl, by rfl, hb⟩
      refine qc 5 (v := ?_) hS ?_ ?_
      rotate_left
      ·
       intro w' hS'
       simp only [Rws] at hS'
       go_simp
       with_reducible refine (KFC.out _).mono ?_
       rintro e w'' ⟨rfl, hb⟩
       exact ⟨_, rfl, by rfl, hb⟩
      refine qc 6 (v := ?_) hS ?_ ?_
      rotate_left
      ·
       intro w' hS'
       simp only [Rws] at hS'
       go_simp
       with_reducible refine (KZZ.out _).mono ?_
       rintro e w'' ⟨rfl, hb⟩
       exact ⟨_, rfl, by rfl, hb⟩
      have rd : row v10.drew B = (n64s DZ).toArray := rB
      refine wpAnyR_store (i := 7) (b := B) (c := (n64s DZZ).toArray) (by simp only [List.getElem?_toArray, List.getElem?_cons_succ, List.getElem?_cons_zero]; rfl) rfl rfl (by kernel_rfl) (by simp; (try omega)) hS (by rw [rd]; simp; (try omega)) (fun w1 hr => by rw [rd] at hr; go_simp; (try rfl)) (fun u11 hu11 ru11 hS => ?_)
      have yu : v10.heap.size ≤ u11.heap.size := hu11.size
      have cu := below_step (Below.drew (Below.refl _ _)) hu11
      refine wpAnyR_done (by kernel_rfl) (fun v11 b11 => ?_) _
      have yb := b11.size
      rw [setRow_size] at yb
      have zk11 : v10.heap.size ≤ v11.heap.size := by omega
      replace rA : row v11 A = (n64s DXX).toArray := by rw [row_below b11 (by rw [setRow_size]; omega), row_setRow_other _ _ _ (by omega), row_below cu (by omega)]; exact rA
      replace rB : row v11 B = (n64s DZZ).toArray := by rw [row_below b11 (by rw [setRow_size]; omega)]; exact row_setRow_same (by rw [ru11, rd]; simp; omega) (by rw [ru11, rd]; simp; omega)
      replace rC : row v11 C = (n64s DWW).toArray := by rw [row_below b11 (by rw [setRow_size]; omega), row_setRow_other _ _ _ (by omega), row_below cu (by omega)]; exact rC
      replace rD : row v11 D = (n64s DTT).toArray := by rw [row_below b11 (by rw [setRow_size]; omega), row_setRow_other _ _ _ (by omega), row_below cu (by omega)]; exact rD
      replace rU : row v11 U = (n64s dv).toArray := by rw [row_below b11 (by rw [setRow_size]; omega), row_setRow_other _ _ _ (by omega), row_below cu (by omega)]; exact rU
      replace rN : row v11 (w.heap.size + 1 + 1 + 1) = (u8s c).toArray := by rw [row_below b11 (by rw [setRow_size]; omega), row_setRow_other _ _ _ (by omega), row_below cu (by omega)]; exact rN
      replace rR : row v11 (w.heap.size + 1 + 1) = (zeros 32 (Value.int .u8 0)).toArray := by rw [row_below b11 (by rw [setRow_size]; omega), row_setRow_other _ _ _ (by omega), row_below cu (by omega)]; exact rR
      replace rE : row v11 BE = (n64s DE).toArray := by rw [row_below b11 (by rw [setRow_size]; omega), row_setRow_other _ _ _ (by omega), row_below cu (by omega)]; exact rE
      replace rF : row v11 BF = (n64s DF).toArray := by rw [row_below b11 (by rw [setRow_size]; omega), row_setRow_other _ _ _ (by omega), row_below cu (by omega)]; exact rF
      replace rG : row v11 BG = (n64s DG).toArray := by rw [row_below b11 (by rw [setRow_size]; omega), row_setRow_other _ _ _ (by omega), row_below cu (by omega)]; exact rG
      replace rH : row v11 BH = (n64s DH).toArray := by rw [row_below b11 (by rw [setRow_size]; omega), row_setRow_other _ _ _ (by omega), row_below cu (by omega)]; exact rH
      replace rDD : row v11 BDD = (n64s DDD).toArray := by rw [row_below b11 (by rw [setRow_size]; omega), row_setRow_other _ _ _ (by omega), row_below cu (by omega)]; exact rDD
      replace rJ : row v11 BJ = (n64s DJ).toArray := by rw [row_below b11 (by rw [setRow_size]; omega), row_setRow_other _ _ _ (by omega), row_below cu (by omega)]; exact rJ
      replace rK : row v11 BK = (n64s DK).toArray := by rw [row_below b11 (by rw [setRow_size]; omega), row_setRow_other _ _ _ (by omega), row_below cu (by omega)]; exact rK
      replace bb : Below w.heap.size w v11 := Below.trans (Below.setRow (Below.trans bb (cu.mono (by omega))) (by omega) _) (b11.mono (by rw [setRow_size]; omega))
      replace zz : w5.heap.size ≤ v11.heap.size := by omega
      clear rd hu11 cu b11 ru11 hS yu yb
      go_wp2_with fail
      refine wp_region_beginK 4 [(C, (n64s DWW).toArray), (D, (n64s DTT).toArray), (A, (n64s DXX).toArray), (B, (n64s DZZ).toArray)] [] rfl (by simp only [Rws]; (repeat (first | exact trivial | refine ⟨(by first | assumption | (simp [go_sem, *]; done)), (by first | omega | (simp; done) | (simp; omega)), ?_⟩))) (fun hS => ?_)
      refine kp 0 hS ?_
      refine kp 2 hS ?_
      refine kp 3 hS ?_
      refine wpAnyK_swap (i := 1) (k := 4) (v := .agg (n64s DTT).toArray) (A := A) (D := D) (m := w.heap.size) (cA := (n64s DWW).toArray) (by simp only [List.getElem?_toArray, List.getElem?_cons_succ, List.getElem?_cons_zero]; rfl) (by simp only [List.getElem?_toArray, List.getElem?_cons_succ, List.getElem?_cons_zero]; rfl) (by decide) rfl rfl rfl rfl (by kernel_rfl) (by kernel_rfl) (by kernel_rfl) (by omega) (by omega) (by simp; omega) rA rD (by simp; omega) (by simp; omega) (by simp [lenXX, lenZZ, lenWW, lenTT]) hS (fun w1 hr => by go_simp; (try rfl)) (fun w1 hr => by go_simp; (try rfl)) (fun w1 hr => by go_simp; (try rfl)) (fun x2 e2 qA keep1 g2 => ?_)
      have gx : v11.heap.size ≤ x2.heap.size := g2
      have kB : row x2 B = (n64s DZZ).toArray := (keep1 B (by simp; omega) (by omega)).trans rB
      have kC : row x2 C = (n64s DWW).toArray := (keep1 C (by simp; omega) (by omega)).trans rC
      have kD : row x2 D = (n64s DTT).toArray := (keep1 D (by simp; omega) (by omega)).trans rD
      refine wpAnyR_fill3 (k1 := 5) (k2 := 6) (k3 := 7) (m := w.heap.size) (A := B) (B := C) (C := D) (cA := (n64s DTT).toArray) (cB := (n64s DXX).toArray) (cC := (n64s DZZ).toArray) (by simp only [List.getElem?_toArray, List.getElem?_cons_succ, List.getElem?_cons_zero]; rfl) (by simp only [List.getElem?_toArray, List.getElem?_cons_succ, List.getElem?_cons_zero]; rfl) (by simp only [List.getElem?_toArray, List.getElem?_cons_succ, List.getElem?_cons_zero]; rfl) (by kernel_rfl) (by kernel_rfl) (by kernel_rfl) (by kernel_rfl) rfl rfl rfl rfl rfl rfl (by omega) (by omega) (by omega) (by omega) (by omega) (by omega) (by omega) kB kC kD (by simp; omega) (by simp; omega) (by simp; omega) (by simp [lenXX, lenZZ, lenWW, lenTT]) (by simp [lenXX, lenZZ, lenWW, lenTT]) (by simp [lenXX, lenZZ, lenWW, lenTT]) (by simp) trivial (fun w1 hr => by go_simp; (try rfl)) (fun w1 hr => by go_simp; (try rfl)) (fun w1 hr => by go_simp; (try rfl)) (fun wz e3 qB qC qD keep2 => ?_)
      have g3 := e3.size
      replace rU : row wz U = (n64s dv).toArray := (keep2 U (by omega) (by omega) (by omega) (by omega)).trans ((keep1 U (by simp; omega) (by omega)).trans rU)
      replace rN : row wz (w.heap.size + 1 + 1 + 1) = (u8s c).toArray := (keep2 _ (by omega) (by omega) (by omega) (by omega)).trans ((keep1 _ (by simp; omega) (by omega)).trans rN)
      replace rR : row wz (w.heap.size + 1 + 1) = (zeros 32 (Value.int .u8 0)).toArray := (keep2 _ (by omega) (by omega) (by omega) (by omega)).trans ((keep1 _ (by simp; omega) (by omega)).trans rR)
      replace rA : row wz A = (n64s DWW).toArray := (keep2 A (by omega) (by omega) (by omega) (by omega)).trans qA
      have rB := qB
      have rC := qC
      have rD := qD
      replace bb : Below w.heap.size w wz := Below.trans (Below.drew bb) (e2.trans e3)
      replace zz : w5.heap.size ≤ wz.heap.size := by omega
      clear keep1 keep2 qA qB qC qD kB kC kD e2 e3 hS
      go_wp2_with fail
      go_roundw
      case rel => exact ⟨k + 1, (s1.step v).swap, by omega, by have := HB.out; congr 1; omega, HST.out, by show row wz A = (n64s (digB (s1.step v).w)).toArray; rw [HWW.out]; exact rA, by show row wz B = (n64s (digB (s1.step v).t)).toArray; rw [HTT.out]; exact rB, by show row wz C = (n64s (digB (s1.step v).x)).toArray; rw [HXX.out]; exact rC, by show row wz D = (n64s (digB (s1.step v).z)).toArray; rw [HZZ.out]; exact rD, rU, rN, rR, zz, bb⟩
      case measure => simp [intOf]
     ·
      have b1 : (m : Int) % 2 = 0 := by omega
      have b2 : (m : Int).tmod 2 = 0 := by rw [Int.tmod_eq_emod_of_nonneg (by omega)]; exact b1
      clear hm
      obtain ⟨s1, hs1e⟩ : ∃ x, s = x := ⟨_, rfl⟩
      have hs1 : s1.lt := by rw [← hs1e]; exact hslt
      have hsl1 := (step_M s1 v hs1).1
      rw [hs1e] at rA rB rC rD HS
      have hst : s1.step v = upTo (ladBF c v) (k + 1) s0 := by
       rw [upTo, ← HS.out, ladBF, if_neg]
       rw [HBIT.out]
       simp
       omega
      have HST := Lib.hid hst
      clear hs1e hst h1 hslt
      have pE : lE s1 < pB := Nat.mod_lt _ pB_pos
      have pF : lF s1 < pB := Nat.mod_lt _ pB_pos
      have pG : lG s1 < pB := Nat.mod_lt _ pB_pos
      have pH : lH s1 < pB := Nat.mod_lt _ pB_pos
      have pDD : lD s1 < pB := Nat.mod_lt _ pB_pos
      have pP1 : subB s1.w s1.t < pB := Nat.mod_lt _ pB_pos
      have pJ : lJ s1 < pB := Nat.mod_lt _ pB_pos
      have pP2 : (s1.w + s1.t) % pB < pB := Nat.mod_lt _ pB_pos
      have pK : lK s1 < pB := Nat.mod_lt _ pB_pos
      have pJK : (lJ s1 + lK s1) % pB < pB := Nat.mod_lt _ pB_pos
      have pWW : (s1.step v).w < pB := Nat.mod_lt _ pB_pos
      have pS : subB (lJ s1) (lK s1) < pB := Nat.mod_lt _ pB_pos
      have pSS : subB (lJ s1) (lK s1) * subB (lJ s1) (lK s1) % pB < pB := Nat.mod_lt _ pB_pos
      have pTT : (s1.step v).t < pB := Nat.mod_lt _ pB_pos
      have pXX : (s1.step v).x < pB := Nat.mod_lt _ pB_pos
      have pCD : 121665 * lD s1 % pB < pB := Nat.mod_lt _ pB_pos
      have pFC : (lF s1 + 121665 * lD s1 % pB) % pB < pB := Nat.mod_lt _ pB_pos
      have pZZ : (s1.step v).z < pB := Nat.mod_lt _ pB_pos
      obtain ⟨pX, pZ, pW, pT⟩ := hs1
      have pV := hvl
      have pCC : 121665 < pB := by decide +kernel
      have qX : s1.x < 256 ^ 32 := Nat.lt_trans pX pB_32
      have qZ : s1.z < 256 ^ 32 := Nat.lt_trans pZ pB_32
      have qW : s1.w < 256 ^ 32 := Nat.lt_trans pW pB_32
      have qT : s1.t < 256 ^ 32 := Nat.lt_trans pT pB_32
      have qV : v < 256 ^ 32 := Nat.lt_trans pV pB_32
      have qE : lE s1 < 256 ^ 32 := Nat.lt_trans pE pB_32
      have qF : lF s1 < 256 ^ 32 := Nat.lt_trans pF pB_32
      have qG : lG s1 < 256 ^ 32 := Nat.lt_trans pG pB_32
      have qH : lH s1 < 256 ^ 32 := Nat.lt_trans pH pB_32
      have qDD : lD s1 < 256 ^ 32 := Nat.lt_trans pDD pB_32
      have qP1 : subB s1.w s1.t < 256 ^ 32 := Nat.lt_trans pP1 pB_32
      have qJ : lJ s1 < 256 ^ 32 := Nat.lt_trans pJ pB_32
      have qP2 : (s1.w + s1.t) % pB < 256 ^ 32 := Nat.lt_trans pP2 pB_32
      have qK : lK s1 < 256 ^ 32 := Nat.lt_trans pK pB_32
      have qJK : (lJ s1 + lK s1) % pB < 256 ^ 32 := Nat.lt_trans pJK pB_32
      have qWW : (s1.step v).w < 256 ^ 32 := Nat.lt_trans pWW pB_32
      have qS : subB (lJ s1) (lK s1) < 256 ^ 32 := Nat.lt_trans pS pB_32
      have qSS : subB (lJ s1) (lK s1) * subB (lJ s1) (lK s1) % pB < 256 ^ 32 := Nat.lt_trans pSS pB_32
      have qTT : (s1.step v).t < 256 ^ 32 := Nat.lt_trans pTT pB_32
      have qXX : (s1.step v).x < 256 ^ 32 := Nat.lt_trans pXX pB_32
      have qCC : 121665 < 256 ^ 32 := Nat.lt_trans pCC pB_32
      have qCD : 121665 * lD s1 % pB < 256 ^ 32 := Nat.lt_trans pCD pB_32
      have qFC : (lF s1 + 121665 * lD s1 % pB) % pB < 256 ^ 32 := Nat.lt_trans pFC pB_32
      have qZZ : (s1.step v).z < 256 ^ 32 := Nat.lt_trans pZZ pB_32
      have cE : ∀ W', Calls Tryz.prog 66 #[.agg (n64s (digB (s1.x))).toArray, .agg (n64s (digB (s1.z))).toArray] W' fun e w' => e = .returned (.agg (n64s (digB (lE s1))).toArray) ∧ Below W'.heap.size W' w' := fun W' => plusG_any (s1.x) (s1.z) _ qX qZ
      have cF : ∀ W', Calls Tryz.prog 67 #[.agg (n64s (digB (lE s1))).toArray, .agg (n64s (digB (lE s1))).toArray] W' fun e w' => e = .returned (.agg (n64s (digB (lF s1))).toArray) ∧ Below W'.heap.size W' w' := fun W' => timesG_any (lE s1) (lE s1) _ qE qE
      have cG : ∀ W', Calls Tryz.prog 68 #[.agg (n64s (digB (s1.x))).toArray, .agg (n64s (digB (s1.z))).toArray] W' fun e w' => e = .returned (.agg (n64s (digB (lG s1))).toArray) ∧ Below W'.heap.size W' w' := fun W' => lessG_any (s1.x) (s1.z) _ qX qZ pZ pX
      have cH : ∀ W', Calls Tryz.prog 67 #[.agg (n64s (digB (lG s1))).toArray, .agg (n64s (digB (lG s1))).toArray] W' fun e w' => e = .returned (.agg (n64s (digB (lH s1))).toArray) ∧ Below W'.heap.size W' w' := fun W' => timesG_any (lG s1) (lG s1) _ qG qG
      have cDD : ∀ W', Calls Tryz.prog 68 #[.agg (n64s (digB (lF s1))).toArray, .agg (n64s (digB (lH s1))).toArray] W' fun e w' => e = .returned (.agg (n64s (digB (lD s1))).toArray) ∧ Below W'.heap.size W' w' := fun W' => lessG_any (lF s1) (lH s1) _ qF qH pH pF
      have cP1 : ∀ W', Calls Tryz.prog 68 #[.agg (n64s (digB (s1.w))).toArray, .agg (n64s (digB (s1.t))).toArray] W' fun e w' => e = .returned (.agg (n64s (digB (subB s1.w s1.t))).toArray) ∧ Below W'.heap.size W' w' := fun W' => lessG_any (s1.w) (s1.t) _ qW qT pT pW
      have cJ : ∀ W', Calls Tryz.prog 67 #[.agg (n64s (digB (subB s1.w s1.t))).toArray, .agg (n64s (digB (lE s1))).toArray] W' fun e w' => e = .returned (.agg (n64s (digB (lJ s1))).toArray) ∧ Below W'.heap.size W' w' := fun W' => timesG_any (subB s1.w s1.t) (lE s1) _ qP1 qE
      have cP2 : ∀ W', Calls Tryz.prog 66 #[.agg (n64s (digB (s1.w))).toArray, .agg (n64s (digB (s1.t))).toArray] W' fun e w' => e = .returned (.agg (n64s (digB ((s1.w + s1.t) % pB))).toArray) ∧ Below W'.heap.size W' w' := fun W' => plusG_any (s1.w) (s1.t) _ qW qT
      have cK : ∀ W', Calls Tryz.prog 67 #[.agg (n64s (digB ((s1.w + s1.t) % pB))).toArray, .agg (n64s (digB (lG s1))).toArray] W' fun e w' => e = .returned (.agg (n64s (digB (lK s1))).toArray) ∧ Below W'.heap.size W' w' := fun W' => timesG_any ((s1.w + s1.t) % pB) (lG s1) _ qP2 qG
      have cJK : ∀ W', Calls Tryz.prog 66 #[.agg (n64s (digB (lJ s1))).toArray, .agg (n64s (digB (lK s1))).toArray] W' fun e w' => e = .returned (.agg (n64s (digB ((lJ s1 + lK s1) % pB))).toArray) ∧ Below W'.heap.size W' w' := fun W' => plusG_any (lJ s1) (lK s1) _ qJ qK
      have cWW : ∀ W', Calls Tryz.prog 67 #[.agg (n64s (digB ((lJ s1 + lK s1) % pB))).toArray, .agg (n64s (digB ((lJ s1 + lK s1) % pB))).toArray] W' fun e w' => e = .returned (.agg (n64s (digB ((s1.step v).w))).toArray) ∧ Below W'.heap.size W' w' := fun W' => timesG_any ((lJ s1 + lK s1) % pB) ((lJ s1 + lK s1) % pB) _ qJK qJK
      have cS : ∀ W', Calls Tryz.prog 68 #[.agg (n64s (digB (lJ s1))).toArray, .agg (n64s (digB (lK s1))).toArray] W' fun e w' => e = .returned (.agg (n64s (digB (subB (lJ s1) (lK s1)))).toArray) ∧ Below W'.heap.size W' w' := fun W' => lessG_any (lJ s1) (lK s1) _ qJ qK pK pJ
      have cSS : ∀ W', Calls Tryz.prog 67 #[.agg (n64s (digB (subB (lJ s1) (lK s1)))).toArray, .agg (n64s (digB (subB (lJ s1) (lK s1)))).toArray] W' fun e w' => e = .returned (.agg (n64s (digB (subB (lJ s1) (lK s1) * subB (lJ s1) (lK s1) % pB))).toArray) ∧ Below W'.heap.size W' w' := fun W' => timesG_any (subB (lJ s1) (lK s1)) (subB (lJ s1) (lK s1)) _ qS qS
      have cTT : ∀ W', Calls Tryz.prog 67 #[.agg (n64s (digB (v))).toArray, .agg (n64s (digB (subB (lJ s1) (lK s1) * subB (lJ s1) (lK s1) % pB))).toArray] W' fun e w' => e = .returned (.agg (n64s (digB ((s1.step v).t))).toArray) ∧ Below W'.heap.size W' w' := fun W' => timesG_any (v) (subB (lJ s1) (lK s1) * subB (lJ s1) (lK s1) % pB) _ qV qSS
      have cXX : ∀ W', Calls Tryz.prog 67 #[.agg (n64s (digB (lF s1))).toArray, .agg (n64s (digB (lH s1))).toArray] W' fun e w' => e = .returned (.agg (n64s (digB ((s1.step v).x))).toArray) ∧ Below W'.heap.size W' w' := fun W' => timesG_any (lF s1) (lH s1) _ qF qH
      have cCD : ∀ W', Calls Tryz.prog 67 #[.agg (n64s (digB (121665))).toArray, .agg (n64s (digB (lD s1))).toArray] W' fun e w' => e = .returned (.agg (n64s (digB (121665 * lD s1 % pB))).toArray) ∧ Below W'.heap.size W' w' := fun W' => timesG_any (121665) (lD s1) _ qCC qDD
      have cFC : ∀ W', Calls Tryz.prog 66 #[.agg (n64s (digB (lF s1))).toArray, .agg (n64s (digB (121665 * lD s1 % pB))).toArray] W' fun e w' => e = .returned (.agg (n64s (digB ((lF s1 + 121665 * lD s1 % pB) % pB))).toArray) ∧ Below W'.heap.size W' w' := fun W' => plusG_any (lF s1) (121665 * lD s1 % pB) _ qF qCD
      have cZZ : ∀ W', Calls Tryz.prog 67 #[.agg (n64s (digB (lD s1))).toArray, .agg (n64s (digB ((lF s1 + 121665 * lD s1 % pB) % pB))).toArray] W' fun e w' => e = .returned (.agg (n64s (digB ((s1.step v).z))).toArray) ∧ Below W'.heap.size W' w' := fun W' => timesG_any (lD s1) ((lF s1 + 121665 * lD s1 % pB) % pB) _ qDD qFC
      have lenX := digB_length (s1.x)
      have lenZ := digB_length (s1.z)
      have lenW := digB_length (s1.w)
      have lenT := digB_length (s1.t)
      have lenV := digB_length (v)
      have lenE := digB_length (lE s1)
      have lenF := digB_length (lF s1)
      have lenG := digB_length (lG s1)
      have lenH := digB_length (lH s1)
      have lenDD := digB_length (lD s1)
      have lenP1 := digB_length (subB s1.w s1.t)
      have lenJ := digB_length (lJ s1)
      have lenP2 := digB_length ((s1.w + s1.t) % pB)
      have lenK := digB_length (lK s1)
      have lenJK := digB_length ((lJ s1 + lK s1) % pB)
      have lenWW := digB_length ((s1.step v).w)
      have lenS := digB_length (subB (lJ s1) (lK s1))
      have lenSS := digB_length (subB (lJ s1) (lK s1) * subB (lJ s1) (lK s1) % pB)
      have lenTT := digB_length ((s1.step v).t)
      have lenXX := digB_length ((s1.step v).x)
      have lenCC := digB_length (121665)
      have lenCD := digB_length (121665 * lD s1 % pB)
      have lenFC := digB_length ((lF s1 + 121665 * lD s1 % pB) % pB)
      have lenZZ := digB_length ((s1.step v).z)
      obtain ⟨DX, hX⟩ : ∃ x, digB (s1.x) = x := ⟨_, rfl⟩
      obtain ⟨DZ, hZ⟩ : ∃ x, digB (s1.z) = x := ⟨_, rfl⟩
      obtain ⟨DW, hW⟩ : ∃ x, digB (s1.w) = x := ⟨_, rfl⟩
      obtain ⟨DT, hT⟩ : ∃ x, digB (s1.t) = x := ⟨_, rfl⟩
      obtain ⟨DV, hV⟩ : ∃ x, digB (v) = x := ⟨_, rfl⟩
      obtain ⟨DE, hE⟩ : ∃ x, digB (lE s1) = x := ⟨_, rfl⟩
      obtain ⟨DF, hF⟩ : ∃ x, digB (lF s1) = x := ⟨_, rfl⟩
      obtain ⟨DG, hG⟩ : ∃ x, digB (lG s1) = x := ⟨_, rfl⟩
      obtain ⟨DH, hH⟩ : ∃ x, digB (lH s1) = x := ⟨_, rfl⟩
      obtain ⟨DDD, hDD⟩ : ∃ x, digB (lD s1) = x := ⟨_, rfl⟩
      obtain ⟨DP1, hP1⟩ : ∃ x, digB (subB s1.w s1.t) = x := ⟨_, rfl⟩
      obtain ⟨DJ, hJ⟩ : ∃ x, digB (lJ s1) = x := ⟨_, rfl⟩
      obtain ⟨DP2, hP2⟩ : ∃ x, digB ((s1.w + s1.t) % pB) = x := ⟨_, rfl⟩
      obtain ⟨DK, hK⟩ : ∃ x, digB (lK s1) = x := ⟨_, rfl⟩
      obtain ⟨DJK, hJK⟩ : ∃ x, digB ((lJ s1 + lK s1) % pB) = x := ⟨_, rfl⟩
      obtain ⟨DWW, hWW⟩ : ∃ x, digB ((s1.step v).w) = x := ⟨_, rfl⟩
      obtain ⟨DS, hS⟩ : ∃ x, digB (subB (lJ s1) (lK s1)) = x := ⟨_, rfl⟩
      obtain ⟨DSS, hSS⟩ : ∃ x, digB (subB (lJ s1) (lK s1) * subB (lJ s1) (lK s1) % pB) = x := ⟨_, rfl⟩
      obtain ⟨DTT, hTT⟩ : ∃ x, digB ((s1.step v).t) = x := ⟨_, rfl⟩
      obtain ⟨DXX, hXX⟩ : ∃ x, digB ((s1.step v).x) = x := ⟨_, rfl⟩
      obtain ⟨DCC, hCC⟩ : ∃ x, digB (121665) = x := ⟨_, rfl⟩
      obtain ⟨DCD, hCD⟩ : ∃ x, digB (121665 * lD s1 % pB) = x := ⟨_, rfl⟩
      obtain ⟨DFC, hFC⟩ : ∃ x, digB ((lF s1 + 121665 * lD s1 % pB) % pB) = x := ⟨_, rfl⟩
      obtain ⟨DZZ, hZZ⟩ : ∃ x, digB ((s1.step v).z) = x := ⟨_, rfl⟩
      simp only [hX, hZ, hW, hT, hV, hE, hF, hG, hH, hDD, hP1, hJ, hP2, hK, hJK, hWW, hS, hSS, hTT, hXX, hCC, hCD, hFC, hZZ] at cE cF cG cH cDD cP1 cJ cP2 cK cJK cWW cS cSS cTT cXX cCD cFC cZZ lenX lenZ lenW lenT lenV lenE lenF lenG lenH lenDD lenP1 lenJ lenP2 lenK lenJK lenWW lenS lenSS lenTT lenXX lenCC lenCD lenFC lenZZ rA rB rC rD
      have HX := Lib.hid hX
      have HZ := Lib.hid hZ
      have HW := Lib.hid hW
      have HT := Lib.hid hT
      have HV := Lib.hid hV
      have HE := Lib.hid hE
      have HF := Lib.hid hF
      have HG := Lib.hid hG
      have HH := Lib.hid hH
      have HDD := Lib.hid hDD
      have HP1 := Lib.hid hP1
      have HJ := Lib.hid hJ
      have HP2 := Lib.hid hP2
      have HK := Lib.hid hK
      have HJK := Lib.hid hJK
      have HWW := Lib.hid hWW
      have HS := Lib.hid hS
      have HSS := Lib.hid hSS
      have HTT := Lib.hid hTT
      have HXX := Lib.hid hXX
      have HCC := Lib.hid hCC
      have HCD := Lib.hid hCD
      have HFC := Lib.hid hFC
      have HZZ := Lib.hid hZZ
      have KE := Lib.hid cE
      have KF := Lib.hid cF
      have KG := Lib.hid cG
      have KH := Lib.hid cH
      have KDD := Lib.hid cDD
      have KP1 := Lib.hid cP1
      have KJ := Lib.hid cJ
      have KP2 := Lib.hid cP2
      have KK := Lib.hid cK
      have KJK := Lib.hid cJK
      have KWW := Lib.hid cWW
      have KS := Lib.hid cS
      have KSS := Lib.hid cSS
      have KTT := Lib.hid cTT
      have KXX := Lib.hid cXX
      have KCD := Lib.hid cCD
      have KFC := Lib.hid cFC
      have KZZ := Lib.hid cZZ
      have hcst : (Value.int .i64 65 :: (Value.int .i64 219 :: (Value.int .i64 1 :: (zeros 30 (Value.int .i64 0)).tail))) = n64s DCC := by rw [← HCC.out]; exact cst_cells
      have eV : DV = dv := by rw [← HV.out, HDV.out]
      rw [eV] at KTT
      clear cE cF cG cH cDD cP1 cJ cP2 cK cJK cWW cS cSS cTT cXX cCD cFC cZZ hX hZ hW hT hV hE hF hG hH hDD hP1 hJ hP2 hK hJK hWW hS hSS hTT hXX hCC hCD hFC hZZ pX pZ pW pT pV pE pF pG pH pDD pP1 pJ pP2 pK pJK pWW pS pSS pTT pXX pCC pCD pFC pZZ qX qZ qW qT qV qE qF qG qH qDD qP1 qJ qP2 qK qJK qWW qS qSS qTT qXX qCC qCD qFC qZZ
      go_wp2_with fail
      (with_reducible refine (KE.out _).mono ?_)
      rintro e t1 ⟨rfl, b1⟩
      have y1 := b1.size
      replace rA : row t1 A = (n64s DX).toArray := (row_below b1 (by omega)).trans rA
      replace rB : row t1 B = (n64s DZ).toArray := (row_below b1 (by omega)).trans rB
      replace rC : row t1 C = (n64s DW).toArray := (row_below b1 (by omega)).trans rC
      replace rD : row t1 D = (n64s DT).toArray := (row_below b1 (by omega)).trans rD
      replace rU : row t1 U = (n64s dv).toArray := (row_below b1 (by omega)).trans rU
      replace rN : row t1 (w.heap.size + 1 + 1 + 1) = (u8s c).toArray := (row_below b1 (by omega)).trans rN
      replace rR : row t1 (w.heap.size + 1 + 1) = (zeros 32 (Value.int .u8 0)).toArray := (row_below b1 (by omega)).trans rR
      replace bb : Below w.heap.size w t1 := bb.trans (b1.mono (by omega))
      obtain ⟨v1, hv1⟩ : ∃ x, t1.alloc (.cells (n64s DE).toArray 120) = x := ⟨_, rfl⟩
      have rE : row v1 t1.heap.size = (n64s DE).toArray := by rw [← hv1]; exact row_alloc_at _ _ _ rfl
      have f1 : Below t1.heap.size t1 v1 := by rw [← hv1]; exact Below.alloc (Below.refl _ _) (Nat.le_refl _) _
      have x1 : v1.heap.size = t1.heap.size + 1 := by rw [← hv1, alloc_sizeW]
      have gg : w5.heap.size ≤ t1.heap.size := by omega
      replace rA : row v1 A = (n64s DX).toArray := (row_below f1 (by omega)).trans rA
      replace rB : row v1 B = (n64s DZ).toArray := (row_below f1 (by omega)).trans rB
      replace rC : row v1 C = (n64s DW).toArray := (row_below f1 (by omega)).trans rC
      replace rD : row v1 D = (n64s DT).toArray := (row_below f1 (by omega)).trans rD
      replace rU : row v1 U = (n64s dv).toArray := (row_below f1 (by omega)).trans rU
      replace rN : row v1 (w.heap.size + 1 + 1 + 1) = (u8s c).toArray := (row_below f1 (by omega)).trans rN
      replace rR : row v1 (w.heap.size + 1 + 1) = (zeros 32 (Value.int .u8 0)).toArray := (row_below f1 (by omega)).trans rR
      replace bb : Below w.heap.size w v1 := bb.trans (f1.mono (by omega))
      replace zz : w5.heap.size ≤ v1.heap.size := by omega
      clear b1 f1
      go_wp2_with fail
      obtain ⟨BE, aE⟩ : ∃ x, t1.heap.size = x := ⟨_, rfl⟩
      rw [aE] at rE x1 gg ⊢
      have gE : w5.heap.size ≤ BE := gg
      clear hv1 gg
      (with_reducible refine (KF.out _).mono ?_)
      rintro e t2 ⟨rfl, b2⟩
      have y2 := b2.size
      replace rA : row t2 A = (n64s DX).toArray := (row_below b2 (by omega)).trans rA
      replace rB : row t2 B = (n64s DZ).toArray := (row_below b2 (by omega)).trans rB
      replace rC : row t2 C = (n64s DW).toArray := (row_below b2 (by omega)).trans rC
      replace rD : row t2 D = (n64s DT).toArray := (row_below b2 (by omega)).trans rD
      replace rU : row t2 U = (n64s dv).toArray := (row_below b2 (by omega)).trans rU
      replace rN : row t2 (w.heap.size + 1 + 1 + 1) = (u8s c).toArray := (row_below b2 (by omega)).trans rN
      replace rR : row t2 (w.heap.size + 1 + 1) = (zeros 32 (Value.int .u8 0)).toArray := (row_below b2 (by omega)).trans rR
      replace rE : row t2 BE = (n64s DE).toArray := (row_below b2 (by omega)).trans rE
      replace bb : Below w.heap.size w t2 := bb.trans (b2.mono (by omega))
      obtain ⟨v2, hv2⟩ : ∃ x, t2.alloc (.cells (n64s DF).toArray 120) = x := ⟨_, rfl⟩
      have rF : row v2 t2.heap.size = (n64s DF).toArray := by rw [← hv2]; exact row_alloc_at _ _ _ rfl
      have f2 : Below t2.heap.size t2 v2 := by rw [← hv2]; exact Below.alloc (Below.refl _ _) (Nat.le_refl _) _
      have x2 : v2.heap.size = t2.heap.size + 1 := by rw [← hv2, alloc_sizeW]
      have gg : w5.heap.size ≤ t2.heap.size := by omega
      replace rA : row v2 A = (n64s DX).toArray := (row_below f2 (by omega)).trans rA
      replace rB : row v2 B = (n64s DZ).toArray := (row_below f2 (by omega)).trans rB
      replace rC : row v2 C = (n64s DW).toArray := (row_below f2 (by omega)).trans rC
      replace rD : row v2 D = (n64s DT).toArray := (row_below f2 (by omega)).trans rD
      replace rU : row v2 U = (n64s dv).toArray := (row_below f2 (by omega)).trans rU
      replace rN : row v2 (w.heap.size + 1 + 1 + 1) = (u8s c).toArray := (row_below f2 (by omega)).trans rN
      replace rR : row v2 (w.heap.size + 1 + 1) = (zeros 32 (Value.int .u8 0)).toArray := (row_below f2 (by omega)).trans rR
      replace rE : row v2 BE = (n64s DE).toArray := (row_below f2 (by omega)).trans rE
      replace bb : Below w.heap.size w v2 := bb.trans (f2.mono (by omega))
      replace zz : w5.heap.size ≤ v2.heap.size := by omega
      clear b2 f2
      go_wp2_with fail
      obtain ⟨BF, aF⟩ : ∃ x, t2.heap.size = x := ⟨_, rfl⟩
      rw [aF] at rF x2 gg ⊢
      have gF : w5.heap.size ≤ BF := gg
      clear hv2 gg
      (with_reducible refine (KG.out _).mono ?_)
      rintro e t3 ⟨rfl, b3⟩
      have y3 := b3.size
      replace rA : row t3 A = (n64s DX).toArray := (row_below b3 (by omega)).trans rA
      replace rB : row t3 B = (n64s DZ).toArray := (row_below b3 (by omega)).trans rB
      replace rC : row t3 C = (n64s DW).toArray := (row_below b3 (by omega)).trans rC
      replace rD : row t3 D = (n64s DT).toArray := (row_below b3 (by omega)).trans rD
      replace rU : row t3 U = (n64s dv).toArray := (row_below b3 (by omega)).trans rU
      replace rN : row t3 (w.heap.size + 1 + 1 + 1) = (u8s c).toArray := (row_below b3 (by omega)).trans rN
      replace rR : row t3 (w.heap.size + 1 + 1) = (zeros 32 (Value.int .u8 0)).toArray := (row_below b3 (by omega)).trans rR
      replace rE : row t3 BE = (n64s DE).toArray := (row_below b3 (by omega)).trans rE
      replace rF : row t3 BF = (n64s DF).toArray := (row_below b3 (by omega)).trans rF
      replace bb : Below w.heap.size w t3 := bb.trans (b3.mono (by omega))
      obtain ⟨v3, hv3⟩ : ∃ x, t3.alloc (.cells (n64s DG).toArray 120) = x := ⟨_, rfl⟩
      have rG : row v3 t3.heap.size = (n64s DG).toArray := by rw [← hv3]; exact row_alloc_at _ _ _ rfl
      have f3 : Below t3.heap.size t3 v3 := by rw [← hv3]; exact Below.alloc (Below.refl _ _) (Nat.le_refl _) _
      have x3 : v3.heap.size = t3.heap.size + 1 := by rw [← hv3, alloc_sizeW]
      have gg : w5.heap.size ≤ t3.heap.size := by omega
      replace rA : row v3 A = (n64s DX).toArray := (row_below f3 (by omega)).trans rA
      replace rB : row v3 B = (n64s DZ).toArray := (row_below f3 (by omega)).trans rB
      replace rC : row v3 C = (n64s DW).toArray := (row_below f3 (by omega)).trans rC
      replace rD : row v3 D = (n64s DT).toArray := (row_below f3 (by omega)).trans rD
      replace rU : row v3 U = (n64s dv).toArray := (row_below f3 (by omega)).trans rU
      replace rN : row v3 (w.heap.size + 1 + 1 + 1) = (u8s c).toArray := (row_below f3 (by omega)).trans rN
      replace rR : row v3 (w.heap.size + 1 + 1) = (zeros 32 (Value.int .u8 0)).toArray := (row_below f3 (by omega)).trans rR
      replace rE : row v3 BE = (n64s DE).toArray := (row_below f3 (by omega)).trans rE
      replace rF : row v3 BF = (n64s DF).toArray := (row_below f3 (by omega)).trans rF
      replace bb : Below w.heap.size w v3 := bb.trans (f3.mono (by omega))
      replace zz : w5.heap.size ≤ v3.heap.size := by omega
      clear b3 f3
      go_wp2_with fail
      obtain ⟨BG, aG⟩ : ∃ x, t3.heap.size = x := ⟨_, rfl⟩
      rw [aG] at rG x3 gg ⊢
      have gG : w5.heap.size ≤ BG := gg
      clear hv3 gg
      (with_reducible refine (KH.out _).mono ?_)
      rintro e t4 ⟨rfl, b4⟩
      have y4 := b4.size
      replace rA : row t4 A = (n64s DX).toArray := (row_below b4 (by omega)).trans rA
      replace rB : row t4 B = (n64s DZ).toArray := (row_below b4 (by omega)).trans rB
      replace rC : row t4 C = (n64s DW).toArray := (row_below b4 (by omega)).trans rC
      replace rD : row t4 D = (n64s DT).toArray := (row_below b4 (by omega)).trans rD
      replace rU : row t4 U = (n64s dv).toArray := (row_below b4 (by omega)).trans rU
      replace rN : row t4 (w.heap.size + 1 + 1 + 1) = (u8s c).toArray := (row_below b4 (by omega)).trans rN
      replace rR : row t4 (w.heap.size + 1 + 1) = (zeros 32 (Value.int .u8 0)).toArray := (row_below b4 (by omega)).trans rR
      replace rE : row t4 BE = (n64s DE).toArray := (row_below b4 (by omega)).trans rE
      replace rF : row t4 BF = (n64s DF).toArray := (row_below b4 (by omega)).trans rF
      replace rG : row t4 BG = (n64s DG).toArray := (row_below b4 (by omega)).trans rG
      replace bb : Below w.heap.size w t4 := bb.trans (b4.mono (by omega))
      obtain ⟨v4, hv4⟩ : ∃ x, t4.alloc (.cells (n64s DH).toArray 120) = x := ⟨_, rfl⟩
      have rH : row v4 t4.heap.size = (n64s DH).toArray := by rw [← hv4]; exact row_alloc_at _ _ _ rfl
      have f4 : Below t4.heap.size t4 v4 := by rw [← hv4]; exact Below.alloc (Below.refl _ _) (Nat.le_refl _) _
      have x4 : v4.heap.size = t4.heap.size + 1 := by rw [← hv4, alloc_sizeW]
      have gg : w5.heap.size ≤ t4.heap.size := by omega
      replace rA : row v4 A = (n64s DX).toArray := (row_below f4 (by omega)).trans rA
      replace rB : row v4 B = (n64s DZ).toArray := (row_below f4 (by omega)).trans rB
      replace rC : row v4 C = (n64s DW).toArray := (row_below f4 (by omega)).trans rC
      replace rD : row v4 D = (n64s DT).toArray := (row_below f4 (by omega)).trans rD
      replace rU : row v4 U = (n64s dv).toArray := (row_below f4 (by omega)).trans rU
      replace rN : row v4 (w.heap.size + 1 + 1 + 1) = (u8s c).toArray := (row_below f4 (by omega)).trans rN
      replace rR : row v4 (w.heap.size + 1 + 1) = (zeros 32 (Value.int .u8 0)).toArray := (row_below f4 (by omega)).trans rR
      replace rE : row v4 BE = (n64s DE).toArray := (row_below f4 (by omega)).trans rE
      replace rF : row v4 BF = (n64s DF).toArray := (row_below f4 (by omega)).trans rF
      replace rG : row v4 BG = (n64s DG).toArray := (row_below f4 (by omega)).trans rG
      replace bb : Below w.heap.size w v4 := bb.trans (f4.mono (by omega))
      replace zz : w5.heap.size ≤ v4.heap.size := by omega
      clear b4 f4
      go_wp2_with fail
      obtain ⟨BH, aH⟩ : ∃ x, t4.heap.size = x := ⟨_, rfl⟩
      rw [aH] at rH x4 gg ⊢
      have gH : w5.heap.size ≤ BH := gg
      clear hv4 gg
      (with_reducible refine (KDD.out _).mono ?_)
      rintro e t5 ⟨rfl, b5⟩
      have y5 := b5.size
      replace rA : row t5 A = (n64s DX).toArray := (row_below b5 (by omega)).trans rA
      replace rB : row t5 B = (n64s DZ).toArray := (row_below b5 (by omega)).trans rB
      replace rC : row t5 C = (n64s DW).toArray := (row_below b5 (by omega)).trans rC
      replace rD : row t5 D = (n64s DT).toArray := (row_below b5 (by omega)).trans rD
      replace rU : row t5 U = (n64s dv).toArray := (row_below b5 (by omega)).trans rU
      replace rN : row t5 (w.heap.size + 1 + 1 + 1) = (u8s c).toArray := (row_below b5 (by omega)).trans rN
      replace rR : row t5 (w.heap.size + 1 + 1) = (zeros 32 (Value.int .u8 0)).toArray := (row_below b5 (by omega)).trans rR
      replace rE : row t5 BE = (n64s DE).toArray := (row_below b5 (by omega)).trans rE
      replace rF : row t5 BF = (n64s DF).toArray := (row_below b5 (by omega)).trans rF
      replace rG : row t5 BG = (n64s DG).toArray := (row_below b5 (by omega)).trans rG
      replace rH : row t5 BH = (n64s DH).toArray := (row_below b5 (by omega)).trans rH
      replace bb : Below w.heap.size w t5 := bb.trans (b5.mono (by omega))
      obtain ⟨v5, hv5⟩ : ∃ x, t5.alloc (.cells (n64s DDD).toArray 120) = x := ⟨_, rfl⟩
      have rDD : row v5 t5.heap.size = (n64s DDD).toArray := by rw [← hv5]; exact row_alloc_at _ _ _ rfl
      have f5 : Below t5.heap.size t5 v5 := by rw [← hv5]; exact Below.alloc (Below.refl _ _) (Nat.le_refl _) _
      have x5 : v5.heap.size = t5.heap.size + 1 := by rw [← hv5, alloc_sizeW]
      have gg : w5.heap.size ≤ t5.heap.size := by omega
      replace rA : row v5 A = (n64s DX).toArray := (row_below f5 (by omega)).trans rA
      replace rB : row v5 B = (n64s DZ).toArray := (row_below f5 (by omega)).trans rB
      replace rC : row v5 C = (n64s DW).toArray := (row_below f5 (by omega)).trans rC
      replace rD : row v5 D = (n64s DT).toArray := (row_below f5 (by omega)).trans rD
      replace rU : row v5 U = (n64s dv).toArray := (row_below f5 (by omega)).trans rU
      replace rN : row v5 (w.heap.size + 1 + 1 + 1) = (u8s c).toArray := (row_below f5 (by omega)).trans rN
      replace rR : row v5 (w.heap.size + 1 + 1) = (zeros 32 (Value.int .u8 0)).toArray := (row_below f5 (by omega)).trans rR
      replace rE : row v5 BE = (n64s DE).toArray := (row_below f5 (by omega)).trans rE
      replace rF : row v5 BF = (n64s DF).toArray := (row_below f5 (by omega)).trans rF
      replace rG : row v5 BG = (n64s DG).toArray := (row_below f5 (by omega)).trans rG
      replace rH : row v5 BH = (n64s DH).toArray := (row_below f5 (by omega)).trans rH
      replace bb : Below w.heap.size w v5 := bb.trans (f5.mono (by omega))
      replace zz : w5.heap.size ≤ v5.heap.size := by omega
      clear b5 f5
      go_wp2_with fail
      obtain ⟨BDD, aDD⟩ : ∃ x, t5.heap.size = x := ⟨_, rfl⟩
      rw [aDD] at rDD x5 gg ⊢
      have gDD : w5.heap.size ≤ BDD := gg
      clear hv5 gg
      refine wp_region_beginR [(C, (n64s DW).toArray), (D, (n64s DT).toArray), (BE, (n64s DE).toArray)] rfl (by simp only [Rws]; (repeat (first | exact trivial | refine ⟨(by first | assumption | (simp [go_sem, *]; done)), (by first | omega | (simp; done) | (simp; omega)), ?_⟩))) (fun hS => ?_)
      refine qp 0 hS ?_
      refine qp 1 hS ?_
      refine qp 3 hS ?_
      refine qc 2 (v := ?_) hS ?_ ?_
      rotate_left
      ·
       intro w' hS'
       simp only [Rws] at hS'
       go_simp
       with_reducible refine (KP1.out _).mono ?_
       rintro e w'' ⟨rfl, hb⟩
       exact ⟨_, rfl, by rfl, hb⟩
      refine qc 4 (v := ?_) hS ?_ ?_
      rotate_left
      ·
       intro w' hS'
       simp only [Rws] at hS'
       go_simp
       with_reducible refine (KJ.out _).mono ?_
       rintro e w'' ⟨rfl, hb⟩
       exact ⟨_, rfl, by rfl, hb⟩
      refine wpAnyR_single (i := 5) (k := 6) (zi := (zeros 32 (Value.int .i64 0)).toArray) (cA := (n64s DJ).toArray) (by simp only [List.getElem?_toArray, List.getElem?_cons_succ, List.getElem?_cons_zero]; rfl) (by simp only [List.getElem?_toArray, List.getElem?_cons_succ, List.getElem?_cons_zero]; rfl) ⟨rfl, rfl, fun a w => by go_simp; (refine ⟨?_, ?_⟩ <;> rfl)⟩ (by kernel_rfl) (by kernel_rfl) (by kernel_rfl) rfl rfl (by simp [*]) (by simp) (by simp; (try omega)) (fun A w1 hr => by
       simp only [Act.put, List.setIfInBounds_toArray, List.set_cons_zero, List.set_cons_succ, ptr]
       go_simp
       try rfl) hS (fun BJ v6 gBJ zBJ b6 rBJ => ?_)
      (try simp only [Act.put, List.setIfInBounds_toArray, List.set_cons_zero, List.set_cons_succ])
      replace gBJ : (v5).heap.size ≤ BJ := gBJ
      replace b6 : Below (v5).heap.size v5 v6 := Below.trans (Below.drew (Below.refl _ _)) b6
      have zv6 := (b6).size
      simp only [ptr]
      clear hS
      have rJ := rBJ
      replace rA : row v6 A = (n64s DX).toArray := (row_below b6 (by omega)).trans rA
      replace rB : row v6 B = (n64s DZ).toArray := (row_below b6 (by omega)).trans rB
      replace rC : row v6 C = (n64s DW).toArray := (row_below b6 (by omega)).trans rC
      replace rD : row v6 D = (n64s DT).toArray := (row_below b6 (by omega)).trans rD
      replace rU : row v6 U = (n64s dv).toArray := (row_below b6 (by omega)).trans rU
      replace rN : row v6 (w.heap.size + 1 + 1 + 1) = (u8s c).toArray := (row_below b6 (by omega)).trans rN
      replace rR : row v6 (w.heap.size + 1 + 1) = (zeros 32 (Value.int .u8 0)).toArray := (row_below b6 (by omega)).trans rR
      replace rE : row v6 BE = (n64s DE).toArray := (row_below b6 (by omega)).trans rE
      replace rF : row v6 BF = (n64s DF).toArray := (row_below b6 (by omega)).trans rF
      replace rG : row v6 BG = (n64s DG).toArray := (row_below b6 (by omega)).trans rG
      replace rH : row v6 BH = (n64s DH).toArray := (row_below b6 (by omega)).trans rH
      replace rDD : row v6 BDD = (n64s DDD).toArray := (row_below b6 (by omega)).trans rDD
      replace bb : Below w.heap.size w v6 := bb.trans (b6.mono (by omega))
      replace zz : w5.heap.size ≤ v6.heap.size := by have := b6.size; omega
      have gJ : w5.heap.size ≤ BJ := by omega
      clear b6
      go_wp2_with fail
      refine wp_region_beginR [(C, (n64s DW).toArray), (D, (n64s DT).toArray), (BG, (n64s DG).toArray)] rfl (by simp only [Rws]; (repeat (first | exact trivial | refine ⟨(by first | assumption | (simp [go_sem, *]; done)), (by first | omega | (simp; done) | (simp; omega)), ?_⟩))) (fun hS => ?_)
      refine qp 0 hS ?_
      refine qp 1 hS ?_
      refine qp 3 hS ?_
      refine qc 2 (v := ?_) hS ?_ ?_
      rotate_left
      ·
       intro w' hS'
       simp only [Rws] at hS'
       go_simp
       with_reducible refine (KP2.out _).mono ?_
       rintro e w'' ⟨rfl, hb⟩
       exact ⟨_, rfl, by rfl, hb⟩
      refine qc 4 (v := ?_) hS ?_ ?_
      rotate_left
      ·
       intro w' hS'
       simp only [Rws] at hS'
       go_simp
       with_reducible refine (KK.out _).mono ?_
       rintro e w'' ⟨rfl, hb⟩
       exact ⟨_, rfl, by rfl, hb⟩
      refine wpAnyR_single (i := 5) (k := 6) (zi := (zeros 32 (Value.int .i64 0)).toArray) (cA := (n64s DK).toArray) (by simp only [List.getElem?_toArray, List.getElem?_cons_succ, List.getElem?_cons_zero]; rfl) (by simp only [List.getElem?_toArray, List.getElem?_cons_succ, List.getElem?_cons_zero]; rfl) ⟨rfl, rfl, fun a w => by go_simp; (refine ⟨?_, ?_⟩ <;> rfl)⟩ (by kernel_rfl) (by kernel_rfl) (by kernel_rfl) rfl rfl (by simp [*]) (by simp) (by simp; (try omega)) (fun A w1 hr => by
       simp only [Act.put, List.setIfInBounds_toArray, List.set_cons_zero, List.set_cons_succ, ptr]
       go_simp
       try rfl) hS (fun BK v7 gBK zBK b7 rBK => ?_)
      (try simp only [Act.put, List.setIfInBounds_toArray, List.set_cons_zero, List.set_cons_succ])
      replace gBK : (v6).heap.size ≤ BK := gBK
      replace b7 : Below (v6).heap.size v6 v7 := Below.trans (Below.drew (Below.refl _ _)) b7
      have zv7 := (b7).size
      simp only [ptr]
      clear hS
      have rK := rBK
      replace rA : row v7 A = (n64s DX).toArray := (row_below b7 (by omega)).trans rA
      replace rB : row v7 B = (n64s DZ).toArray := (row_below b7 (by omega)).trans rB
      replace rC : row v7 C = (n64s DW).toArray := (row_below b7 (by omega)).trans rC
      replace rD : row v7 D = (n64s DT).toArray := (row_below b7 (by omega)).trans rD
      replace rU : row v7 U = (n64s dv).toArray := (row_below b7 (by omega)).trans rU
      replace rN : row v7 (w.heap.size + 1 + 1 + 1) = (u8s c).toArray := (row_below b7 (by omega)).trans rN
      replace rR : row v7 (w.heap.size + 1 + 1) = (zeros 32 (Value.int .u8 0)).toArray := (row_below b7 (by omega)).trans rR
      replace rE : row v7 BE = (n64s DE).toArray := (row_below b7 (by omega)).trans rE
      replace rF : row v7 BF = (n64s DF).toArray := (row_below b7 (by omega)).trans rF
      replace rG : row v7 BG = (n64s DG).toArray := (row_below b7 (by omega)).trans rG
      replace rH : row v7 BH = (n64s DH).toArray := (row_below b7 (by omega)).trans rH
      replace rDD : row v7 BDD = (n64s DDD).toArray := (row_below b7 (by omega)).trans rDD
      replace rJ : row v7 BJ = (n64s DJ).toArray := (row_below b7 (by omega)).trans rJ
      replace bb : Below w.heap.size w v7 := bb.trans (b7.mono (by omega))
      replace zz : w5.heap.size ≤ v7.heap.size := by have := b7.size; omega
      have gK : w5.heap.size ≤ BK := by omega
      clear b7
      go_wp2_with fail
      refine wp_region_beginR [(BJ, (n64s DJ).toArray), (BK, (n64s DK).toArray)] rfl (by simp only [Rws]; (repeat (first | exact trivial | refine ⟨(by first | assumption | (simp [go_sem, *]; done)), (by first | omega | (simp; done) | (simp; omega)), ?_⟩))) (fun hS => ?_)
      refine qp 0 hS ?_
      refine qp 1 hS ?_
      refine qp 3 hS ?_
      refine qp 4 hS ?_
      refine qc 2 (v := ?_) hS ?_ ?_
      rotate_left
      ·
       intro w' hS'
       simp only [Rws] at hS'
       go_simp
       with_reducible refine (KJK.out _).mono ?_
       rintro e w'' ⟨rfl, hb⟩
       exact ⟨_, rfl, by rfl, hb⟩
      refine qc 5 (v := ?_) hS ?_ ?_
      rotate_left
      ·
       intro w' hS'
       simp only [Rws] at hS'
       go_simp
       with_reducible refine (KJK.out _).mono ?_
       rintro e w'' ⟨rfl, hb⟩
       exact ⟨_, rfl, by rfl, hb⟩
      refine qc 6 (v := ?_) hS ?_ ?_
      rotate_left
      ·
       intro w' hS'
       simp only [Rws] at hS'
       go_simp
       with_reducible refine (KWW.out _).mono ?_
       rintro e w'' ⟨rfl, hb⟩
       exact ⟨_, rfl, by rfl, hb⟩
      have rd : row v7.drew C = (n64s DW).toArray := rC
      refine wpAnyR_store (i := 7) (b := C) (c := (n64s DWW).toArray) (by simp only [List.getElem?_toArray, List.getElem?_cons_succ, List.getElem?_cons_zero]; rfl) rfl rfl (by kernel_rfl) (by simp; (try omega)) hS (by rw [rd]; simp; (try omega)) (fun w1 hr => by rw [rd] at hr; go_simp; (try rfl)) (fun u8 hu8 ru8 hS => ?_)
      have yu : v7.heap.size ≤ u8.heap.size := hu8.size
      have cu := below_step (Below.drew (Below.refl _ _)) hu8
      refine wpAnyR_done (by kernel_rfl) (fun v8 b8 => ?_) _
      have yb := b8.size
      rw [setRow_size] at yb
      have zk8 : v7.heap.size ≤ v8.heap.size := by omega
      replace rA : row v8 A = (n64s DX).toArray := by rw [row_below b8 (by rw [setRow_size]; omega), row_setRow_other _ _ _ (by omega), row_below cu (by omega)]; exact rA
      replace rB : row v8 B = (n64s DZ).toArray := by rw [row_below b8 (by rw [setRow_size]; omega), row_setRow_other _ _ _ (by omega), row_below cu (by omega)]; exact rB
      replace rC : row v8 C = (n64s DWW).toArray := by rw [row_below b8 (by rw [setRow_size]; omega)]; exact row_setRow_same (by rw [ru8, rd]; simp; omega) (by rw [ru8, rd]; simp; omega)
      replace rD : row v8 D = (n64s DT).toArray := by rw [row_below b8 (by rw [setRow_size]; omega), row_setRow_other _ _ _ (by omega), row_below cu (by omega)]; exact rD
      replace rU : row v8 U = (n64s dv).toArray := by rw [row_below b8 (by rw [setRow_size]; omega), row_setRow_other _ _ _ (by omega), row_below cu (by omega)]; exact rU
      replace rN : row v8 (w.heap.size + 1 + 1 + 1) = (u8s c).toArray := by rw [row_below b8 (by rw [setRow_size]; omega), row_setRow_other _ _ _ (by omega), row_below cu (by omega)]; exact rN
      replace rR : row v8 (w.heap.size + 1 + 1) = (zeros 32 (Value.int .u8 0)).toArray := by rw [row_below b8 (by rw [setRow_size]; omega), row_setRow_other _ _ _ (by omega), row_below cu (by omega)]; exact rR
      replace rE : row v8 BE = (n64s DE).toArray := by rw [row_below b8 (by rw [setRow_size]; omega), row_setRow_other _ _ _ (by omega), row_below cu (by omega)]; exact rE
      replace rF : row v8 BF = (n64s DF).toArray := by rw [row_below b8 (by rw [setRow_size]; omega), row_setRow_other _ _ _ (by omega), row_below cu (by omega)]; exact rF
      replace rG : row v8 BG = (n64s DG).toArray := by rw [row_below b8 (by rw [setRow_size]; omega), row_setRow_other _ _ _ (by omega), row_below cu (by omega)]; exact rG
      replace rH : row v8 BH = (n64s DH).toArray := by rw [row_below b8 (by rw [setRow_size]; omega), row_setRow_other _ _ _ (by omega), row_below cu (by omega)]; exact rH
      replace rDD : row v8 BDD = (n64s DDD).toArray := by rw [row_below b8 (by rw [setRow_size]; omega), row_setRow_other _ _ _ (by omega), row_below cu (by omega)]; exact rDD
      replace rJ : row v8 BJ = (n64s DJ).toArray := by rw [row_below b8 (by rw [setRow_size]; omega), row_setRow_other _ _ _ (by omega), row_below cu (by omega)]; exact rJ
      replace rK : row v8 BK = (n64s DK).toArray := by rw [row_below b8 (by rw [setRow_size]; omega), row_setRow_other _ _ _ (by omega), row_below cu (by omega)]; exact rK
      replace bb : Below w.heap.size w v8 := Below.trans (Below.setRow (Below.trans bb (cu.mono (by omega))) (by omega) _) (b8.mono (by rw [setRow_size]; omega))
      replace zz : w5.heap.size ≤ v8.heap.size := by omega
      clear rd hu8 cu b8 ru8 hS yu yb
      go_wp2_with fail
      refine wp_region_beginR [(U, (n64s dv).toArray), (BJ, (n64s DJ).toArray), (BK, (n64s DK).toArray)] rfl (by simp only [Rws]; (repeat (first | exact trivial | refine ⟨(by first | assumption | (simp [go_sem, *]; done)), (by first | omega | (simp; done) | (simp; omega)), ?_⟩))) (fun hS => ?_)
      refine qp 0 hS ?_
      refine qp 1 hS ?_
      refine qp 2 hS ?_
      refine qp 4 hS ?_
      refine qp 5 hS ?_
      refine qc 3 (v := ?_) hS ?_ ?_
      rotate_left
      ·
       intro w' hS'
       simp only [Rws] at hS'
       go_simp
       with_reducible refine (KS.out _).mono ?_
       rintro e w'' ⟨rfl, hb⟩
       exact ⟨_, rfl, by rfl, hb⟩
      refine qc 6 (v := ?_) hS ?_ ?_
      rotate_left
      ·
       intro w' hS'
       simp only [Rws] at hS'
       go_simp
       with_reducible refine (KS.out _).mono ?_
       rintro e w'' ⟨rfl, hb⟩
       exact ⟨_, rfl, by rfl, hb⟩
      refine qc 7 (v := ?_) hS ?_ ?_
      rotate_left
      ·
       intro w' hS'
       simp only [Rws] at hS'
       go_simp
       with_reducible refine (KSS.out _).mono ?_
       rintro e w'' ⟨rfl, hb⟩
       exact ⟨_, rfl, by rfl, hb⟩
      refine qc 8 (v := ?_) hS ?_ ?_
      rotate_left
      ·
       intro w' hS'
       simp only [Rws] at hS'
       go_simp
       with_reducible refine (KTT.out _).mono ?_
       rintro e w'' ⟨rfl, hb⟩
       exact ⟨_, rfl, by rfl, hb⟩
      have rd : row v8.drew D = (n64s DT).toArray := rD
      refine wpAnyR_store (i := 9) (b := D) (c := (n64s DTT).toArray) (by simp only [List.getElem?_toArray, List.getElem?_cons_succ, List.getElem?_cons_zero]; rfl) rfl rfl (by kernel_rfl) (by simp; (try omega)) hS (by rw [rd]; simp; (try omega)) (fun w1 hr => by rw [rd] at hr; go_simp; (try rfl)) (fun u9 hu9 ru9 hS => ?_)
      have yu : v8.heap.size ≤ u9.heap.size := hu9.size
      have cu := below_step (Below.drew (Below.refl _ _)) hu9
      refine wpAnyR_done (by kernel_rfl) (fun v9 b9 => ?_) _
      have yb := b9.size
      rw [setRow_size] at yb
      have zk9 : v8.heap.size ≤ v9.heap.size := by omega
      replace rA : row v9 A = (n64s DX).toArray := by rw [row_below b9 (by rw [setRow_size]; omega), row_setRow_other _ _ _ (by omega), row_below cu (by omega)]; exact rA
      replace rB : row v9 B = (n64s DZ).toArray := by rw [row_below b9 (by rw [setRow_size]; omega), row_setRow_other _ _ _ (by omega), row_below cu (by omega)]; exact rB
      replace rC : row v9 C = (n64s DWW).toArray := by rw [row_below b9 (by rw [setRow_size]; omega), row_setRow_other _ _ _ (by omega), row_below cu (by omega)]; exact rC
      replace rD : row v9 D = (n64s DTT).toArray := by rw [row_below b9 (by rw [setRow_size]; omega)]; exact row_setRow_same (by rw [ru9, rd]; simp; omega) (by rw [ru9, rd]; simp; omega)
      replace rU : row v9 U = (n64s dv).toArray := by rw [row_below b9 (by rw [setRow_size]; omega), row_setRow_other _ _ _ (by omega), row_below cu (by omega)]; exact rU
      replace rN : row v9 (w.heap.size + 1 + 1 + 1) = (u8s c).toArray := by rw [row_below b9 (by rw [setRow_size]; omega), row_setRow_other _ _ _ (by omega), row_below cu (by omega)]; exact rN
      replace rR : row v9 (w.heap.size + 1 + 1) = (zeros 32 (Value.int .u8 0)).toArray := by rw [row_below b9 (by rw [setRow_size]; omega), row_setRow_other _ _ _ (by omega), row_below cu (by omega)]; exact rR
      replace rE : row v9 BE = (n64s DE).toArray := by rw [row_below b9 (by rw [setRow_size]; omega), row_setRow_other _ _ _ (by omega), row_below cu (by omega)]; exact rE
      replace rF : row v9 BF = (n64s DF).toArray := by rw [row_below b9 (by rw [setRow_size]; omega), row_setRow_other _ _ _ (by omega), row_below cu (by omega)]; exact rF
      replace rG : row v9 BG = (n64s DG).toArray := by rw [row_below b9 (by rw [setRow_size]; omega), row_setRow_other _ _ _ (by omega), row_below cu (by omega)]; exact rG
      replace rH : row v9 BH = (n64s DH).toArray := by rw [row_below b9 (by rw [setRow_size]; omega), row_setRow_other _ _ _ (by omega), row_below cu (by omega)]; exact rH
      replace rDD : row v9 BDD = (n64s DDD).toArray := by rw [row_below b9 (by rw [setRow_size]; omega), row_setRow_other _ _ _ (by omega), row_below cu (by omega)]; exact rDD
      replace rJ : row v9 BJ = (n64s DJ).toArray := by rw [row_below b9 (by rw [setRow_size]; omega), row_setRow_other _ _ _ (by omega), row_below cu (by omega)]; exact rJ
      replace rK : row v9 BK = (n64s DK).toArray := by rw [row_below b9 (by rw [setRow_size]; omega), row_setRow_other _ _ _ (by omega), row_below cu (by omega)]; exact rK
      replace bb : Below w.heap.size w v9 := Below.trans (Below.setRow (Below.trans bb (cu.mono (by omega))) (by omega) _) (b9.mono (by rw [setRow_size]; omega))
      replace zz : w5.heap.size ≤ v9.heap.size := by omega
      clear rd hu9 cu b9 ru9 hS yu yb
      go_wp2_with fail
      (with_reducible refine (KXX.out _).mono ?_)
      rintro e t10 ⟨rfl, b10⟩
      have y10 := b10.size
      replace rA : row t10 A = (n64s DX).toArray := (row_below b10 (by omega)).trans rA
      replace rB : row t10 B = (n64s DZ).toArray := (row_below b10 (by omega)).trans rB
      replace rC : row t10 C = (n64s DWW).toArray := (row_below b10 (by omega)).trans rC
      replace rD : row t10 D = (n64s DTT).toArray := (row_below b10 (by omega)).trans rD
      replace rU : row t10 U = (n64s dv).toArray := (row_below b10 (by omega)).trans rU
      replace rN : row t10 (w.heap.size + 1 + 1 + 1) = (u8s c).toArray := (row_below b10 (by omega)).trans rN
      replace rR : row t10 (w.heap.size + 1 + 1) = (zeros 32 (Value.int .u8 0)).toArray := (row_below b10 (by omega)).trans rR
      replace rE : row t10 BE = (n64s DE).toArray := (row_below b10 (by omega)).trans rE
      replace rF : row t10 BF = (n64s DF).toArray := (row_below b10 (by omega)).trans rF
      replace rG : row t10 BG = (n64s DG).toArray := (row_below b10 (by omega)).trans rG
      replace rH : row t10 BH = (n64s DH).toArray := (row_below b10 (by omega)).trans rH
      replace rDD : row t10 BDD = (n64s DDD).toArray := (row_below b10 (by omega)).trans rDD
      replace rJ : row t10 BJ = (n64s DJ).toArray := (row_below b10 (by omega)).trans rJ
      replace rK : row t10 BK = (n64s DK).toArray := (row_below b10 (by omega)).trans rK
      replace bb : Below w.heap.size w t10 := bb.trans (b10.mono (by omega))
      have rA0 := rA
      obtain ⟨v10, hv10⟩ : ∃ x, t10.setRow A (n64s DXX).toArray = x := ⟨_, rfl⟩
      have x10 : v10.heap.size = t10.heap.size := by rw [← hv10, setRow_size]
      replace rA : row v10 A = (n64s DXX).toArray := by rw [← hv10]; exact row_setRow_same (by rw [rA]; simp; omega) (by rw [rA]; simp; omega)
      replace rB : row v10 B = (n64s DZ).toArray := by rw [← hv10, row_setRow_other _ _ _ (by omega)]; exact rB
      replace rC : row v10 C = (n64s DWW).toArray := by rw [← hv10, row_setRow_other _ _ _ (by omega)]; exact rC
      replace rD : row v10 D = (n64s DTT).toArray := by rw [← hv10, row_setRow_other _ _ _ (by omega)]; exact rD
      replace rU : row v10 U = (n64s dv).toArray := by rw [← hv10, row_setRow_other _ _ _ (by omega)]; exact rU
      replace rN : row v10 (w.heap.size + 1 + 1 + 1) = (u8s c).toArray := by rw [← hv10, row_setRow_other _ _ _ (by omega)]; exact rN
      replace rR : row v10 (w.heap.size + 1 + 1) = (zeros 32 (Value.int .u8 0)).toArray := by rw [← hv10, row_setRow_other _ _ _ (by omega)]; exact rR
      replace rE : row v10 BE = (n64s DE).toArray := by rw [← hv10, row_setRow_other _ _ _ (by omega)]; exact rE
      replace rF : row v10 BF = (n64s DF).toArray := by rw [← hv10, row_setRow_other _ _ _ (by omega)]; exact rF
      replace rG : row v10 BG = (n64s DG).toArray := by rw [← hv10, row_setRow_other _ _ _ (by omega)]; exact rG
      replace rH : row v10 BH = (n64s DH).toArray := by rw [← hv10, row_setRow_other _ _ _ (by omega)]; exact rH
      replace rDD : row v10 BDD = (n64s DDD).toArray := by rw [← hv10, row_setRow_other _ _ _ (by omega)]; exact rDD
      replace rJ : row v10 BJ = (n64s DJ).toArray := by rw [← hv10, row_setRow_other _ _ _ (by omega)]; exact rJ
      replace rK : row v10 BK = (n64s DK).toArray := by rw [← hv10, row_setRow_other _ _ _ (by omega)]; exact rK
      replace bb : Below w.heap.size w v10 := by rw [← hv10]; exact Below.setRow bb (by omega) _
      replace zz : w5.heap.size ≤ v10.heap.size := by omega
      clear b10
      go_wp2_with fail
      clear hv10 rA0
      refine wp_region_beginR [(BDD, (n64s DDD).toArray), (BF, (n64s DF).toArray)] rfl (by simp only [Rws]; (repeat (first | exact trivial | refine ⟨(by first | assumption | (simp [go_sem, *]; done)), (by first | omega | (simp; done) | (simp; omega)), ?_⟩))) (fun hS => ?_)
      refine qp 0 hS ?_
      refine qp 1 hS ?_
      refine qp 2 hS ?_
      refine qp 3 hS ?_
      refine qc 4 (v := ?_) hS ?_ ?_
      rotate_left
      ·
       intro w' hS'
       simp only [Rws] at hS'
       go_simp
       with_reducible refine (KCD.out _).mono ?_
       rintro e w'' ⟨rfl, hb⟩
       exact ⟨_, rfl, by rfl, hb⟩
      refine qc 5 (v := ?_) hS ?_ ?_
      rotate_left
      ·
       intro w' hS'
       simp only [Rws] at hS'
       go_simp
       with_reducible refine (KFC.out _).mono ?_
       rintro e w'' ⟨rfl, hb⟩
       exact ⟨_, rfl, by rfl, hb⟩
      refine qc 6 (v := ?_) hS ?_ ?_
      rotate_left
      ·
       intro w' hS'
       simp only [Rws] at hS'
       go_simp
       with_reducible refine (KZZ.out _).mono ?_
       rintro e w'' ⟨rfl, hb⟩
       exact ⟨_, rfl, by rfl, hb⟩
      have rd : row v10.drew B = (n64s DZ).toArray := rB
      refine wpAnyR_store (i := 7) (b := B) (c := (n64s DZZ).toArray) (by simp only [List.getElem?_toArray, List.getElem?_cons_succ, List.getElem?_cons_zero]; rfl) rfl rfl (by kernel_rfl) (by simp; (try omega)) hS (by rw [rd]; simp; (try omega)) (fun w1 hr => by rw [rd] at hr; go_simp; (try rfl)) (fun u11 hu11 ru11 hS => ?_)
      have yu : v10.heap.size ≤ u11.heap.size := hu11.size
      have cu := below_step (Below.drew (Below.refl _ _)) hu11
      refine wpAnyR_done (by kernel_rfl) (fun v11 b11 => ?_) _
      have yb := b11.size
      rw [setRow_size] at yb
      have zk11 : v10.heap.size ≤ v11.heap.size := by omega
      replace rA : row v11 A = (n64s DXX).toArray := by rw [row_below b11 (by rw [setRow_size]; omega), row_setRow_other _ _ _ (by omega), row_below cu (by omega)]; exact rA
      replace rB : row v11 B = (n64s DZZ).toArray := by rw [row_below b11 (by rw [setRow_size]; omega)]; exact row_setRow_same (by rw [ru11, rd]; simp; omega) (by rw [ru11, rd]; simp; omega)
      replace rC : row v11 C = (n64s DWW).toArray := by rw [row_below b11 (by rw [setRow_size]; omega), row_setRow_other _ _ _ (by omega), row_below cu (by omega)]; exact rC
      replace rD : row v11 D = (n64s DTT).toArray := by rw [row_below b11 (by rw [setRow_size]; omega), row_setRow_other _ _ _ (by omega), row_below cu (by omega)]; exact rD
      replace rU : row v11 U = (n64s dv).toArray := by rw [row_below b11 (by rw [setRow_size]; omega), row_setRow_other _ _ _ (by omega), row_below cu (by omega)]; exact rU
      replace rN : row v11 (w.heap.size + 1 + 1 + 1) = (u8s c).toArray := by rw [row_below b11 (by rw [setRow_size]; omega), row_setRow_other _ _ _ (by omega), row_below cu (by omega)]; exact rN
      replace rR : row v11 (w.heap.size + 1 + 1) = (zeros 32 (Value.int .u8 0)).toArray := by rw [row_below b11 (by rw [setRow_size]; omega), row_setRow_other _ _ _ (by omega), row_below cu (by omega)]; exact rR
      replace rE : row v11 BE = (n64s DE).toArray := by rw [row_below b11 (by rw [setRow_size]; omega), row_setRow_other _ _ _ (by omega), row_below cu (by omega)]; exact rE
      replace rF : row v11 BF = (n64s DF).toArray := by rw [row_below b11 (by rw [setRow_size]; omega), row_setRow_other _ _ _ (by omega), row_below cu (by omega)]; exact rF
      replace rG : row v11 BG = (n64s DG).toArray := by rw [row_below b11 (by rw [setRow_size]; omega), row_setRow_other _ _ _ (by omega), row_below cu (by omega)]; exact rG
      replace rH : row v11 BH = (n64s DH).toArray := by rw [row_below b11 (by rw [setRow_size]; omega), row_setRow_other _ _ _ (by omega), row_below cu (by omega)]; exact rH
      replace rDD : row v11 BDD = (n64s DDD).toArray := by rw [row_below b11 (by rw [setRow_size]; omega), row_setRow_other _ _ _ (by omega), row_below cu (by omega)]; exact rDD
      replace rJ : row v11 BJ = (n64s DJ).toArray := by rw [row_below b11 (by rw [setRow_size]; omega), row_setRow_other _ _ _ (by omega), row_below cu (by omega)]; exact rJ
      replace rK : row v11 BK = (n64s DK).toArray := by rw [row_below b11 (by rw [setRow_size]; omega), row_setRow_other _ _ _ (by omega), row_below cu (by omega)]; exact rK
      replace bb : Below w.heap.size w v11 := Below.trans (Below.setRow (Below.trans bb (cu.mono (by omega))) (by omega) _) (b11.mono (by rw [setRow_size]; omega))
      replace zz : w5.heap.size ≤ v11.heap.size := by omega
      clear rd hu11 cu b11 ru11 hS yu yb
      go_wp2_with fail
      go_roundw
      case rel => exact ⟨k + 1, s1.step v, by omega, by have := HB.out; congr 1; omega, HST.out, by rw [HXX.out]; exact rA, by rw [HZZ.out]; exact rB, by rw [HWW.out]; exact rC, by rw [HTT.out]; exact rD, rU, rN, rR, zz, bb⟩
      case measure => simp [intOf]
  ·
   obtain rfl : k = 255 := by omega
   have hsl : ladB c v = s := HLAD.out.trans hs.symm
   have kI : ¬ ((0 : Int) ≤ 254 - ((255 : Nat) : Int)) := by omega
   obtain ⟨px, pz, pw, pt⟩ := hslt
   obtain ⟨zi, hzi⟩ : ∃ x, s.z ^ eB 255 % pB = x := ⟨_, rfl⟩
   have pzi : zi < pB := by rw [← hzi]; exact Nat.mod_lt _ pB_pos
   obtain ⟨r, hr⟩ : ∃ x, s.x * zi % pB = x := ⟨_, rfl⟩
   have K1 := fun W' => invG_any s.z W' (Nat.lt_trans pz pB_32)
   have K2 := fun W' => timesG_any s.x zi W' (Nat.lt_trans px pB_32) (Nat.lt_trans pzi pB_32)
   have K3 := fun W' => keyG_any r W'
   rw [hzi] at K1
   rw [hr] at K2
   have hres : kB ((ladB c v).x * ((ladB c v).z ^ eB 255 % pB) % pB) = kB r := by rw [hsl, hzi, hr]
   obtain ⟨RR, hRR⟩ : ∃ x, kB r = x := ⟨_, rfl⟩
   have lR : RR.length = 32 := by rw [← hRR]; exact kB_length r
   rw [hRR] at K3 hres
   have HRES := Lib.hid hres
   have lX := digB_length s.x
   have lZ := digB_length s.z
   obtain ⟨DX, hX⟩ : ∃ x, digB s.x = x := ⟨_, rfl⟩
   obtain ⟨DZ, hZ⟩ : ∃ x, digB s.z = x := ⟨_, rfl⟩
   rw [hX] at rA lX K2
   rw [hZ] at rB lZ K1
   obtain ⟨DI, hI⟩ : ∃ x, digB zi = x := ⟨_, rfl⟩
   obtain ⟨DR, hR⟩ : ∃ x, digB r = x := ⟨_, rfl⟩
   rw [hI] at K1 K2
   rw [hR] at K2 K3
   have KK1 := Lib.hid K1
   have KK2 := Lib.hid K2
   have KK3 := Lib.hid K3
   clear K1 K2 K3 hres hsl hs hzi hr hRR hX hZ hI hR rC rD rU rN hk
   go_wp2_with fail
   refine wp_region_beginR [(A, (n64s DX).toArray), (B, (n64s DZ).toArray)] rfl (by simp only [Rws]; (repeat (first | exact trivial | refine ⟨(by first | assumption | (simp [go_sem, *]; done)), (by first | omega | (simp; done) | (simp; omega)), ?_⟩))) (fun hS => ?_)
   refine qp 0 hS ?_
   refine qp 1 hS ?_
   refine qc 2 (v := ?_) hS ?_ ?_
   rotate_left
   ·
    intro w' hS'
    simp only [Rws] at hS'
    go_simp
    with_reducible refine (KK1.out _).mono ?_
    rintro e w'' ⟨rfl, hb⟩
    exact ⟨_, rfl, by rfl, hb⟩
   refine qc 3 (v := ?_) hS ?_ ?_
   rotate_left
   ·
    intro w' hS'
    simp only [Rws] at hS'
    go_simp
    with_reducible refine (KK2.out _).mono ?_
    rintro e w'' ⟨rfl, hb⟩
    exact ⟨_, rfl, by rfl, hb⟩
   refine qc 4 (v := ?_) hS ?_ ?_
   rotate_left
   ·
    intro w' hS'
    simp only [Rws] at hS'
    go_simp
    with_reducible refine (KK3.out _).mono ?_
    rintro e w'' ⟨rfl, hb⟩
    exact ⟨_, rfl, by rfl, hb⟩
   have rd : row wr.drew (w.heap.size + 1 + 1) = (zeros 32 (Value.int .u8 0)).toArray := rR
   refine wpAnyR_store (i := 5) (b := (w.heap.size + 1 + 1)) (c := (u8s RR).toArray) (by simp only [List.getElem?_toArray, List.getElem?_cons_succ, List.getElem?_cons_zero]; rfl) rfl rfl (by kernel_rfl) (by simp; (try omega)) hS (by rw [rd]; simp; (try omega)) (fun w1 hr => by rw [rd] at hr; go_simp; (try rfl)) (fun u6 hu6 ru6 hS => ?_)
   have yu : wr.heap.size ≤ u6.heap.size := hu6.size
   have cu := below_step (Below.drew (Below.refl _ _)) hu6
   refine wpAnyR_done (by kernel_rfl) (fun w6 b6 => ?_) _
   have yb := b6.size
   rw [setRow_size] at yb
   replace rR : row w6 (w.heap.size + 1 + 1) = (u8s RR).toArray := by rw [row_below b6 (by rw [setRow_size]; omega)]; exact row_setRow_same (by rw [ru6, rd]; simp) (by rw [ru6, rd]; simp [lR])
   replace bb : Below w.heap.size w w6 := Below.trans (Below.setRow (Below.trans bb (cu.mono (by omega))) (by omega) _) (b6.mono (by rw [setRow_size]; omega))
   clear rd hu6 cu b6 ru6 hS yu yb
   go_wp2_with fail
   (try simp only [Exit.inBlock, Exit.then])
   refine bodyPost_ret (results_1 rfl (resOk_row rfl ?_)) rfl ?_
   ·
    rw [rR]
    simp [lR]
   exact ⟨by rw [rR, HRES.out], bb⟩
end Go.Proofs.YtakkicppgkmokaaGreat
