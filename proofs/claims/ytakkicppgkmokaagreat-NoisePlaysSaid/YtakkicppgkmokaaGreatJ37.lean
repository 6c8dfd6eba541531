/- Texts of this proof, merged: SrR, SrC. -/
import Derived.Test.YtakkicppgkmokaaGreatJ36
import Derived.Test.YtakkicppgkmokaaGreatJ10
import Derived.Test.YtakkicppgkmokaaGreatSrPJ
set_option linter.unusedSimpArgs false
set_option linter.unusedVariables false
set_option maxRecDepth 4000
namespace Go.Proofs.YtakkicppgkmokaaGreat
section
open Go.RowKit
theorem two_wrap (k c : Nat) (hk : k < c) (hc : c ≤ 37) : IntKind.i64.wrap (2 * ((2 ^ k : Nat) : Int)) = ((2 ^ (k + 1) : Nat) : Int) ∧ wrap64 (2 * ((2 ^ k : Nat) : Int)) = ((2 ^ (k + 1) : Nat) : Int) := by
 have h : 2 ^ k ≤ 2 ^ 37 := Nat.pow_le_pow_right (by decide) (by omega)
 rw [show (2 : Nat) ^ 37 = 137438953472 from rfl] at h
 rw [Nat.pow_succ]
 exact ⟨wrapN _ _ (by omega) (by omega), by unfold wrap64; omega⟩
theorem sum_wrap (x c : Nat) (h : x + 2 ^ c * 2 ≤ 274877906944) : IntKind.i64.wrap (((2 ^ c : Nat) : Int) + (x : Int)) = ((x + 2 ^ c : Nat) : Int) ∧ wrap64 (((2 ^ c : Nat) : Int) + (x : Int)) = ((x + 2 ^ c : Nat) : Int) ∧ x + 2 ^ c < 549755813888 ∧ x < 140737488355328 := by
 have := Nat.two_pow_pos c
 exact ⟨wrapN _ _ (by omega) (by omega), by unfold wrap64; omega, by omega, by omega⟩
set_option maxRecDepth 20000 in
set_option maxHeartbeats 4000000 in
theorem root01_any (n q : Nat) (w : World) (hn : n ≤ 1000) (hq : q ≤ 3) :
  Calls Tryz.prog 125 #[.int .i64 n, .int .i64 q] w fun e w' => e = .returned (.int .u32 (rootI (fitsB q n))) ∧ Below w.heap.size w w' := by
 have jn : (n : Int) ≤ 1000 := by omega
 have jq : (q : Int) ≤ 3 := by omega
 obtain ⟨f, hf⟩ : ∃ f, fitsB q n = f := ⟨_, rfl⟩
 have HF0 := fun x w (hx : x < 549755813888) => fits01_any x n q w hx hn hq
 simp only [hf] at HF0
 have HF := Lib.hid HF0
 rw [hf]
 clear HF0 hf
 go_enter Tryz.func125, Tryz.ntmps125
 go_wp2_with fail
 go_loopw [5, 6] (fun x b wr => ∃ i : Nat, i ≤ 38 ∧ x = .int .i64 (rX f i) ∧ b = .int .i64 (37 - (i : Int)) ∧ Below w.heap.size w wr) (fun _ b _ => (intOf b + 1).toNat)
 case atStart => exact ⟨0, by omega, by rw [rX_zero]; rfl, rfl, Below.refl _ _⟩
 case round =>
  obtain ⟨i, hi, rfl, rfl, hbel⟩ := hrel
  have hsz := hbel.size
  obtain ⟨h1, h2⟩ := rX_le f i hi
  have hs := Lib.hid (rX_succ f i)
  obtain ⟨x, hx⟩ : ∃ x, rX f i = x := ⟨_, rfl⟩
  rw [hx] at h1 hs ⊢
  have HX := Lib.hid hx
  clear hx h2
  by_cases hlt : i < 38
  ·
   obtain ⟨c, hc⟩ : ∃ c, 37 - i = c := ⟨_, rfl⟩
   have e1 : (37 : Int) - (i : Int) = (c : Int) := by omega
   rw [hc] at hs
   rw [show 38 - i = c + 1 by omega, Nat.pow_succ] at h1
   have hc1 : (c : Int) ≤ 37 := by omega
   have hc2 : c ≤ 37 := by omega
   have H1 := Lib.hid h1
   rw [e1]
   have HCI : (37 : Int) - ((i + 1 : Nat) : Int) = (c : Int) - 1 := by omega
   have HCI2 := Lib.hid HCI
   have HE1 := Lib.hid e1
   clear h1 hc e1 HCI
   go_wp2_with fail
   go_loopw [7, 8] (fun y j wq => ∃ k : Nat, k ≤ c ∧ j = .int .i64 k ∧ y = .int .i64 ((2 ^ k : Nat) : Int) ∧ wq = wr) (fun _ j _ => c - (intOf j).toNat)
   case atStart => exact ⟨0, by omega, rfl, rfl, rfl⟩
   case round =>
    obtain ⟨k, hk, rfl, rfl, rfl⟩ := hrel
    by_cases hk2 : k < c
    ·
     have hkI : (k : Int) < (c : Int) := by omega
     obtain ⟨t1, t2⟩ := two_wrap k c hk2 hc2
     obtain ⟨P, hP⟩ : ∃ P, (2 ^ k : Nat) = P := ⟨_, rfl⟩
     obtain ⟨P2, hP2⟩ : ∃ P, (2 ^ (k + 1) : Nat) = P := ⟨_, rfl⟩
     rw [hP, hP2] at t1 t2
     rw [hP]
     have HP2 := Lib.hid hP2
     clear hP hP2
     go_wp2_with fail
     go_roundw
     case rel => exact ⟨k + 1, by omega, rfl, by rw [HP2.out], by first | rfl | trivial⟩
     case measure => simp [intOf]; omega
    ·
     obtain rfl : k = c := by omega
     obtain ⟨t1, t2, t3, t4⟩ := sum_wrap x k H1.out
     have HC := Lib.hid (HF.out (x + 2 ^ k) wr t3)
     obtain ⟨y, hy⟩ : ∃ y, x + 2 ^ k = y := ⟨_, rfl⟩
     rw [hy] at t1 t2 HC hs
     obtain ⟨P, hP⟩ : ∃ P, (2 ^ k : Nat) = P := ⟨_, rfl⟩
     rw [hP] at t1 t2 ⊢
     obtain ⟨b, hb⟩ : ∃ b, f y = b := ⟨_, rfl⟩
     rw [hb] at HC hs
     have HS := Lib.hid hs
     clear hy hP hb hs t3 t4
     go_wp2_with fail
     (with_reducible refine (HC.out).mono ?_)
     rintro e w2 ⟨rfl, b2⟩
     have hd : IntKind.i64.wrap ((k : Int) - 1) = (k : Int) - 1 := by rw [IntKind.wrap_i64]; omega
     cases b
     ·
      go_wp2_with fail
      go_roundw
      case rel => exact ⟨i + 1, by omega, by rw [HS.out]; rfl, by rw [HCI2.out], hbel.trans (b2.mono hsz)⟩
      case measure => simp [intOf]
     ·
      go_wp2_with fail
      go_roundw
      case rel => exact ⟨i + 1, by omega, by rw [HS.out]; rfl, by rw [HCI2.out], hbel.trans (b2.mono hsz)⟩
      case measure => simp [intOf]
  ·
   obtain rfl : i = 38 := by omega
   rw [show (37 : Int) - ((38 : Nat) : Int) = -1 by decide]
   obtain ⟨r, hr⟩ : ∃ r, x % 4294967296 = r := ⟨_, rfl⟩
   have HR : rootI f = (r : Int) := by rw [rootI, HX.out, hr]
   have e1 : (x : Int) % 4294967296 = (r : Int) := by omega
   have e2 : (x : Int).tmod 4294967296 = (r : Int) := by rw [Int.tmod_eq_emod_of_nonneg (by omega)]; exact e1
   have e3 : IntKind.u32.wrap (r : Int) = (r : Int) := by rw [IntKind.wrap_u32]; omega
   have HRR := Lib.hid HR
   clear h1 hs hr HR
   go_wp2_with fail
   go_ret
   exact ⟨by rw [HRR.out]; rfl, hbel⟩
end
section
open Go.RowKit
theorem roots2 : ∀ p ∈ pL 18, rootI (fitsB 2 p) = rootI (less2 p) := by decide +kernel
theorem roots3 : ∀ p ∈ pL 310, rootI (fitsB 3 p) = rootI (less3 p) := by decide +kernel
theorem rt_congr (r r' : Nat → Int) (ps : List Nat) (h : ∀ p ∈ ps, r p = r' p) (n : Nat) (hn : n ≤ ps.length) (l : List Int) : upTo (rtF r ps) n l = upTo (rtF r' ps) n l := by
 induction n with
 | zero => rfl
 | succ n ih =>
  have hp : n < ps.length := by omega
  rw [upTo, upTo, ih (by omega), rtF, rtF, getD_at _ _ hp, h _ (List.getElem_mem hp)]
theorem r01constants_eq : upTo (rtF (fun p => rootI (fitsB 3 p)) (pL 310)) 64 (List.replicate 64 0) = shconstantsL := rt_congr _ _ _ roots3 64 (by rw [shconstants_len]; omega) _
theorem r01first_eq : upTo (rtF (fun p => rootI (fitsB 2 p)) (pL 18)) 8 (List.replicate 8 0) = shfirstL := rt_congr _ _ _ roots2 8 (by rw [shfirst_len]; omega) _
attribute [local irreducible] pL fitsB shconstantsL shfirstL
set_option maxRecDepth 20000 in
set_option maxHeartbeats 2000000 in
theorem r01constants_any (w : World) :
  Calls Tryz.prog 98 #[] w fun e w' => e = .returned (.agg (u32s shconstantsL).toArray) ∧ Below w.heap.size w w' := by
 have HP := Lib.hid (fun w => primes01_any 64 310 w (by omega) (by omega) shconstants_low shconstants_len)
 have hlen := shconstants_len
 have hmem := pL_mem 310
 have hkl := shconstantsL_length
 obtain ⟨K, hK⟩ : ∃ K, shconstantsL = K := ⟨_, rfl⟩
 have hK2 : upTo (rtF (fun p => rootI (fitsB 3 p)) (pL 310)) 64 (List.replicate 64 0) = K := by rw [← hK]; exact r01constants_eq
 rw [hK] at hkl ⊢
 obtain ⟨ps, hps⟩ : ∃ ps, pL 310 = ps := ⟨_, rfl⟩
 rw [hps] at HP hlen hmem hK2
 obtain ⟨r, hr⟩ : ∃ r : Nat → Int, (fun p => rootI (fitsB 3 p)) = r := ⟨_, rfl⟩
 have hroot : ∀ (p : Nat) (w : World), p ≤ 1000 → Calls Tryz.prog 125 #[.int .i64 p, .int .i64 3] w fun e w' => e = .returned (.int .u32 (r p)) ∧ Below w.heap.size w w' := fun p w hp => by
  rw [← hr]
  exact root01_any p 3 w hp (by omega)
 rw [hr] at hK2
 have HK := Lib.hid hK2
 have HR := Lib.hid hroot
 have HM := Lib.hid hmem
 clear hr hps hK hK2 hroot hmem
 go_enter Tryz.func98, Tryz.ntmps98
 go_wp2_with fail
 refine (HP.out _).mono ?_
 rintro e w1 ⟨v, rfl, own, b1⟩
 have rV1 : row w1 (w.heap.size + 1) = (zeros 64 (.int .u32 0)).toArray := by rw [row_below b1 (by simp)]; simp [go_sem]
 have rR1 : row w1 w.heap.size = (zeros 64 (.int .u32 0)).toArray := by rw [row_below b1 (by simp; omega)]; simp [go_sem]
 have hz1 : w.heap.size + 1 < w1.heap.size := by have := b1.size; simp at this; omega
 replace b1 := below_of b1 (show Below (w).heap.size w _ from by (repeat (first | exact Below.refl _ _ | refine Below.al ?_ _ | refine Below.drew ?_ | refine Below.sr ?_ _ | refine Below.sc ?_ _))) (by first | (simp; done) | (simp; omega) | omega)
 obtain ⟨q, c, rfl, hq⟩ := own.form
 rw [n64s_length, hlen] at hq ⊢
 obtain ⟨g, s, rfl, hg1, hg2, hr⟩ := hq (by omega)
 have hgne : w.heap.size + 1 < g := by simp at hg1; omega
 clear hq own HP
 go_wp2_with fail
 go_loopw [3] (fun i wr => ∃ m : Nat, m ≤ 64 ∧ i = .int .i64 m ∧ row wr (w.heap.size + 1) = (u32s (upTo (rtF r ps) m (List.replicate 64 0))).toArray ∧ row wr w.heap.size = (zeros 64 (.int .u32 0)).toArray ∧ row wr g = (n64s ps ++ s).toArray ∧ w1.heap.size ≤ wr.heap.size ∧ Below w.heap.size w wr) (fun i _ => 64 - (intOf i).toNat)
 case atStart =>
  refine ⟨0, by omega, rfl, ?_, rR1, hr, Nat.le_refl _, b1⟩
  rw [upTo, u32s_zeros]
  exact rV1
 case round =>
  clear rV1 rR1 hr b1
  obtain ⟨m, hm, rfl, hV, hR, hr, hz, hbel⟩ := hrel
  obtain ⟨L, hL⟩ : ∃ L, upTo (rtF r ps) m (List.replicate 64 0) = L := ⟨_, rfl⟩
  have hLl : L.length = 64 := by rw [← hL, upTo_len (rtF_length _ _)]; simp
  rw [hL] at hV
  have HL := Lib.hid hL
  clear hL
  by_cases hlt : m < 64
  ·
   have h1 : (m : Int) < 64 := by omega
   have h3 : m < L.length := by omega
   have h4 : m < ps.length := by omega
   obtain ⟨x, hx⟩ : ∃ x, ps[m] = x := ⟨_, rfl⟩
   have ux : m < ps.length + s.length := by omega
   have ux2 : m < 64 + s.length := by omega
   have tx : (n64s ps ++ s)[m]'(by simp; omega) = .int .i64 (x : Int) := by rw [List.getElem_append_left (by simpa using h4), n64s_get, hx]
   have hx2 := HM.out x (by rw [← hx]; exact List.getElem_mem _)
   have HX := Lib.hid (show ps.getD m 0 = x by rw [getD_at _ _ h4]; exact hx)
   have hC := Lib.hid (fun w => HR.out x w (by omega))
   clear hx hx2
   go_wp2_with fail
   refine (hC.out _).mono ?_
   rintro e w2 ⟨rfl, b2⟩
   have z2 := b2.size
   have hV2 := (row_below b2 (by omega)).trans hV
   have hR2 := (row_below b2 (by omega)).trans hR
   have hr2 := (row_below b2 (by omega)).trans hr
   have hb2 : Below w.heap.size w w2 := Below.trans hbel (b2.mono (by omega))
   clear b2 hC
   go_wp2_with fail
   go_roundw
   case rel =>
    refine ⟨m + 1, by omega, rfl, ?_, by (try show row (World.setRow _ _ _) _ = _); rw [row_setRow_other _ _ _ (by omega)]; exact hR2, by (try show row (World.setRow _ _ _) _ = _); rw [row_setRow_other _ _ _ (by omega)]; exact hr2, by simp; omega, Below.setRow hb2 (by omega) _⟩
    rw [upTo, HL.out, rtF, HX.out]
    exact row_setRow_same (by rw [hV2]; simp; omega) (by rw [hV2]; simp)
   case measure => simp [intOf]; omega
  ·
   obtain rfl : m = 64 := by omega
   rw [show ((64 : Nat) : Int) = 64 from rfl]
   have e : L = K := by rw [← HL.out]; exact HK.out
   rw [e] at hLl hV
   go_wp2_with fail
   have hfin := row_setRow_same (w := wr) (g := w.heap.size) (c := (u32s K).toArray) (by rw [hR]; simp) (by rw [hR]; simp [hLl])
   (try simp only [Exit.inBlock, Exit.then])
   refine bodyPost_ret (results_1 rfl (resOk_row rfl ?_)) rfl ?_
   ·
    rw [hfin]
    simp [hLl]
   refine ⟨by rw [hfin], ?_⟩
   exact Below.setRow hbel (by omega) _
set_option maxRecDepth 20000 in
set_option maxHeartbeats 2000000 in
theorem r01first_any (w : World) :
  Calls Tryz.prog 99 #[] w fun e w' => e = .returned (.agg (u32s shfirstL).toArray) ∧ Below w.heap.size w w' := by
 have HP := Lib.hid (fun w => primes01_any 8 18 w (by omega) (by omega) shfirst_low shfirst_len)
 have hlen := shfirst_len
 have hmem := pL_mem 18
 have hkl := shfirstL_length
 obtain ⟨K, hK⟩ : ∃ K, shfirstL = K := ⟨_, rfl⟩
 have hK2 : upTo (rtF (fun p => rootI (fitsB 2 p)) (pL 18)) 8 (List.replicate 8 0) = K := by rw [← hK]; exact r01first_eq
 rw [hK] at hkl ⊢
 obtain ⟨ps, hps⟩ : ∃ ps, pL 18 = ps := ⟨_, rfl⟩
 rw [hps] at HP hlen hmem hK2
 obtain ⟨r, hr⟩ : ∃ r : Nat → Int, (fun p => rootI (fitsB 2 p)) = r := ⟨_, rfl⟩
 have hroot : ∀ (p : Nat) (w : World), p ≤ 1000 → Calls Tryz.prog 125 #[.int .i64 p, .int .i64 2] w fun e w' => e = .returned (.int .u32 (r p)) ∧ Below w.heap.size w w' := fun p w hp => by
  rw [← hr]
  exact root01_any p 2 w hp (by omega)
 rw [hr] at hK2
 have HK := Lib.hid hK2
 have HR := Lib.hid hroot
 have HM := Lib.hid hmem
 clear hr hps hK hK2 hroot hmem
 go_enter Tryz.func99, Tryz.ntmps99
 go_wp2_with fail
 refine (HP.out _).mono ?_
 rintro e w1 ⟨v, rfl, own, b1⟩
 have rV1 : row w1 (w.heap.size + 1) = (zeros 8 (.int .u32 0)).toArray := by rw [row_below b1 (by simp)]; simp [go_sem]
 have rR1 : row w1 w.heap.size = (zeros 8 (.int .u32 0)).toArray := by rw [row_below b1 (by simp; omega)]; simp [go_sem]
 have hz1 : w.heap.size + 1 < w1.heap.size := by have := b1.size; simp at this; omega
 replace b1 := below_of b1 (show Below (w).heap.size w _ from by (repeat (first | exact Below.refl _ _ | refine Below.al ?_ _ | refine Below.drew ?_ | refine Below.sr ?_ _ | refine Below.sc ?_ _))) (by first | (simp; done) | (simp; omega) | omega)
 obtain ⟨q, c, rfl, hq⟩ := own.form
 rw [n64s_length, hlen] at hq ⊢
 obtain ⟨g, s, rfl, hg1, hg2, hr⟩ := hq (by omega)
 have hgne : w.heap.size + 1 < g := by simp at hg1; omega
 clear hq own HP
 go_wp2_with fail
 go_loopw [3] (fun i wr => ∃ m : Nat, m ≤ 8 ∧ i = .int .i64 m ∧ row wr (w.heap.size + 1) = (u32s (upTo (rtF r ps) m (List.replicate 8 0))).toArray ∧ row wr w.heap.size = (zeros 8 (.int .u32 0)).toArray ∧ row wr g = (n64s ps ++ s).toArray ∧ w1.heap.size ≤ wr.heap.size ∧ Below w.heap.size w wr) (fun i _ => 8 - (intOf i).toNat)
 case atStart =>
  refine ⟨0, by omega, rfl, ?_, rR1, hr, Nat.le_refl _, b1⟩
  rw [upTo, u32s_zeros]
  exact rV1
 case round =>
  clear rV1 rR1 hr b1
  obtain ⟨m, hm, rfl, hV, hR, hr, hz, hbel⟩ := hrel
  obtain ⟨L, hL⟩ : ∃ L, upTo (rtF r ps) m (List.replicate 8 0) = L := ⟨_, rfl⟩
  have hLl : L.length = 8 := by rw [← hL, upTo_len (rtF_length _ _)]; simp
  rw [hL] at hV
  have HL := Lib.hid hL
  clear hL
  by_cases hlt : m < 8
  ·
   have h1 : (m : Int) < 8 := by omega
   have h3 : m < L.length := by omega
   have h4 : m < ps.length := by omega
   obtain ⟨x, hx⟩ : ∃ x, ps[m] = x := ⟨_, rfl⟩
   have ux : m < ps.length + s.length := by omega
   have ux2 : m < 8 + s.length := by omega
   have tx : (n64s ps ++ s)[m]'(by simp; omega) = .int .i64 (x : Int) := by rw [List.getElem_append_left (by simpa using h4), n64s_get, hx]
   have hx2 := HM.out x (by rw [← hx]; exact List.getElem_mem _)
   have HX := Lib.hid (show ps.getD m 0 = x by rw [getD_at _ _ h4]; exact hx)
   have hC := Lib.hid (fun w => HR.out x w (by omega))
   clear hx hx2
   go_wp2_with fail
   refine (hC.out _).mono ?_
   rintro e w2 ⟨rfl, b2⟩
   have z2 := b2.size
   have hV2 := (row_below b2 (by omega)).trans hV
   have hR2 := (row_below b2 (by omega)).trans hR
   have hr2 := (row_below b2 (by omega)).trans hr
   have hb2 : Below w.heap.size w w2 := Below.trans hbel (b2.mono (by omega))
   clear b2 hC
   go_wp2_with fail
   go_roundw
   case rel =>
    refine ⟨m + 1, by omega, rfl, ?_, by (try show row (World.setRow _ _ _) _ = _); rw [row_setRow_other _ _ _ (by omega)]; exact hR2, by (try show row (World.setRow _ _ _) _ = _); rw [row_setRow_other _ _ _ (by omega)]; exact hr2, by simp; omega, Below.setRow hb2 (by omega) _⟩
    rw [upTo, HL.out, rtF, HX.out]
    exact row_setRow_same (by rw [hV2]; simp; omega) (by rw [hV2]; simp)
   case measure => simp [intOf]; omega
  ·
   obtain rfl : m = 8 := by omega
   rw [show ((8 : Nat) : Int) = 8 from rfl]
   have e : L = K := by rw [← HL.out]; exact HK.out
   rw [e] at hLl hV
   go_wp2_with fail
   have hfin := row_setRow_same (w := wr) (g := w.heap.size) (c := (u32s K).toArray) (by rw [hR]; simp) (by rw [hR]; simp [hLl])
   (try simp only [Exit.inBlock, Exit.then])
   refine bodyPost_ret (results_1 rfl (resOk_row rfl ?_)) rfl ?_
   ·
    rw [hfin]
    simp [hLl]
   refine ⟨by rw [hfin], ?_⟩
   exact Below.setRow hbel (by omega) _
end
end Go.Proofs.YtakkicppgkmokaaGreat
