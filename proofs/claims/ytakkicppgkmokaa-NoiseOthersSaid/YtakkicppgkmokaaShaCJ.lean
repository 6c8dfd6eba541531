/- Contracts of package sha: the constants. -/
import Derived.Test.YtakkicppgkmokaaJ13
set_option linter.unusedSimpArgs false
set_option linter.unusedVariables false
set_option maxRecDepth 4000
namespace Go.Proofs.Ytakkicppgkmokaa
open Go.RowKit
def rtF (r : Nat → Int) (ps : List Nat) (i : Nat) (l : List Int) : List Int := l.set i (r (ps.getD i 0))
theorem rtF_length (r : Nat → Int) (ps : List Nat) (i : Nat) (l : List Int) : (rtF r ps i l).length = l.length := by simp [rtF]
theorem shconstants_len : (pL 310).length = 64 := by decide +kernel
theorem shconstants_low (m : Nat) (h : m < 310) : (pL m).length < 64 := by
  have h1 := pL_monos m (309 - m)
  rw [show m + (309 - m) = 309 by omega] at h1
  have h2 : (pL 309).length < 64 := by decide +kernel
  omega
def shconstantsL : List Int := upTo (rtF (fun p => rootI (less3 p)) (pL 310)) 64 (List.replicate 64 0)
theorem shconstantsL_length : shconstantsL.length = 64 := by rw [shconstantsL, upTo_len (rtF_length _ _)]; simp
set_option maxRecDepth 20000 in
set_option maxHeartbeats 2000000 in
theorem shconstants_any (w : World) :
    Calls Try.prog 35 #[] w fun e w' => e = .returned (.agg (u32s shconstantsL).toArray) ∧ Below w.heap.size w w' := by
  have HP := Lib.hid (fun w => primes_any 64 310 w (by omega) (by omega) shconstants_low shconstants_len)
  have hlen := shconstants_len
  have hmem := pL_mem 310
  have hkl := shconstantsL_length
  obtain ⟨K, hK⟩ : ∃ K, shconstantsL = K := ⟨_, rfl⟩
  have hK2 : upTo (rtF (fun p => rootI (less3 p)) (pL 310)) 64 (List.replicate 64 0) = K := by rw [← hK]; rfl
  rw [hK] at hkl ⊢
  obtain ⟨ps, hps⟩ : ∃ ps, pL 310 = ps := ⟨_, rfl⟩
  rw [hps] at HP hlen hmem hK2
  obtain ⟨r, hr⟩ : ∃ r : Nat → Int, (fun p => rootI (less3 p)) = r := ⟨_, rfl⟩
  have hroot : ∀ (p : Nat) (w : World), p ≤ 1000 → Calls Try.prog 56 #[.int .i64 p, .int .i64 3] w fun e w' => e = .returned (.int .u32 (r p)) ∧ Below w.heap.size w w' := fun p w hp => by
    rw [← hr]
    exact root3_any p w hp
  rw [hr] at hK2
  have HK := Lib.hid hK2
  have HR := Lib.hid hroot
  have HM := Lib.hid hmem
  clear hr hps hK hK2 hroot hmem
  go_enter Try.func35, Try.ntmps35
  go_wp2_with fail
  refine (HP.out _).mono ?_
  rintro e w1 ⟨v, rfl, own, b1⟩
  have rV1 : row w1 (w.heap.size + 1) = (zeros 64 (.int .u32 0)).toArray := by rw [row_below b1 (by simp)]; simp [go_sem]
  have rR1 : row w1 w.heap.size = (zeros 64 (.int .u32 0)).toArray := by rw [row_below b1 (by simp; omega)]; simp [go_sem]
  have hz1 : w.heap.size + 1 < w1.heap.size := by have := b1.size; simp at this; omega
  replace b1 := below_of b1 (show Below (w).heap.size w _ from by (repeat (first | exact Below.refl _ _ | refine Below.alloc ?_ (by first | (simp; done) | (simp; omega) | omega) _ | refine Below.drew ?_ | refine Below.setRow ?_ (by first | (simp; done) | (simp; omega) | omega) _ | refine Below.setCell ?_ (by first | (simp; done) | (simp; omega) | omega) _))) (by first | (simp; done) | (simp; omega) | omega)
  obtain ⟨q, c, rfl, hq⟩ := own.form
  rw [n64s_length, hlen] at hq ⊢
  obtain ⟨g, s, rfl, hg1, hg2, hr⟩ := hq (by omega)
  have hgne : w.heap.size + 1 < g := by simp at hg1; omega
  clear hq own HP
  go_wp2_with fail
  go_loopw [6] (fun i wr => ∃ m : Nat, m ≤ 64 ∧ i = .int .i64 m ∧ row wr (w.heap.size + 1) = (u32s (upTo (rtF r ps) m (List.replicate 64 0))).toArray ∧ row wr w.heap.size = (zeros 64 (.int .u32 0)).toArray ∧ row wr g = (n64s ps ++ s).toArray ∧ w1.heap.size ≤ wr.heap.size ∧ Below w.heap.size w wr) (fun i _ => 64 - (intOf i).toNat)
  case atStart =>
    refine ⟨0, by omega, rfl, ?_, rR1, hr, Nat.le_refl _, b1⟩
    rw [upTo, u32s_zeros]
    exact rV1
  case round =>
    clear rV1 rR1 hr b1
    obtain ⟨m, hm, rfl, hV, hR, hr, hz, hbel⟩ := hrel
    obtain ⟨L, hL⟩ : ∃ L, upTo (rtF r ps) m (List.replicate 64 0) = L := ⟨_, rfl⟩
    have hLl : L.length = 64 := by rw [← hL, upTo_len (rtF_length _ _)]; simp
    rw [hL] at hV
    have HL := Lib.hid hL
    clear hL
    by_cases hlt : m < 64
    · have h1 : (m : Int) < 64 := by omega
      have h3 : m < L.length := by omega
      have h4 : m < ps.length := by omega
      obtain ⟨x, hx⟩ : ∃ x, ps[m] = x := ⟨_, rfl⟩
      have ux : m < ps.length + s.length := by omega
      have ux2 : m < 64 + s.length := by omega
      have tx : (n64s ps ++ s)[m]'(by simp; omega) = .int .i64 (x : Int) := by rw [List.getElem_append_left (by simpa using h4), n64s_get, hx]
      have hx2 := HM.out x (by rw [← hx]; exact List.getElem_mem _)
      have HX := Lib.hid (show ps.getD m 0 = x by rw [getD_at _ _ h4]; exact hx)
      have hC := Lib.hid (fun w => HR.out x w (by omega))
      clear hx hx2
      go_wp2_with fail
      refine (hC.out _).mono ?_
      rintro e w2 ⟨rfl, b2⟩
      have z2 := b2.size
      have hV2 := (row_below b2 (by omega)).trans hV
      have hR2 := (row_below b2 (by omega)).trans hR
      have hr2 := (row_below b2 (by omega)).trans hr
      have hb2 : Below w.heap.size w w2 := Below.trans hbel (b2.mono (by omega))
      clear b2 hC
      go_wp2_with fail
      go_roundw
      case rel =>
        refine ⟨m + 1, by omega, rfl, ?_, by (try show row (World.setRow _ _ _) _ = _); rw [row_setRow_other _ _ _ (by omega)]; exact hR2, by (try show row (World.setRow _ _ _) _ = _); rw [row_setRow_other _ _ _ (by omega)]; exact hr2, by simp; omega, Below.setRow hb2 (by omega) _⟩
        rw [upTo, HL.out, rtF, HX.out]
        exact row_setRow_same (by rw [hV2]; simp; omega) (by rw [hV2]; simp)
      case measure => simp [intOf]; omega
    · obtain rfl : m = 64 := by omega
      rw [show ((64 : Nat) : Int) = 64 from rfl]
      have e : L = K := by rw [← HL.out]; exact HK.out
      rw [e] at hLl hV
      go_wp2_with fail
      have hfin := row_setRow_same (w := wr) (g := w.heap.size) (c := (u32s K).toArray) (by rw [hR]; simp) (by rw [hR]; simp [hLl])
      (try simp only [Exit.inBlock, Exit.then])
      refine bodyPost_ret (results_1 rfl (resOk_row rfl ?_)) rfl ?_
      · rw [hfin]
        simp [hLl]
      refine ⟨by rw [hfin], ?_⟩
      exact Below.setRow hbel (by omega) _
theorem shfirst_len : (pL 18).length = 8 := by decide +kernel
theorem shfirst_low (m : Nat) (h : m < 18) : (pL m).length < 8 := by
  have h1 := pL_monos m (17 - m)
  rw [show m + (17 - m) = 17 by omega] at h1
  have h2 : (pL 17).length < 8 := by decide +kernel
  omega
def shfirstL : List Int := upTo (rtF (fun p => rootI (less2 p)) (pL 18)) 8 (List.replicate 8 0)
theorem shfirstL_length : shfirstL.length = 8 := by rw [shfirstL, upTo_len (rtF_length _ _)]; simp
set_option maxRecDepth 20000 in
set_option maxHeartbeats 2000000 in
theorem shfirst_any (w : World) :
    Calls Try.prog 36 #[] w fun e w' => e = .returned (.agg (u32s shfirstL).toArray) ∧ Below w.heap.size w w' := by
  have HP := Lib.hid (fun w => primes_any 8 18 w (by omega) (by omega) shfirst_low shfirst_len)
  have hlen := shfirst_len
  have hmem := pL_mem 18
  have hkl := shfirstL_length
  obtain ⟨K, hK⟩ : ∃ K, shfirstL = K := ⟨_, rfl⟩
  have hK2 : upTo (rtF (fun p => rootI (less2 p)) (pL 18)) 8 (List.replicate 8 0) = K := by rw [← hK]; rfl
  rw [hK] at hkl ⊢
  obtain ⟨ps, hps⟩ : ∃ ps, pL 18 = ps := ⟨_, rfl⟩
  rw [hps] at HP hlen hmem hK2
  obtain ⟨r, hr⟩ : ∃ r : Nat → Int, (fun p => rootI (less2 p)) = r := ⟨_, rfl⟩
  have hroot : ∀ (p : Nat) (w : World), p ≤ 1000 → Calls Try.prog 56 #[.int .i64 p, .int .i64 2] w fun e w' => e = .returned (.int .u32 (r p)) ∧ Below w.heap.size w w' := fun p w hp => by
    rw [← hr]
    exact root2_any p w hp
  rw [hr] at hK2
  have HK := Lib.hid hK2
  have HR := Lib.hid hroot
  have HM := Lib.hid hmem
  clear hr hps hK hK2 hroot hmem
  go_enter Try.func36, Try.ntmps36
  go_wp2_with fail
  refine (HP.out _).mono ?_
  rintro e w1 ⟨v, rfl, own, b1⟩
  have rV1 : row w1 (w.heap.size + 1) = (zeros 8 (.int .u32 0)).toArray := by rw [row_below b1 (by simp)]; simp [go_sem]
  have rR1 : row w1 w.heap.size = (zeros 8 (.int .u32 0)).toArray := by rw [row_below b1 (by simp; omega)]; simp [go_sem]
  have hz1 : w.heap.size + 1 < w1.heap.size := by have := b1.size; simp at this; omega
  replace b1 := below_of b1 (show Below (w).heap.size w _ from by (repeat (first | exact Below.refl _ _ | refine Below.alloc ?_ (by first | (simp; done) | (simp; omega) | omega) _ | refine Below.drew ?_ | refine Below.setRow ?_ (by first | (simp; done) | (simp; omega) | omega) _ | refine Below.setCell ?_ (by first | (simp; done) | (simp; omega) | omega) _))) (by first | (simp; done) | (simp; omega) | omega)
  obtain ⟨q, c, rfl, hq⟩ := own.form
  rw [n64s_length, hlen] at hq ⊢
  obtain ⟨g, s, rfl, hg1, hg2, hr⟩ := hq (by omega)
  have hgne : w.heap.size + 1 < g := by simp at hg1; omega
  clear hq own HP
  go_wp2_with fail
  go_loopw [6] (fun i wr => ∃ m : Nat, m ≤ 8 ∧ i = .int .i64 m ∧ row wr (w.heap.size + 1) = (u32s (upTo (rtF r ps) m (List.replicate 8 0))).toArray ∧ row wr w.heap.size = (zeros 8 (.int .u32 0)).toArray ∧ row wr g = (n64s ps ++ s).toArray ∧ w1.heap.size ≤ wr.heap.size ∧ Below w.heap.size w wr) (fun i _ => 8 - (intOf i).toNat)
  case atStart =>
    refine ⟨0, by omega, rfl, ?_, rR1, hr, Nat.le_refl _, b1⟩
    rw [upTo, u32s_zeros]
    exact rV1
  case round =>
    clear rV1 rR1 hr b1
    obtain ⟨m, hm, rfl, hV, hR, hr, hz, hbel⟩ := hrel
    obtain ⟨L, hL⟩ : ∃ L, upTo (rtF r ps) m (List.replicate 8 0) = L := ⟨_, rfl⟩
    have hLl : L.length = 8 := by rw [← hL, upTo_len (rtF_length _ _)]; simp
    rw [hL] at hV
    have HL := Lib.hid hL
    clear hL
    by_cases hlt : m < 8
    · have h1 : (m : Int) < 8 := by omega
      have h3 : m < L.length := by omega
      have h4 : m < ps.length := by omega
      obtain ⟨x, hx⟩ : ∃ x, ps[m] = x := ⟨_, rfl⟩
      have ux : m < ps.length + s.length := by omega
      have ux2 : m < 8 + s.length := by omega
      have tx : (n64s ps ++ s)[m]'(by simp; omega) = .int .i64 (x : Int) := by rw [List.getElem_append_left (by simpa using h4), n64s_get, hx]
      have hx2 := HM.out x (by rw [← hx]; exact List.getElem_mem _)
      have HX := Lib.hid (show ps.getD m 0 = x by rw [getD_at _ _ h4]; exact hx)
      have hC := Lib.hid (fun w => HR.out x w (by omega))
      clear hx hx2
      go_wp2_with fail
      refine (hC.out _).mono ?_
      rintro e w2 ⟨rfl, b2⟩
      have z2 := b2.size
      have hV2 := (row_below b2 (by omega)).trans hV
      have hR2 := (row_below b2 (by omega)).trans hR
      have hr2 := (row_below b2 (by omega)).trans hr
      have hb2 : Below w.heap.size w w2 := Below.trans hbel (b2.mono (by omega))
      clear b2 hC
      go_wp2_with fail
      go_roundw
      case rel =>
        refine ⟨m + 1, by omega, rfl, ?_, by (try show row (World.setRow _ _ _) _ = _); rw [row_setRow_other _ _ _ (by omega)]; exact hR2, by (try show row (World.setRow _ _ _) _ = _); rw [row_setRow_other _ _ _ (by omega)]; exact hr2, by simp; omega, Below.setRow hb2 (by omega) _⟩
        rw [upTo, HL.out, rtF, HX.out]
        exact row_setRow_same (by rw [hV2]; simp; omega) (by rw [hV2]; simp)
      case measure => simp [intOf]; omega
    · obtain rfl : m = 8 := by omega
      rw [show ((8 : Nat) : Int) = 8 from rfl]
      have e : L = K := by rw [← HL.out]; exact HK.out
      rw [e] at hLl hV
      go_wp2_with fail
      have hfin := row_setRow_same (w := wr) (g := w.heap.size) (c := (u32s K).toArray) (by rw [hR]; simp) (by rw [hR]; simp [hLl])
      (try simp only [Exit.inBlock, Exit.then])
      refine bodyPost_ret (results_1 rfl (resOk_row rfl ?_)) rfl ?_
      · rw [hfin]
        simp [hLl]
      refine ⟨by rw [hfin], ?_⟩
      exact Below.setRow hbel (by omega) _
end Go.Proofs.Ytakkicppgkmokaa
