/- Contracts of the reference of chapter 1: a text's sum. -/
import Derived.Test.YtakkicppgkmokaaJ46
import Derived.Test.YtakkicppgkmokaaSrCJ
set_option linter.unusedSimpArgs false
set_option linter.unusedVariables false
set_option maxRecDepth 4000
namespace Go.Proofs.Ytakkicppgkmokaa
open Go.RowKit
def In32 (l : List Int) : Prop := ∀ i, 0 ≤ l.getD i 0 ∧ l.getD i 0 < 4294967296
theorem in32_all (l : List Int) (h : (l.all fun x => decide (0 ≤ x ∧ x < 4294967296)) = true) : In32 l := by
  intro i
  rcases Nat.lt_or_ge i l.length with hi | hi
  · have := List.all_eq_true.1 h l[i] (List.getElem_mem hi)
    rw [getD_elem _ _ _ hi]
    simpa using this
  · simp [List.getD_eq_getElem?_getD, List.getElem?_eq_none hi]
theorem first32 : In32 shfirstL := in32_all _ (by decide +kernel)
theorem mix32 (h x k : List Int) (hl : h.length = 8) : In32 (mixL h x k) := by
  have hm : (upTo (mixF k x) 64 h).length = 8 := by rw [upTo_len (mixF_length k x), hl]
  obtain ⟨a, b, c, d, e, f, g, q, hv⟩ := eight hm
  obtain ⟨a', b', c', d', e', f', g', q', hv'⟩ := eight hl
  apply in32_all
  rw [mixL, hv, hv']
  simp [upTo, addF]
  omega
theorem blk_length (t : List UInt8) (j : Nat) : (upTo (blkF shconstantsL t) j shfirstL).length = 8 := by rw [upTo_len (blkF_length _ _), shfirstL_length]
theorem blk32 (t : List UInt8) (j : Nat) : In32 (upTo (blkF shconstantsL t) j shfirstL) := by
  cases j with
  | zero => exact first32
  | succ j => rw [upTo, blkF]; exact mix32 _ _ _ (blk_length t j)
/-- four bytes of a word, set from the last one on -/
theorem set_four (L : List UInt8) (p : Nat) (a b c d : UInt8) : (((L.set (p + 3) d).set (p + 2) c).set (p + 1) b).set p a = (((L.set p a).set (p + 1) b).set (p + 2) c).set (p + 3) d := by
  rw [List.set_comm _ _ (show p + 3 ≠ p + 2 by omega), List.set_comm _ _ (show p + 3 ≠ p + 1 by omega), List.set_comm _ _ (show p + 3 ≠ p by omega), List.set_comm _ _ (show p + 2 ≠ p + 1 by omega), List.set_comm _ _ (show p + 2 ≠ p by omega), List.set_comm _ _ (show p + 1 ≠ p by omega)]
theorem big_four (h : List Int) (i : Nat) (L : List UInt8) (x : Int) (hx : h.getD i 0 = x) : bigF h (4 * i + 3) (bigF h (4 * i + 2) (bigF h (4 * i + 1) (bigF h (4 * i) L))) = (((L.set (4 * i + 3) (byteI x)).set (4 * i + 2) (byteI (x / 256))).set (4 * i + 1) (byteI (x / 256 / 256))).set (4 * i) (byteI (x / 256 / 256 / 256)) := by
  rw [set_four]
  unfold bigF
  have e0 : 4 * i / 4 = i := by omega
  have e1 : (4 * i + 1) / 4 = i := by omega
  have e2 : (4 * i + 2) / 4 = i := by omega
  have e3 : (4 * i + 3) / 4 = i := by omega
  have f0 : 4 * i % 4 = 0 := by omega
  have f1 : (4 * i + 1) % 4 = 1 := by omega
  have f2 : (4 * i + 2) % 4 = 2 := by omega
  have f3 : (4 * i + 3) % 4 = 3 := by omega
  rw [e0, e1, e2, e3, f0, f1, f2, f3, hx]
  have g3 : x / 2 ^ (24 - 8 * 3) = x := by simp
  have g2 : x / 2 ^ (24 - 8 * 2) = x / 256 := rfl
  have g1 : x / 2 ^ (24 - 8 * 1) = x / 256 / 256 := by show x / 65536 = _; omega
  have g0 : x / 2 ^ (24 - 8 * 0) = x / 256 / 256 / 256 := by show x / 16777216 = _; omega
  rw [g0, g1, g2, g3]
attribute [local irreducible] bigF blkF mixL wdL shconstantsL shfirstL fillL upTo
set_option maxRecDepth 20000 in
set_option maxHeartbeats 4000000 in
theorem sum01_any (s : List UInt8) (w : World) (hs : s.length ≤ 100000) :
    Calls Try.prog 11 #[.string ⟨s.toArray⟩] w fun e w' => e = .returned (.agg (u8s (shaK s)).toArray) ∧ Below w.heap.size w w' := by
  have HC := Lib.hid (fun w => r01constants_any w)
  have HF := Lib.hid (fun w => r01first_any w)
  have HL := Lib.hid (fun w => fill01_any s w hs)
  have lc := shconstantsL_length
  have lf := shfirstL_length
  have hB := Lib.hid (fun j => blk_length (fillL s) j)
  have hR := Lib.hid (fun j => blk32 (fillL s) j)
  have hS : shaK s = bigL (upTo (blkF shconstantsL (fillL s)) ((fillL s).length / 64) shfirstL) := by unfold shaK blksL; rfl
  have hm := fillL_mod s
  have hlen := fillL_length s
  have hpd := shPad_lt s.length
  obtain ⟨T, hT⟩ : ∃ T, fillL s = T := ⟨_, rfl⟩
  rw [hT] at HL hB hR hS hm hlen
  have hT2 : T.length ≤ 200000 := by omega
  have hTI : (T.length : Int) ≤ 200000 := by omega
  obtain ⟨B, hBB⟩ : ∃ B, T.length / 64 = B := ⟨_, rfl⟩
  rw [hBB] at hS
  have hTB : T.length = 64 * B := by omega
  obtain ⟨K, hK⟩ : ∃ K, shconstantsL = K := ⟨_, rfl⟩
  obtain ⟨F, hFF⟩ : ∃ F, shfirstL = F := ⟨_, rfl⟩
  rw [hK] at HC lc hB hR hS
  rw [hFF] at HF lf hB hR hS
  have HS := Lib.hid hS
  have HTB := Lib.hid hTB
  clear hT hBB hK hFF hS hm hlen hpd hTB
  go_enter Try.func11, Try.ntmps11
  obtain ⟨W, hW⟩ : ∃ v, w.alloc (.cells (zeros 32 (.int .u8 0)).toArray 22) = v := ⟨_, rfl⟩
  have rR : row W w.heap.size = (zeros 32 (.int .u8 0)).toArray := by rw [← hW]; simp [go_sem]
  have zW : W.heap.size = w.heap.size + 1 := by rw [← hW]; simp
  have bW : Below w.heap.size w W := by
    rw [← hW]
    (repeat (first | exact Below.refl _ _ | refine Below.alloc ?_ (by first | (simp; done) | (simp; omega) | omega) _ | refine Below.drew ?_ | refine Below.setRow ?_ (by first | (simp; done) | (simp; omega) | omega) _ | refine Below.setCell ?_ (by first | (simp; done) | (simp; omega) | omega) _))
  go_wp2_with fail
  clear hW
  refine (HC.out _).mono ?_
  rintro e w1 ⟨rfl, b1⟩
  have z1 := b1.size
  obtain ⟨W2, hW2⟩ : ∃ v, w1.alloc (.cells (u32s K).toArray 51) = v := ⟨_, rfl⟩
  have rK : row W2 w1.heap.size = (u32s K).toArray := by rw [← hW2]; simp [go_sem]
  have zW2 : W2.heap.size = w1.heap.size + 1 := by rw [← hW2]; simp
  have bW2 : Below w1.heap.size w1 W2 := by
    rw [← hW2]
    (repeat (first | exact Below.refl _ _ | refine Below.alloc ?_ (by first | (simp; done) | (simp; omega) | omega) _ | refine Below.drew ?_ | refine Below.setRow ?_ (by first | (simp; done) | (simp; omega) | omega) _ | refine Below.setCell ?_ (by first | (simp; done) | (simp; omega) | omega) _))
  go_wp2_with fail
  clear hW2
  refine (HF.out _).mono ?_
  rintro e w3 ⟨rfl, b3⟩
  have z3 := b3.size
  obtain ⟨W4, hW4⟩ : ∃ v, w3.alloc (.cells (u32s F).toArray 53) = v := ⟨_, rfl⟩
  have rH : row W4 w3.heap.size = (u32s F).toArray := by rw [← hW4]; simp [go_sem]
  have zW4 : W4.heap.size = w3.heap.size + 1 := by rw [← hW4]; simp
  have bW4 : Below w3.heap.size w3 W4 := by
    rw [← hW4]
    (repeat (first | exact Below.refl _ _ | refine Below.alloc ?_ (by first | (simp; done) | (simp; omega) | omega) _ | refine Below.drew ?_ | refine Below.setRow ?_ (by first | (simp; done) | (simp; omega) | omega) _ | refine Below.setCell ?_ (by first | (simp; done) | (simp; omega) | omega) _))
  go_wp2_with fail
  clear hW4
  refine (HL.out _).mono ?_
  rintro e w5 ⟨rfl, b5⟩
  have z5 := b5.size
  have rH5 := (row_below b5 (by omega)).trans rH
  have rK5 := (row_below b5 (by omega)).trans ((row_below bW4 (by omega)).trans ((row_below b3 (by omega)).trans rK))
  have rR5 := (row_below b5 (by omega)).trans ((row_below bW4 (by omega)).trans ((row_below b3 (by omega)).trans ((row_below bW2 (by omega)).trans ((row_below b1 (by omega)).trans rR))))
  have bb5 : Below w.heap.size w w5 := bW.trans ((b1.mono (by omega)).trans ((bW2.mono (by omega)).trans ((b3.mono (by omega)).trans ((bW4.mono (by omega)).trans (b5.mono (by omega))))))
  obtain ⟨gH, hgH⟩ : ∃ g, w3.heap.size = g := ⟨_, rfl⟩
  obtain ⟨gK, hgK⟩ : ∃ g, w1.heap.size = g := ⟨_, rfl⟩
  rw [hgH] at rH5 ⊢
  rw [hgK] at rK5 ⊢
  have nKH : gK ≠ gH := by omega
  have nRH : w.heap.size ≠ gH := by omega
  have zgH : gH < w5.heap.size := by omega
  have zgK : gK < w5.heap.size := by omega
  have zgR : w.heap.size < gK := by omega
  have zgR2 : w.heap.size < gH := by omega
  clear b1 bW2 b3 bW4 b5 rH rK rR bW hgH hgK zW2 zW4 z3 z5 z1 zW
  go_wp2_with fail
  go_loopw [6] (fun i wr => ∃ j : Nat, j ≤ B ∧ i = .int .i64 ((64 * j : Nat) : Int) ∧ row wr gH = (u32s (upTo (blkF K T) j F)).toArray ∧ row wr gK = (u32s K).toArray ∧ row wr w.heap.size = (zeros 32 (.int .u8 0)).toArray ∧ w5.heap.size ≤ wr.heap.size ∧ Below w.heap.size w wr) (fun i _ => T.length - (intOf i).toNat)
  case atStart => exact ⟨0, by omega, rfl, by rw [show upTo (blkF K T) 0 F = F by unfold upTo; rfl]; exact rH5, rK5, rR5, Nat.le_refl _, bb5⟩
  case round =>
    clear rH5 rK5 rR5 bb5
    obtain ⟨j, hj, rfl, rH, rK, rR, hz, hbel⟩ := hrel
    have hlj := hB.out j
    have hrj := hR.out j
    obtain ⟨H, hH⟩ : ∃ H, upTo (blkF K T) j F = H := ⟨_, rfl⟩
    rw [hH] at rH hlj hrj
    have HH := Lib.hid hH
    clear hH
    by_cases hlt : j < B
    · obtain ⟨p, hp⟩ : ∃ p, 64 * j = p := ⟨_, rfl⟩
      have hpT : p + 64 ≤ T.length := by have := HTB.out; omega
      have hpI : (p : Int) < (T.length : Int) := by omega
      have hpI2 : (p : Int) + 64 ≤ (T.length : Int) := by omega
      have hnx : upTo (blkF K T) (j + 1) F = mixL H (wdL ((T.drop p).take 64)) K := by rw [upTo, HH.out, ← hp, blkF]
      obtain ⟨c, hc⟩ : ∃ c, (T.drop p).take 64 = c := ⟨_, rfl⟩
      have hcl : c.length = 64 := by rw [← hc, List.length_take, List.length_drop]; omega
      obtain ⟨E, hE⟩ : ∃ E, p + 64 = E := ⟨_, rfl⟩
      have hcs : List.take (E - p) (List.drop p T) = c := by rw [show E - p = 64 by omega]; exact hc
      have hEI : (p : Int) + 64 = (E : Int) := by omega
      have hEw : IntKind.i64.wrap (E : Int) = (E : Int) := wrapN _ _ rfl (by omega)
      have hE1 : (p : Int) ≤ (E : Int) := by omega
      have hE2 : (E : Int) ≤ (T.length : Int) := by omega
      have hE0 : (0 : Int) ≤ (E : Int) := by omega
      have hE3 : p ≤ E := by omega
      have hE4 : E ≤ T.length := by omega
      rw [hc] at hnx
      have HBk := Lib.hid (fun w => block01_any H K c w hlj hcl lc hrj)
      have hml : (mixL H (wdL c) K).length = 8 := by rw [mixL_length]; exact hlj
      obtain ⟨M, hM⟩ : ∃ M, mixL H (wdL c) K = M := ⟨_, rfl⟩
      rw [hM] at HBk hnx hml
      have HNX := Lib.hid hnx
      have HP := Lib.hid hp
      have HRJ := Lib.hid hrj
      have hcI : (c.length : Int) = 64 := by omega
      rw [hp]
      have g64 : (64 : Int) ≤ (T.length : Int) - (p : Int) := by omega
      have HE := Lib.hid hE
      clear hnx hM hp hrj hE
      go_wp2_with fail
      have zgH2 : gH < wr.heap.size := by omega
      have zgK2 : gK < wr.heap.size := by omega
      refine wp_region_beginK 8 [(gH, (u32s H).toArray), (gK, (u32s K).toArray)] [(gK, (u32s K).toArray)] rfl (by simp only [Rws]; (repeat (first | exact trivial | refine ⟨(by first | assumption | (simp [go_sem, *]; done)), (by first | omega | (simp; done) | (simp; omega)), ?_⟩))) (fun hS => ?_)
      refine wpAnyK_take (i := 0) (v := ?_) (by simp only [List.getElem?_toArray, List.getElem?_cons_succ, List.getElem?_cons_zero]; rfl) (by kernel_rfl) (by kernel_rfl) (by kernel_rfl) (by kernel_rfl) (by first | exact fun _ _ _ h => h | exact fun _ _ _ h => by cases h.1) (Rws.grow _) (Or.inl ⟨by rfl, ?_⟩) hS ?_
      rotate_left
      · intro w' hS'
        simp only [Rws] at hS'
        go_simp
        refine ⟨?_, Below.refl _ _⟩
        rfl
      (try simp only [Act.put, List.setIfInBounds_toArray, List.set_cons_zero, List.set_cons_succ])
      refine wpAnyK_take (i := 1) (v := ?_) (by simp only [List.getElem?_toArray, List.getElem?_cons_succ, List.getElem?_cons_zero]; rfl) (by kernel_rfl) (by kernel_rfl) (by kernel_rfl) (by kernel_rfl) (by first | exact fun _ _ _ h => h | exact fun _ _ _ h => by cases h.1) (Rws.grow _) (Or.inl ⟨by rfl, ?_⟩) hS ?_
      rotate_left
      · intro w' hS'
        simp only [Rws] at hS'
        go_simp
        refine ⟨?_, Below.refl _ _⟩
        rfl
      (try simp only [Act.put, List.setIfInBounds_toArray, List.set_cons_zero, List.set_cons_succ])
      refine wpAnyK_take (i := 2) (v := ?_) (by simp only [List.getElem?_toArray, List.getElem?_cons_succ, List.getElem?_cons_zero]; rfl) (by kernel_rfl) (by kernel_rfl) (by kernel_rfl) (by kernel_rfl) (by first | exact fun _ _ _ h => h | exact fun _ _ _ h => by cases h.1) (Rws.grow _) (Or.inl ⟨by rfl, ?_⟩) hS ?_
      rotate_left
      · intro w' hS'
        simp only [Rws] at hS'
        go_simp
        refine ⟨?_, Below.refl _ _⟩
        rfl
      (try simp only [Act.put, List.setIfInBounds_toArray, List.set_cons_zero, List.set_cons_succ])
      refine wpAnyK_take (i := 3) (v := ?_) (by simp only [List.getElem?_toArray, List.getElem?_cons_succ, List.getElem?_cons_zero]; rfl) (by kernel_rfl) (by kernel_rfl) (by kernel_rfl) (by kernel_rfl) (by first | exact fun _ _ _ h => h | exact fun _ _ _ h => by cases h.1) (Rws.grow _) (Or.inl ⟨by rfl, ?_⟩) hS ?_
      rotate_left
      · intro w' hS'
        simp only [Rws] at hS'
        go_simp
        refine ⟨?_, Below.refl _ _⟩
        rfl
      (try simp only [Act.put, List.setIfInBounds_toArray, List.set_cons_zero, List.set_cons_succ])
      refine wpAnyK_take (i := 4) (v := ?_) (by simp only [List.getElem?_toArray, List.getElem?_cons_succ, List.getElem?_cons_zero]; rfl) (by kernel_rfl) (by kernel_rfl) (by kernel_rfl) (by kernel_rfl) (by first | exact fun _ _ _ h => h | exact fun _ _ _ h => by cases h.1) (Rws.grow _) (Or.inl ⟨by rfl, ?_⟩) hS ?_
      rotate_left
      · intro w' hS'
        simp only [Rws] at hS'
        go_simp
        refine ⟨?_, Below.refl _ _⟩
        rfl
      (try simp only [Act.put, List.setIfInBounds_toArray, List.set_cons_zero, List.set_cons_succ])
      refine wpAnyK_take (i := 5) (v := ?_) (by simp only [List.getElem?_toArray, List.getElem?_cons_succ, List.getElem?_cons_zero]; rfl) (by kernel_rfl) (by kernel_rfl) (by kernel_rfl) (by kernel_rfl) (by first | exact fun _ _ _ h => h | exact fun _ _ _ h => by cases h.1) (Rws.grow _) (Or.inl ⟨by rfl, ?_⟩) hS ?_
      rotate_left
      · intro w' hS'
        simp only [Rws] at hS'
        go_simp
        refine ⟨?_, Below.refl _ _⟩
        rfl
      (try simp only [Act.put, List.setIfInBounds_toArray, List.set_cons_zero, List.set_cons_succ])
      refine wpAnyK_take (i := 6) (v := ?_) (by simp only [List.getElem?_toArray, List.getElem?_cons_succ, List.getElem?_cons_zero]; rfl) (by kernel_rfl) (by kernel_rfl) (by kernel_rfl) (by kernel_rfl) (by first | exact fun _ _ _ h => h | exact fun _ _ _ h => by cases h.1) (Rws.grow _) (Or.inl ⟨by rfl, ?_⟩) hS ?_
      rotate_left
      · intro w' hS'
        simp only [Rws] at hS'
        go_simp
        refine ⟨?_, Below.refl _ _⟩
        rfl
      (try simp only [Act.put, List.setIfInBounds_toArray, List.set_cons_zero, List.set_cons_succ])
      refine wpAnyK_take (i := 7) (v := ?_) (by simp only [List.getElem?_toArray, List.getElem?_cons_succ, List.getElem?_cons_zero]; rfl) (by kernel_rfl) (by kernel_rfl) (by kernel_rfl) (by kernel_rfl) (by first | exact fun _ _ _ h => h | exact fun _ _ _ h => by cases h.1) (Rws.grow _) (Or.inl ⟨by rfl, ?_⟩) hS ?_
      rotate_left
      · intro w' hS'
        simp only [Rws] at hS'
        go_simp
        with_reducible refine (HBk.out _).mono ?_
        rintro e w'' ⟨rfl, hb⟩
        refine ⟨_, rfl, ?_, hb⟩
        rfl
      (try simp only [Act.put, List.setIfInBounds_toArray, List.set_cons_zero, List.set_cons_succ])
      refine wpAnyK_store (k := 8) (by simp only [List.getElem?_toArray, List.getElem?_cons_succ, List.getElem?_cons_zero]; rfl) rfl rfl (by kernel_rfl) (fun u1 hu1 => ?_)
      have cc : Below wr.heap.size wr u1 := Below.trans (Below.drew (Below.refl _ _)) hu1
      have ru1 : row u1 gH = (u32s H).toArray := (row_below cc (by omega)).trans rH
      have rk1 : row u1 gK = (u32s K).toArray := (row_below cc (by omega)).trans rK
      have z1 : wr.heap.size ≤ u1.heap.size := cc.size
      have hrg : row (u1.setRow gH (u32s M).toArray) gK = (u32s K).toArray := by rw [row_setRow_other _ _ _ nKH]; exact rk1
      refine ⟨u1.setRow gH (u32s M).toArray, by go_simp, ⟨hrg, by rw [setRow_size]; omega, trivial⟩, fun hS => ?_⟩
      refine wpAnyR_done (by kernel_rfl) (fun wN hN => ?_) _
      have zN := hN.size
      rw [setRow_size] at zN
      have bN : Below w.heap.size w wN := Below.trans (Below.setRow (hbel.trans (cc.mono (by omega))) (by omega) _) (hN.mono (by rw [setRow_size]; omega))
      have rHN : row wN gH = (u32s M).toArray := by
        rw [row_below hN (by rw [setRow_size]; omega)]
        exact row_setRow_same (by rw [ru1]; simp; omega) (by rw [ru1]; simp [hlj, hml])
      have rKN : row wN gK = (u32s K).toArray := by rw [row_below hN (by rw [setRow_size]; omega)]; exact hrg
      have rRN : row wN w.heap.size = (zeros 32 (.int .u8 0)).toArray := by
        rw [row_below hN (by rw [setRow_size]; omega), row_setRow_other _ _ _ nRH, row_below cc (by omega)]
        exact rR
      clear hN hu1 ru1 rk1 hrg hS cc
      go_wp2_with fail
      go_roundw
      case rel => exact ⟨j + 1, by omega, by have := HP.out; have := HE.out; congr 1; omega, by rw [HNX.out]; exact rHN, rKN, rRN, by omega, bN⟩
      case measure => simp [intOf]; omega
    · obtain rfl : j = B := by omega
      have hTe : ((64 * j : Nat) : Int) = (T.length : Int) := by have := HTB.out; omega
      rw [hTe]
      have hbig : shaK s = bigL H := by rw [HS.out, HH.out]
      have HBG := Lib.hid hbig
      have HRJ := Lib.hid hrj
      clear hTe hbig hrj
      obtain ⟨W6, hW6⟩ : ∃ v, wr.alloc (.cells (zeros 32 (.int .u8 0)).toArray 22) = v := ⟨_, rfl⟩
      have rO : row W6 wr.heap.size = (zeros 32 (.int .u8 0)).toArray := by rw [← hW6]; simp [go_sem]
      have zW6 : W6.heap.size = wr.heap.size + 1 := by rw [← hW6]; simp
      have bW6 : Below wr.heap.size wr W6 := by
        rw [← hW6]
        (repeat (first | exact Below.refl _ _ | refine Below.alloc ?_ (by first | (simp; done) | (simp; omega) | omega) _ | refine Below.drew ?_ | refine Below.setRow ?_ (by first | (simp; done) | (simp; omega) | omega) _ | refine Below.setCell ?_ (by first | (simp; done) | (simp; omega) | omega) _))
      have rH6 := (row_below bW6 (by omega)).trans rH
      have rR6 := (row_below bW6 (by omega)).trans rR
      have bb6 := hbel.trans (bW6.mono (by omega))
      go_wp2_with fail
      clear hW6 bW6 rH rK rR hbel
      obtain ⟨gO, hgO⟩ : ∃ g, wr.heap.size = g := ⟨_, rfl⟩
      rw [hgO] at rO zW6 ⊢
      have nOH : gO ≠ gH := by omega
      have nOR : gO ≠ w.heap.size := by omega
      have zOR : w.heap.size < gO := by omega
      have zOH : gH < gO := by omega
      clear hgO hz
      go_loopw [8] (fun i wq => ∃ n : Nat, n ≤ 8 ∧ i = .int .i64 n ∧ row wq gO = (u8s (upTo (bigF H) (4 * n) (List.replicate 32 0))).toArray ∧ row wq gH = (u32s H).toArray ∧ row wq w.heap.size = (zeros 32 (.int .u8 0)).toArray ∧ gO < wq.heap.size ∧ Below w.heap.size w wq) (fun i _ => 8 - (intOf i).toNat)
      case atStart => exact ⟨0, by omega, rfl, by rw [show upTo (bigF H) (4 * 0) (List.replicate 32 0) = List.replicate 32 0 by unfold upTo; rfl, u8s_zeros]; exact rO, rH6, rR6, by omega, bb6⟩
      case round =>
        clear rO rH6 rR6 bb6 zW6
        obtain ⟨n, hn, rfl, rO, rH, rR, hz, hbel⟩ := hrel
        by_cases hlt2 : n < 8
        · have h1 : (n : Int) < 8 := by omega
          have l1 : n < H.length := by omega
          obtain ⟨L, hL⟩ : ∃ L, upTo (bigF H) (4 * n) (List.replicate 32 0) = L := ⟨_, rfl⟩
          have hLl : L.length = 32 := by rw [← hL, upTo_len8 (bigF_length H)]; simp
          obtain ⟨x, hx⟩ : ∃ x, H[n] = x := ⟨_, rfl⟩
          have hxg : H.getD n 0 = x := by rw [getD_elem _ _ _ l1]; exact hx
          obtain ⟨x0, x1⟩ := HRJ.out n
          rw [hxg] at x0 x1
          have hnx : upTo (bigF H) (4 * (n + 1)) (List.replicate 32 0) = (((L.set (4 * n + 3) (byteI x)).set (4 * n + 2) (byteI (x / 256))).set (4 * n + 1) (byteI (x / 256 / 256))).set (4 * n) (byteI (x / 256 / 256 / 256)) := by
            rw [show 4 * (n + 1) = 4 * n + 1 + 1 + 1 + 1 by omega]
            simp only [upTo]
            rw [hL]
            exact big_four H n L x hxg
          rw [hL] at rO
          obtain ⟨p, hp⟩ : ∃ p, 4 * n = p := ⟨_, rfl⟩
          rw [hp] at hnx
          have hpI : (4 : Int) * (n : Int) = (p : Int) := by omega
          have hp28 : p ≤ 28 := by omega
          have hpI2 : (p : Int) ≤ 28 := by omega
          have rOwr := rO
          have rHwr := rH
          have rRwr := rR
          have zwr := hz
          have bwr := hbel
          have lL := hLl
          obtain ⟨b3, hb3⟩ : ∃ bb, byteI x = bb := ⟨_, rfl⟩
          have fb3 : x % 256 = (b3.toNat : Int) := by rw [← hb3, byteI_toNat]
          have gb3 : x.tmod 256 = (b3.toNat : Int) := by rw [Int.tmod_eq_emod_of_nonneg x0]; exact fb3
          have wb3 : IntKind.u8.wrap (b3.toNat : Int) = (b3.toNat : Int) := by have := b3.toNat_lt; rw [IntKind.wrap_u8]; omega
          obtain ⟨y, hy⟩ : ∃ yy, x / 256 = yy := ⟨_, rfl⟩
          have ty : x.tdiv 256 = y := by rw [Int.tdiv_eq_ediv_of_nonneg x0]; exact hy
          have y0 : 0 ≤ y := by omega
          have y1 : y < 4294967296 := by omega
          obtain ⟨b2, hb2⟩ : ∃ bb, byteI y = bb := ⟨_, rfl⟩
          have fb2 : y % 256 = (b2.toNat : Int) := by rw [← hb2, byteI_toNat]
          have gb2 : y.tmod 256 = (b2.toNat : Int) := by rw [Int.tmod_eq_emod_of_nonneg y0]; exact fb2
          have wb2 : IntKind.u8.wrap (b2.toNat : Int) = (b2.toNat : Int) := by have := b2.toNat_lt; rw [IntKind.wrap_u8]; omega
          obtain ⟨u, hu⟩ : ∃ yy, y / 256 = yy := ⟨_, rfl⟩
          have tu : y.tdiv 256 = u := by rw [Int.tdiv_eq_ediv_of_nonneg y0]; exact hu
          have u0 : 0 ≤ u := by omega
          have u1 : u < 4294967296 := by omega
          obtain ⟨b1, hb1⟩ : ∃ bb, byteI u = bb := ⟨_, rfl⟩
          have fb1 : u % 256 = (b1.toNat : Int) := by rw [← hb1, byteI_toNat]
          have gb1 : u.tmod 256 = (b1.toNat : Int) := by rw [Int.tmod_eq_emod_of_nonneg u0]; exact fb1
          have wb1 : IntKind.u8.wrap (b1.toNat : Int) = (b1.toNat : Int) := by have := b1.toNat_lt; rw [IntKind.wrap_u8]; omega
          obtain ⟨v, hv⟩ : ∃ yy, u / 256 = yy := ⟨_, rfl⟩
          have tv : u.tdiv 256 = v := by rw [Int.tdiv_eq_ediv_of_nonneg u0]; exact hv
          have v0 : 0 ≤ v := by omega
          have v1 : v < 4294967296 := by omega
          obtain ⟨b0, hb0⟩ : ∃ bb, byteI v = bb := ⟨_, rfl⟩
          have fb0 : v % 256 = (b0.toNat : Int) := by rw [← hb0, byteI_toNat]
          have gb0 : v.tmod 256 = (b0.toNat : Int) := by rw [Int.tmod_eq_emod_of_nonneg v0]; exact fb0
          have wb0 : IntKind.u8.wrap (b0.toNat : Int) = (b0.toNat : Int) := by have := b0.toNat_lt; rw [IntKind.wrap_u8]; omega
          obtain ⟨v9, hv9⟩ : ∃ yy, v / 256 = yy := ⟨_, rfl⟩
          have tv9 : v.tdiv 256 = v9 := by rw [Int.tdiv_eq_ediv_of_nonneg v0]; exact hv9
          have v90 : 0 ≤ v9 := by omega
          have v91 : v9 < 4294967296 := by omega
          have i3 : p + 3 < 32 := by omega
          obtain ⟨V3, hV3⟩ : ∃ VV, wr.setCell ⟨gO, p + 3, none⟩ (.int .u8 (b3.toNat : Int)) = VV := ⟨_, rfl⟩
          have eV3 : V3 = wr.setRow gO (u8s (L.set (p + 3) b3)).toArray := by
            rw [← hV3, setCell_row _ (by rw [rOwr]; simp; omega), rOwr]
            congr 1
            simp only [List.setIfInBounds_toArray, u8s_setB]
          obtain ⟨L3, hL3⟩ : ∃ l, L.set (p + 3) b3 = l := ⟨_, rfl⟩
          rw [hL3] at eV3
          have lL3 : L3.length = 32 := by rw [← hL3, List.length_set]; exact lL
          have rOV3 : row V3 gO = (u8s L3).toArray := by rw [eV3]; exact row_setRow_same (by rw [rOwr]; simp; omega) (by rw [rOwr]; simp; omega)
          have rHV3 : row V3 gH = (u32s H).toArray := by rw [eV3, row_setRow_other _ _ _ (by omega)]; exact rHwr
          have rRV3 : row V3 w.heap.size = (zeros 32 (.int .u8 0)).toArray := by rw [eV3, row_setRow_other _ _ _ (by omega)]; exact rRwr
          have zV3 : gO < V3.heap.size := by rw [eV3, setRow_size]; exact zwr
          have bV3 : Below w.heap.size w V3 := by rw [eV3]; exact Below.setRow bwr (by omega) _
          have i2 : p + 2 < 32 := by omega
          obtain ⟨V2, hV2⟩ : ∃ VV, V3.setCell ⟨gO, p + 2, none⟩ (.int .u8 (b2.toNat : Int)) = VV := ⟨_, rfl⟩
          have eV2 : V2 = V3.setRow gO (u8s (L3.set (p + 2) b2)).toArray := by
            rw [← hV2, setCell_row _ (by rw [rOV3]; simp; omega), rOV3]
            congr 1
            simp only [List.setIfInBounds_toArray, u8s_setB]
          obtain ⟨L2, hL2⟩ : ∃ l, L3.set (p + 2) b2 = l := ⟨_, rfl⟩
          rw [hL2] at eV2
          have lL2 : L2.length = 32 := by rw [← hL2, List.length_set]; exact lL3
          have rOV2 : row V2 gO = (u8s L2).toArray := by rw [eV2]; exact row_setRow_same (by rw [rOV3]; simp; omega) (by rw [rOV3]; simp; omega)
          have rHV2 : row V2 gH = (u32s H).toArray := by rw [eV2, row_setRow_other _ _ _ (by omega)]; exact rHV3
          have rRV2 : row V2 w.heap.size = (zeros 32 (.int .u8 0)).toArray := by rw [eV2, row_setRow_other _ _ _ (by omega)]; exact rRV3
          have zV2 : gO < V2.heap.size := by rw [eV2, setRow_size]; exact zV3
          have bV2 : Below w.heap.size w V2 := by rw [eV2]; exact Below.setRow bV3 (by omega) _
          have i1 : p + 1 < 32 := by omega
          obtain ⟨V1, hV1⟩ : ∃ VV, V2.setCell ⟨gO, p + 1, none⟩ (.int .u8 (b1.toNat : Int)) = VV := ⟨_, rfl⟩
          have eV1 : V1 = V2.setRow gO (u8s (L2.set (p + 1) b1)).toArray := by
            rw [← hV1, setCell_row _ (by rw [rOV2]; simp; omega), rOV2]
            congr 1
            simp only [List.setIfInBounds_toArray, u8s_setB]
          obtain ⟨L1, hL1⟩ : ∃ l, L2.set (p + 1) b1 = l := ⟨_, rfl⟩
          rw [hL1] at eV1
          have lL1 : L1.length = 32 := by rw [← hL1, List.length_set]; exact lL2
          have rOV1 : row V1 gO = (u8s L1).toArray := by rw [eV1]; exact row_setRow_same (by rw [rOV2]; simp; omega) (by rw [rOV2]; simp; omega)
          have rHV1 : row V1 gH = (u32s H).toArray := by rw [eV1, row_setRow_other _ _ _ (by omega)]; exact rHV2
          have rRV1 : row V1 w.heap.size = (zeros 32 (.int .u8 0)).toArray := by rw [eV1, row_setRow_other _ _ _ (by omega)]; exact rRV2
          have zV1 : gO < V1.heap.size := by rw [eV1, setRow_size]; exact zV2
          have bV1 : Below w.heap.size w V1 := by rw [eV1]; exact Below.setRow bV2 (by omega) _
          have i0 : p < 32 := by omega
          obtain ⟨V0, hV0⟩ : ∃ VV, V1.setCell ⟨gO, p, none⟩ (.int .u8 (b0.toNat : Int)) = VV := ⟨_, rfl⟩
          have eV0 : V0 = V1.setRow gO (u8s (L1.set (p) b0)).toArray := by
            rw [← hV0, setCell_row _ (by rw [rOV1]; simp; omega), rOV1]
            congr 1
            simp only [List.setIfInBounds_toArray, u8s_setB]
          obtain ⟨L0, hL0⟩ : ∃ l, L1.set (p) b0 = l := ⟨_, rfl⟩
          rw [hL0] at eV0
          have lL0 : L0.length = 32 := by rw [← hL0, List.length_set]; exact lL1
          have rOV0 : row V0 gO = (u8s L0).toArray := by rw [eV0]; exact row_setRow_same (by rw [rOV1]; simp; omega) (by rw [rOV1]; simp; omega)
          have rHV0 : row V0 gH = (u32s H).toArray := by rw [eV0, row_setRow_other _ _ _ (by omega)]; exact rHV1
          have rRV0 : row V0 w.heap.size = (zeros 32 (.int .u8 0)).toArray := by rw [eV0, row_setRow_other _ _ _ (by omega)]; exact rRV1
          have zV0 : gO < V0.heap.size := by rw [eV0, setRow_size]; exact zV1
          have bV0 : Below w.heap.size w V0 := by rw [eV0]; exact Below.setRow bV1 (by omega) _
          rw [hb3, hy, hb2, hu, hb1, hv, hb0, hL3, hL2, hL1, hL0] at hnx
          have HNX := Lib.hid hnx
          clear hnx hL hxg hp hb3 hb2 hb1 hb0 hL3 hL2 hL1 hL0 hv9 tv9 v90 v91 rO rH rR hz hbel eV3 eV2 eV1 eV0
          go_wp2_with fail
          refine wp_loop_rounds 5 ?_
          rw [rounds_succ]
          go_wp2_with fail
          rw [rounds_succ]
          go_wp2_with fail
          rw [rounds_succ]
          go_wp2_with fail
          rw [rounds_succ]
          go_wp2_with fail
          rw [rounds_succ]
          go_wp2_with fail
          exact ⟨⟨n + 1, by omega, by simp, by rw [HNX.out]; exact rOV0, rHV0, rRV0, zV0, bV0⟩, by simp [intOf]; omega⟩
        · obtain rfl : n = 8 := by omega
          rw [show ((8 : Nat) : Int) = 8 from rfl]
          have hfb : upTo (bigF H) (4 * 8) (List.replicate 32 0) = shaK s := by rw [HBG.out]; unfold bigL; rfl
          rw [hfb] at rO
          have hsl := shaK_length s
          obtain ⟨Y, hY⟩ : ∃ Y, shaK s = Y := ⟨_, rfl⟩
          rw [hY] at rO hsl
          have HY := Lib.hid hY
          clear hfb hY
          go_wp2_with fail
          have hfin := row_setRow_same (w := wr) (g := w.heap.size) (c := (u8s Y).toArray) (by rw [rR]; simp) (by rw [rR]; simp [hsl])
          (try simp only [Exit.inBlock, Exit.then])
          refine bodyPost_ret (results_1 rfl (resOk_row rfl ?_)) rfl ?_
          · rw [hfin]
            simp [hsl]
          · exact ⟨by rw [hfin, HY.out], Below.setRow hbel (by omega) _⟩
end Go.Proofs.Ytakkicppgkmokaa
