/- Contracts of package curve: places of keys, clamped secrets. -/
import Derived.Test.YtohhiibgjcbpiaaCurK
set_option linter.unusedSimpArgs false
set_option linter.unusedVariables false
namespace Go.Proofs.Ytohhiibgjcbpiaa
open Go.RowKit
def clampL (l : List UInt8) : List UInt8 := (l.set 0 (l.getD 0 0 &&& 248)).set 31 ((l.getD 31 0 &&& 127) ||| 64)
theorem clampL_length (l : List UInt8) : (clampL l).length = l.length := by simp [clampL]
def byteAt (l : List UInt8) (i : Nat) : Int := ((l.getD i 0).toNat : Int)
def ofF (l : List UInt8) (i : Nat) (x : List Int) : List Int := x.set i (byteAt l (2 * i) + byteAt l (2 * i + 1) * 256)
def ofL (l : List UInt8) : List Int := let y := upTo (ofF l) 16 (List.replicate 16 0); y.set 15 (y.getD 15 0 % 32768)
theorem ofF_length (l : List UInt8) (i : Nat) (x : List Int) : (ofF l i x).length = x.length := by simp [ofF]
theorem ofL_length (l : List UInt8) : (ofL l).length = 16 := by simp [ofL, upTo_length (ofF_length l)]
theorem join_low (a b : Nat) (ha : a < 256) (hb : b < 256) : bits .or .i64 (a : Int) ((b : Int) * 256) = (a : Int) + (b : Int) * 256 := by
  have h := bits_join .i64 63 (by decide) wraps_i64 8 ((b : Int) * 256) a (by omega) (by omega) (by omega) (by omega) (by omega) (by omega)
  have hc : bits .or .i64 (a : Int) ((b : Int) * 256) = bits .or .i64 ((b : Int) * 256) (a : Int) := by
    unfold bits
    simp [BitVec.or_comm]
  rw [hc, h]
  omega
theorem mask15 (n : Int) (h0 : 0 ≤ n) (h1 : n < 65536) : bits .and .i64 n 32767 = n % 32768 := by
  have := bits_mask .i64 63 (by decide) wraps_i64 15 (by decide) n h0 (by omega)
  simpa using this
attribute [local irreducible] upTo
set_option maxRecDepth 20000 in
set_option maxHeartbeats 600000 in
theorem of_any (l : List UInt8) (w : World) (hl : l.length = 32) :
    Calls Try.prog 21 #[.agg (u8s l).toArray] w fun e w' => e = .returned (.agg (i64s (ofL l)).toArray) ∧ Below w.heap.size w w' := by
  go_enter Try.func21, Try.ntmps21
  go_wp2_with fail
  go_loopw [5] (fun i wr => ∃ k : Nat, k ≤ 16 ∧ i = .int .i64 k ∧ row wr w.heap.size = (u8s l).toArray ∧ row wr (w.heap.size + 1) = (zeros 16 (Value.int .i64 0)).toArray ∧ row wr (w.heap.size + 1 + 1) = (i64s (upTo (ofF l) k (List.replicate 16 0))).toArray ∧ Below w.heap.size w wr) (fun i _ => 16 - (intOf i).toNat)
  case atStart =>
    refine ⟨0, by omega, rfl, by simp [go_sem], by simp [go_sem], by simp [go_sem, upTo]; rfl, ?_⟩
    (repeat (first | exact Below.refl _ _ | refine Below.alloc ?_ (by first | (simp; done) | (simp; omega) | omega) _ | refine Below.drew ?_ | refine Below.setRow ?_ (by first | (simp; done) | (simp; omega) | omega) _ | refine Below.setCell ?_ (by first | (simp; done) | (simp; omega) | omega) _))
  case round =>
    obtain ⟨k, hk, rfl, hX, hR, hO, hbel⟩ := hrel
    obtain ⟨L, hL⟩ : ∃ L, upTo (ofF l) k (List.replicate 16 0) = L := ⟨_, rfl⟩
    have hLl : L.length = 16 := by rw [← hL, upTo_length (ofF_length l)]; simp
    rw [hL] at hO
    have HL := Lib.hid hL
    clear hL
    by_cases hlt : k < 16
    · have h1 : (k : Int) < 16 := by omega
      have hk1 : k < L.length := by omega
      have hk2 : 2 * k < l.length := by omega
      have hk3 : 2 * k + 1 < l.length := by omega
      have hk4 : 2 * k < 32 := by omega
      have hk5 : 2 * k + 1 < 32 := by omega
      have hb0 := (l[2 * k]).toNat_lt
      have hb1 := (l[2 * k + 1]).toNat_lt
      have hj := join_low _ _ hb0 hb1
      go_wp2_with fail
      go_region
      go_wp2_with fail
      go_roundw
      case rel =>
        have e : upTo (ofF l) (k + 1) (List.replicate 16 0) = L.set k ((l[2 * k].toNat : Int) + (l[2 * k + 1].toNat : Int) * 256) := by
          rw [upTo, HL.out]
          simp [ofF, byteAt, List.getD_eq_getElem?_getD, hk2, hk3]
        refine ⟨k + 1, by omega, rfl, by (try show row (World.setRow _ _ _) _ = _); rw [row_setRow_other _ _ _ (by omega)]; exact hX, by (try show row (World.setRow _ _ _) _ = _); rw [row_setRow_other _ _ _ (by omega)]; exact hR, ?_, ?_⟩
        · rw [e]
          exact row_setRow_same (by rw [hO]; simp; omega) (by rw [hO]; simp)
        · refine Below.drew (Below.setRow hbel (by omega) _)
      case measure => simp [intOf]; omega
    · obtain rfl : k = 16 := by omega
      rw [show ((16 : Nat) : Int) = 16 from rfl]
      have h15 : 15 < L.length := by omega
      have e15 : L.getD 15 0 = byteAt l 30 + byteAt l 31 * 256 := by
        rw [← HL.out, upTo, ofF]
        simp [List.getD_eq_getElem?_getD, upTo_length (ofF_length l)]
      have hg : L.getD 15 0 = L[15] := by simp [List.getD_eq_getElem?_getD, h15]
      have hb0 := (l.getD 30 0).toNat_lt
      have hb1 := (l.getD 31 0).toNat_lt
      have hm : bits .and .i64 L[15] 32767 = L[15] % 32768 := by
        rw [← hg, e15]
        unfold byteAt
        exact mask15 _ (by omega) (by omega)
      have e : L.set 15 (L[15] % 32768) = ofL l := by
        simp only [ofL, HL.out]
        rw [hg]
      have hol := ofL_length l
      have hO1 := row_setRow_same (w := wr) (g := w.heap.size + 1 + 1) (c := (i64s (L.set 15 (L[15] % 32768))).toArray) (by rw [hO]; simp; omega) (by rw [hO]; simp)
      have hR1 := row_setRow_other (w := wr) (w.heap.size + 1 + 1) (w.heap.size + 1) (i64s (L.set 15 (L[15] % 32768))).toArray (by omega)
      rw [hR] at hR1
      clear hg e15
      go_wp2_with fail
      rw [e] at hO1 hR1
      (try rw [e])
      have hfin := row_setRow_same (w := wr.setRow (w.heap.size + 1 + 1) (i64s (ofL l)).toArray) (g := w.heap.size + 1) (c := (i64s (ofL l)).toArray) (by rw [hR1]; simp) (by rw [hR1]; simp [hol])
      (try simp only [Exit.inBlock, Exit.then])
      refine bodyPost_ret (results_1 rfl (resOk_row rfl ?_)) rfl ?_
      · rw [hfin]
        simp [hol]
      refine ⟨by rw [hfin], ?_⟩
      exact Below.setRow (Below.setRow hbel (by omega) _) (by omega) _
set_option maxRecDepth 20000 in
set_option maxHeartbeats 600000 in
theorem clamp_any (l : List UInt8) (w : World) (hl : l.length = 32) :
    Calls Try.prog 11 #[.agg (u8s l).toArray] w fun e w' => e = .returned (.agg (u8s (clampL l)).toArray) ∧ Below w.heap.size w w' := by
  have h0 : 0 < l.length := by omega
  have h31 : 31 < l.length := by omega
  obtain ⟨c0, hc0⟩ : ∃ c : UInt8, l[0] &&& 248 = c := ⟨_, rfl⟩
  obtain ⟨c1, hc1⟩ : ∃ c : UInt8, l[31] &&& 127 = c := ⟨_, rfl⟩
  obtain ⟨c2, hc2⟩ : ∃ c : UInt8, c1 ||| 64 = c := ⟨_, rfl⟩
  have e0 : bits .and .u8 (l[0].toNat : Int) 248 = (c0.toNat : Int) := by rw [← hc0]; exact and_u8 l[0] 248
  have e31 : bits .and .u8 (l[31].toNat : Int) 127 = (c1.toNat : Int) := by rw [← hc1]; exact and_u8 l[31] 127
  have e32 : bits .or .u8 (c1.toNat : Int) 64 = (c2.toNat : Int) := by rw [← hc2]; exact or_u8 c1 64
  have es := u8s_setB l 0 c0
  have es2 := u8s_setB (l.set 0 c0) 31 c2
  have hc : clampL l = (l.set 0 c0).set 31 c2 := by simp [clampL, List.getD_eq_getElem?_getD, h0, h31, hc0, hc1, hc2]
  rw [hc]
  clear hc hc0 hc1 hc2
  go_enter Try.func11, Try.ntmps11
  go_wp2_with fail
  ((try simp only [Exit.inBlock, Exit.then]); refine bodyPost_ret (results_1 rfl (resOk_row rfl ?_)) rfl ?_; (simp [go_sem]))
  · exact hl
  refine ⟨by simp [go_sem, hl], ?_⟩
  (repeat (first | exact Below.refl _ _ | refine Below.alloc ?_ (by first | (simp; done) | (simp; omega) | omega) _ | refine Below.drew ?_ | refine Below.setRow ?_ (by first | (simp; done) | (simp; omega) | omega) _ | refine Below.setCell ?_ (by first | (simp; done) | (simp; omega) | omega) _))
end Go.Proofs.Ytohhiibgjcbpiaa
