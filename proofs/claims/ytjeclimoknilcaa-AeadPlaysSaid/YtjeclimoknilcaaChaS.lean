/- Contracts of package cha: a block of the stream, Block. -/
import Derived.Test.YtjeclimoknilcaaChaE
set_option linter.unusedSimpArgs false
set_option linter.unusedVariables false
namespace Go.Proofs.Ytjeclimoknilcaa
open Go.RowKit
def twentyF (_ : Nat) (l : List Int) : List Int := dblL l
def addF (v : List Int) (i : Nat) (l : List Int) : List Int := l.set i ((l.getD i 0 + v.getD i 0) % 4294967296)
def streamW (v : List Int) : List Int := upTo (addF v) 16 (upTo twentyF 10 v)
def streamL (k : List UInt8) (count : Int) (nonce : List UInt8) : List UInt8 := outL (streamW (firstL k count nonce))
theorem twentyF_length (i : Nat) (l : List Int) : (twentyF i l).length = l.length := dblL_length l
theorem addF_length (v : List Int) (i : Nat) (l : List Int) : (addF v i l).length = l.length := by simp [addF]
theorem streamW_length (v : List Int) : (streamW v).length = v.length := by rw [streamW, upTo_len (addF_length v), upTo_len twentyF_length]
theorem streamL_length (k : List UInt8) (count : Int) (nonce : List UInt8) : (streamL k count nonce).length = 64 := outL_length _
attribute [local irreducible] firstL dblL outL upTo
set_option maxRecDepth 20000 in
set_option maxHeartbeats 2000000 in
theorem stream_any (k : List UInt8) (count : Int) (nonce : List UInt8) (w : World) (hk : k.length = 32) (hn : nonce.length = 12) :
    Calls Try.prog 28 #[.agg (u8s k).toArray, .int .u32 count, .string ⟨nonce.toArray⟩] w fun e w' => e = .returned (.agg (u8s (streamL k count nonce)).toArray) ∧ Below w.heap.size w w' := by
  have HF := Lib.hid (fun w => first_any k count nonce w hk hn)
  have hfl := firstL_length k count nonce
  obtain ⟨f, hf⟩ : ∃ f, firstL k count nonce = f := ⟨_, rfl⟩
  have hst : streamL k count nonce = outL (streamW f) := by rw [streamL, hf]
  rw [hst]
  rw [hf] at HF hfl
  clear hf hst
  have hol := outL_length (streamW f)
  go_enter Try.func28, Try.ntmps28
  go_wp2_with fail
  refine (HF.out _).mono ?_
  rintro e w1 ⟨rfl, b1⟩
  have hR : row w1 (w.heap.size + 1) = (zeros 64 (.int .u8 0)).toArray := by rw [row_below b1 (by simp)]; simp [go_sem]
  have z1 := (b1).size
  try simp at z1
  replace b1 := below_of b1 (show Below (w).heap.size w _ from by (repeat (first | exact Below.refl _ _ | refine Below.alloc ?_ (by first | (simp; done) | (simp; omega) | omega) _ | refine Below.drew ?_ | refine Below.setRow ?_ (by first | (simp; done) | (simp; omega) | omega) _ | refine Below.setCell ?_ (by first | (simp; done) | (simp; omega) | omega) _))) (by first | (simp; done) | (simp; omega) | omega)
  clear HF
  go_wp2_with fail
  go_loopw [15] (fun i wr => ∃ m : Nat, m ≤ 10 ∧ i = .int .i64 m ∧ row wr (w1.heap.size + 1) = (u32s (upTo twentyF m f)).toArray ∧ row wr w1.heap.size = (u32s f).toArray ∧ row wr (w.heap.size + 1) = (zeros 64 (.int .u8 0)).toArray ∧ w1.heap.size + 1 < wr.heap.size ∧ Below w.heap.size w wr) (fun i _ => 10 - (intOf i).toNat)
  case atStart =>
    have q1 : w.heap.size + 1 < w1.heap.size := by omega
    refine ⟨0, by omega, rfl, ?_, ?_, ?_, by simp, ?_⟩
    · rw [upTo]
      exact row_alloc_at _ _ _ (by simp)
    · rw [row_alloc_past _ _ (by simp)]
      exact row_alloc_at _ _ _ rfl
    · rw [row_alloc_past _ _ (by simp; omega), row_alloc_past _ _ (by omega)]
      exact hR
    · exact Below.alloc (Below.alloc b1 (by omega) _) (by simp; omega) _
  case round =>
    clear hR b1
    obtain ⟨m, hm, rfl, hW, hV, hR, hz, hbel⟩ := hrel
    obtain ⟨L, hL⟩ : ∃ L, upTo twentyF m f = L := ⟨_, rfl⟩
    have hLl : L.length = 16 := by rw [← hL, upTo_len twentyF_length, hfl]
    rw [hL] at hW
    have HL := Lib.hid hL
    clear hL
    by_cases hlt : m < 10
    · have h1 : (m : Int) < 10 := by omega
      go_wp2_with fail
      refine (double_any L _ _ hLl hW).mono ?_
      rintro e w2 ⟨rfl, r2, b2⟩
      have z2 := b2.size
      have hV2 := (b2.row (by omega) (by omega)).trans hV
      have hR2 := (b2.row (by omega) (by omega)).trans hR
      go_wp2_with fail
      go_roundw
      case rel =>
        refine ⟨m + 1, by omega, rfl, ?_, hV2, hR2, by omega, Below.trans hbel ((b2.mono (by omega)).below (by omega))⟩
        rw [upTo, HL.out]
        exact r2
      case measure => simp [intOf]; omega
    · obtain rfl : m = 10 := by omega
      rw [show ((10 : Nat) : Int) = 10 from rfl]
      have H10 := HL
      have h10 := hLl
      clear HL hLl hlt hm
      go_wp2_with fail
      go_loopw [19] (fun i wq => ∃ m : Nat, m ≤ 16 ∧ i = .int .i64 m ∧ row wq (w1.heap.size + 1) = (u32s (upTo (addF f) m L)).toArray ∧ row wq w1.heap.size = (u32s f).toArray ∧ row wq (w.heap.size + 1) = (zeros 64 (.int .u8 0)).toArray ∧ w1.heap.size + 1 < wq.heap.size ∧ Below w.heap.size w wq) (fun i _ => 16 - (intOf i).toNat)
      case atStart =>
        refine ⟨0, by omega, rfl, ?_, hV, hR, hz, hbel⟩
        rw [upTo]; exact hW
      case round =>
        clear hR hW hV hz hbel
        obtain ⟨m, hm, rfl, hW, hV, hR, hz, hbel⟩ := hrel
        obtain ⟨M, hM⟩ : ∃ M, upTo (addF f) m L = M := ⟨_, rfl⟩
        have hMl : M.length = 16 := by rw [← hM, upTo_len (addF_length f), h10]
        rw [hM] at hW
        have HM := Lib.hid hM
        clear hM
        by_cases hlt : m < 16
        · have h1 : (m : Int) < 16 := by omega
          have k1 : m < M.length := by omega
          have k2 : m < f.length := by omega
          go_wp2_with fail
          go_region
          go_wp2_with fail
          go_roundw
          case rel =>
            have e : upTo (addF f) (m + 1) L = M.set m ((M[m] + f[m]) % 4294967296) := by
              rw [upTo, HM.out, addF, getD_elem _ _ _ k1, getD_elem _ _ _ k2]
            refine ⟨m + 1, by omega, rfl, ?_, by (try show row (World.setRow _ _ _) _ = _); rw [row_setRow_other _ _ _ (by omega)]; exact hV, by (try show row (World.setRow _ _ _) _ = _); rw [row_setRow_other _ _ _ (by omega)]; exact hR, by simp; omega, Below.drew (Below.setRow hbel (by omega) _)⟩
            rw [e]
            exact row_setRow_same (by rw [hW]; simp; omega) (by rw [hW]; simp)
          case measure => simp [intOf]; omega
        · obtain rfl : m = 16 := by omega
          rw [show ((16 : Nat) : Int) = 16 from rfl]
          have e : M = streamW f := by rw [streamW, H10.out]; exact HM.out.symm
          have hMl' := hMl
          rw [e] at hW hMl'
          go_wp2_with fail
          refine (bytes_any (streamW f) _ _ hMl' hW).mono ?_
          rintro e w3 ⟨rfl, b3⟩
          have z3 := b3.size
          have hR3 := (row_below b3 (by omega)).trans hR
          go_wp2_with fail
          have hfin := row_setRow_same (w := w3) (g := w.heap.size + 1) (c := (u8s (outL (streamW f))).toArray) (by rw [hR3]; simp) (by rw [hR3]; simp [hol])
          (try simp only [Exit.inBlock, Exit.then])
          refine bodyPost_ret (results_1 rfl (resOk_row rfl ?_)) rfl ?_
          · rw [hfin]
            simp [hol]
          refine ⟨by rw [hfin], ?_⟩
          exact Below.setRow (Below.trans hbel (b3.mono (by omega))) (by omega) _
theorem block_no (k : List UInt8) (count : Int) (nonce : List UInt8) (w : World) (hn : nonce.length ≠ 12) :
    Calls Try.prog 19 #[.agg (u8s k).toArray, .int .u32 count, .string ⟨nonce.toArray⟩] w fun e w' => e = .returned (.tuple #[.string ⟨#[]⟩, .int .i64 1]) ∧ Below w.heap.size w w' := by
  have h : ((nonce.length : Int) != 12) = true := by simp; omega
  go_enter Try.func19, Try.ntmps19
  go_wp2_with fail
  go_ret2
  exact ⟨rfl, (by (repeat (first | exact Below.refl _ _ | refine Below.alloc ?_ (by first | (simp; done) | (simp; omega) | omega) _ | refine Below.drew ?_ | refine Below.setRow ?_ (by first | (simp; done) | (simp; omega) | omega) _ | refine Below.setCell ?_ (by first | (simp; done) | (simp; omega) | omega) _)))⟩
set_option maxRecDepth 20000 in
theorem block_any (k : List UInt8) (count : Int) (nonce : List UInt8) (w : World) (hk : k.length = 32) (hn : nonce.length = 12) :
    Calls Try.prog 19 #[.agg (u8s k).toArray, .int .u32 count, .string ⟨nonce.toArray⟩] w fun e w' => e = .returned (.tuple #[.string ⟨(streamL k count nonce).toArray⟩, .int .i64 0]) ∧ Below w.heap.size w w' := by
  have HS := Lib.hid (fun w => stream_any k count nonce w hk hn)
  obtain ⟨t, ht⟩ : ∃ t, streamL k count nonce = t := ⟨_, rfl⟩
  have hl : t.length = 64 := by rw [← ht]; exact streamL_length _ _ _
  rw [ht] at HS ⊢
  clear ht
  have h : ((nonce.length : Int) != 12) = false := by simp; omega
  go_enter Try.func19, Try.ntmps19
  go_wp2_with fail
  refine (HS.out _).mono ?_
  rintro e w1 ⟨rfl, b1⟩
  replace b1 := below_of b1 (show Below (w).heap.size w _ from by (repeat (first | exact Below.refl _ _ | refine Below.alloc ?_ (by first | (simp; done) | (simp; omega) | omega) _ | refine Below.drew ?_ | refine Below.setRow ?_ (by first | (simp; done) | (simp; omega) | omega) _ | refine Below.setCell ?_ (by first | (simp; done) | (simp; omega) | omega) _))) (by first | (simp; done) | (simp; omega) | omega)
  clear h
  go_wp2_with fail
  go_ret2
  exact ⟨rfl, Below.alloc b1 (by have := b1.size; omega) _⟩
end Go.Proofs.Ytjeclimoknilcaa
