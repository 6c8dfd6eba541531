/- Contracts of package cha: a double round, the first state, a state's bytes. -/
import Derived.Test.YtjeclimoknilcaaCha
set_option linter.unusedSimpArgs false
set_option linter.unusedVariables false
namespace Go.Proofs.Ytjeclimoknilcaa
open Go.RowKit
def dblF (k : Nat) (l : List Int) : List Int := turnL l k (4 + k) (8 + k) (12 + k)
def dblG (k : Nat) (l : List Int) : List Int := turnL l k (4 + (k + 1) % 4) (8 + (k + 2) % 4) (12 + (k + 3) % 4)
def dblL (l : List Int) : List Int := upTo dblG 4 (upTo dblF 4 l)
theorem dblF_length (k : Nat) (l : List Int) : (dblF k l).length = l.length := turnL_length _ _ _ _ _
theorem dblG_length (k : Nat) (l : List Int) : (dblG k l).length = l.length := turnL_length _ _ _ _ _
theorem dblL_length (l : List Int) : (dblL l).length = l.length := by rw [dblL, upTo_len dblG_length, upTo_len dblF_length]
attribute [local irreducible] turnL upTo
set_option maxRecDepth 20000 in
set_option maxHeartbeats 1000000 in
theorem double_any (l : List Int) (S : Nat) (w : World) (hl : l.length = 16) (hS0 : row w S = (u32s l).toArray) :
    Calls Try.prog 44 #[.pointer (some ⟨S, 0, none⟩)] w fun e w' => e = .returned (.tuple #[]) ∧ row w' S = (u32s (dblL l)).toArray ∧ BelowBut w.heap.size S w w' := by
  have zS : S < w.heap.size := lt_of_row (i := 0) (by rw [hS0]; simp; omega)
  go_enter Try.func44, Try.ntmps44
  go_wp2_with fail
  go_loopw [6] (fun i wr => ∃ k : Nat, k ≤ 4 ∧ i = .int .i64 k ∧ row wr w.heap.size = #[.pointer (some ⟨S, 0, none⟩)] ∧ row wr S = (u32s (upTo dblF k l)).toArray ∧ w.heap.size < wr.heap.size ∧ BelowBut w.heap.size S w wr) (fun i _ => 4 - (intOf i).toNat)
  case atStart =>
    refine ⟨0, by omega, rfl, by simp [go_sem], ?_, by simp, BelowBut.of (by (repeat (first | exact Below.refl _ _ | refine Below.alloc ?_ (by first | (simp; done) | (simp; omega) | omega) _ | refine Below.drew ?_ | refine Below.setRow ?_ (by first | (simp; done) | (simp; omega) | omega) _ | refine Below.setCell ?_ (by first | (simp; done) | (simp; omega) | omega) _)))⟩
    rw [upTo]
    simp [go_sem, zS, hS0]
  case round =>
    obtain ⟨k, hk, rfl, hV, hS, hz, hbel⟩ := hrel
    obtain ⟨L, hL⟩ : ∃ L, upTo dblF k l = L := ⟨_, rfl⟩
    have hLl : L.length = 16 := by rw [← hL, upTo_len dblF_length, hl]
    rw [hL] at hS
    have HL := Lib.hid hL
    clear hL
    by_cases hlt : k < 4
    · have h1 : (k : Int) < 4 := by omega
      have HT := turn_any L k (4 + k) (8 + k) (12 + k) w.heap.size S wr hLl (by omega) (by omega) (by omega) (by omega) hV hS
      push_cast at HT
      have HT' := Lib.hid HT
      clear HT
      go_wp2_with fail
      refine (HT'.out).mono ?_
      rintro e w2 ⟨rfl, r2, b2⟩
      have z2 := b2.size
      have hV2 := (b2.row hz (show w.heap.size ≠ S by omega)).trans hV
      clear HT'
      go_wp2_with fail
      go_roundw
      case rel =>
        refine ⟨k + 1, by omega, rfl, hV2, ?_, by omega, hbel.trans (b2.mono (by omega))⟩
        rw [upTo, HL.out]
        exact r2
      case measure => simp [intOf]; omega
    · obtain rfl : k = 4 := by omega
      rw [show ((4 : Nat) : Int) = 4 from rfl]
      go_wp2_with fail
      have HF := HL
      have hL4 := hLl
      clear HL hLl
      go_loopw [19] (fun i wr => ∃ k : Nat, k ≤ 4 ∧ i = .int .i64 k ∧ row wr w.heap.size = #[.pointer (some ⟨S, 0, none⟩)] ∧ row wr S = (u32s (upTo dblG k L)).toArray ∧ w.heap.size < wr.heap.size ∧ BelowBut w.heap.size S w wr) (fun i _ => 4 - (intOf i).toNat)
      case atStart =>
        refine ⟨0, by omega, rfl, hV, ?_, hz, hbel⟩
        rw [upTo]
        exact hS
      case round =>
        clear hS hV hz hbel hk hlt
        obtain ⟨k, hk, rfl, hV, hS, hz, hbel⟩ := hrel
        obtain ⟨M, hL⟩ : ∃ M, upTo dblG k L = M := ⟨_, rfl⟩
        have hLl : M.length = 16 := by rw [← hL, upTo_len dblG_length, hL4]
        rw [hL] at hS
        have HL := Lib.hid hL
        clear hL
        by_cases hlt : k < 4
        · have h1 : (k : Int) < 4 := by omega
          have HT := turn_any M k (4 + (k + 1) % 4) (8 + (k + 2) % 4) (12 + (k + 3) % 4) w.heap.size S wr hLl (by omega) (by omega) (by omega) (by omega) hV hS
          push_cast at HT
          have HT' := Lib.hid HT
          clear HT
          go_wp2_with fail
          refine (HT'.out).mono ?_
          rintro e w2 ⟨rfl, r2, b2⟩
          have z2 := b2.size
          have hV2 := (b2.row hz (show w.heap.size ≠ S by omega)).trans hV
          clear HT'
          go_wp2_with fail
          go_roundw
          case rel =>
            refine ⟨k + 1, by omega, rfl, hV2, ?_, by omega, hbel.trans (b2.mono (by omega))⟩
            rw [upTo, HL.out]
            exact r2
          case measure => simp [intOf]; omega
        · obtain rfl : k = 4 := by omega
          rw [show ((4 : Nat) : Int) = 4 from rfl]
          go_wp2_with fail
          go_end0
          refine ⟨rfl, ?_, hbel⟩
          rw [hS, dblL, HF.out, HL.out]
end Go.Proofs.Ytjeclimoknilcaa
