/- Contracts of package oct: numbers and their bytes. -/
import Derived.Test.YtfopoijikdmiaaaGreatDoorRows
import Derived.Test.YtfopoijikdmiaaaGreatDoorJ2
import Derived.WalkSpells
import Derived.WalkLawsBesides
set_option linter.unusedSimpArgs false
set_option linter.unusedVariables false
set_option maxHeartbeats 8000000
set_option maxRecDepth 20000
namespace Go.Proofs.YtfopoijikdmiaaaGreatDoor
open Go.RowKit
theorem number_any (s : ByteArray) (w : World) (hs : s.size ≤ 7) :
  Calls Tryz.prog 149 #[.string s] w fun e w' => e = .returned (.tuple #[.int .i64 (numN s.data.toList), .int .i64 0]) ∧ w = w' := by
 go_enter Tryz.func149, Tryz.ntmps149
 go_wp2
 go_loop [4, 11] (fun n i => ∃ k : Nat, k ≤ s.size ∧ i = .int .i64 k ∧ n = .int .i64 (numN (s.data.toList.take k))) (fun _ i => s.size - (intOf i).toNat)
 case atStart => exact ⟨0, Nat.zero_le _, rfl, rfl⟩
 case round =>
  obtain ⟨k, hk, rfl, rfl⟩ := hrel
  by_cases hlt : k < s.size
  ·
   have hn : numN (s.data.toList.take k) < 281474976710656 := numN_le (k := 6) _ (by rw [List.length_take]; omega)
   have hb := s[k].toNat_lt
   have H := h_ (numN_snoc (s.data.toList.take k) s[k])
   rw [← take_snoc s k hlt] at H
   go_wp2
   go_round
   case rel => exact ⟨k + 1, by omega, by go_num, by rw [i64_join8 _ _ (by omega) (by omega) (by omega) (by omega), H.out]; go_num⟩
   case measure => simp [intOf]; omega
  ·
   go_wp2
   go_ret2
   have : k = s.size := by omega
   subst this
   rw [List.take_of_length_le (by simp)]
   exact ⟨rfl, rfl⟩
theorem olaid_any (n size : Nat) (w : World) (hn : n ≤ 4294967295) (hs : size ≤ 7) :
  Calls Tryz.prog 174 #[.int .i64 n, .int .i64 size] w fun e w' => e = .returned (.string ⟨(bytesN n size).toArray⟩) ∧ Below w.heap.size w w' := by
 go_enter Tryz.func174, Tryz.ntmps174
 go_wp2
 go_loopw [5, 6] (fun b i wr => ∃ k : Nat, k ≤ size ∧ i = .int .i64 ((size : Int) - 1 - k) ∧ wr.ownsRow w.heap.size 5 1 b k (u8s ((bytesN n size).take k)) ∧ Below w.heap.size w wr) (fun _ i _ => (intOf i + 1).toNat)
 case atStart => exact ⟨0, Nat.zero_le _, by simp, World.ownsRow_nil _ _ _ _, Below.refl _ _⟩
 case round =>
  obtain ⟨k, hk, rfl, hown, hbel⟩ := hrel
  by_cases hlt : k < size
  ·
   obtain ⟨j, hj⟩ : ∃ j : Nat, (size : Int) - 1 - k = j := ⟨size - 1 - k, by omega⟩
   rw [hj]
   have HJ := h_ hj
   have hj7 : j ≤ 6 := by omega
   clear hj
   have hsz := hbel.size
   have hb : ((n : Int) / 2 ^ (8 * j) % 256) = ((UInt8.ofNat (n / 256 ^ (size - 1 - k))).toNat : Int) := by
    have h1 := HJ.out
    have h2 : size - 1 - k = j := by omega
    rw [h2, byte_shift]
   have HB := h_ hb
   clear hb
   go_wp2_with (at_builtin; refine wpList_append_u8 rfl rfl inferInstance w.heap.size _ k _ rfl hown _ (UInt8.ofNat (n / 256 ^ (size - 1 - k))) rfl HB.out (by omega) hsz ?_)
   intro v' w1 hown1 hbel1
   have hlt' : k < (bytesN n size).length := by rw [bytesN_length]; exact hlt
   have e1 : (bytesN n size).take (k + 1) = (bytesN n size).take k ++ [UInt8.ofNat (n / 256 ^ (size - 1 - k))] := by
    rw [List.take_succ_eq_append_getElem hlt']
    simp [bytesN]
   have E1 := h_ e1
   clear e1
   go_wp2
   go_roundw
   case rel => exact ⟨k + 1, by omega, by have := HJ.out; simp; omega, by rw [E1.out, u8s_append]; exact hown1, hbel.trans hbel1⟩
   case measure => simp [intOf]
  ·
   obtain rfl : k = size := by omega
   have hi : (k : Int) - 1 - k = -1 := by omega
   rw [hi]
   rw [List.take_of_length_le (by rw [bytesN_length]; omega)] at hown
   have hc := convS_own (P := Tryz.prog) (src := 91) (dst := 9) hown
   go_wp2
   go_ret
   exact ⟨rfl, hbel⟩
theorem two_any (n : Int) (w : World) (h0 : 0 ≤ n) (h1 : n ≤ 65535) :
  Calls Tryz.prog 117 #[.int .i64 n] w fun e w' => e = .returned (.string ⟨(bytesN n.toNat 2).toArray⟩) ∧ Below w.heap.size w w' := by
 obtain ⟨m, rfl⟩ := Int.eq_ofNat_of_zero_le h0
 rw [Int.toNat_natCast]
 go_enter Tryz.func117, Tryz.ntmps117
 go_wp2_with (go_at_call 174; refine (olaid_any m 2 _ (by omega) (by omega)).mono ?_; rintro e w1 ⟨rfl, hb1⟩)
 go_ret
 exact ⟨rfl, hb1⟩
theorem four_any (n : Int) (w : World) (h0 : 0 ≤ n) (h1 : n ≤ 4294967295) :
  Calls Tryz.prog 116 #[.int .i64 n] w fun e w' => e = .returned (.string ⟨(bytesN n.toNat 4).toArray⟩) ∧ Below w.heap.size w w' := by
 obtain ⟨m, rfl⟩ := Int.eq_ofNat_of_zero_le h0
 rw [Int.toNat_natCast]
 go_enter Tryz.func116, Tryz.ntmps116
 go_wp2_with (go_at_call 174; refine (olaid_any m 4 _ (by omega) (by omega)).mono ?_; rintro e w1 ⟨rfl, hb1⟩)
 go_ret
 exact ⟨rfl, hb1⟩
end Go.Proofs.YtfopoijikdmiaaaGreatDoor
