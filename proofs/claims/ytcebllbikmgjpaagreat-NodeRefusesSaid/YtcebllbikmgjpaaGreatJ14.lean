/- Texts of this proof, merged: Oct, Arp, ArpB, Eth0. -/
import Derived.Test.YtcebllbikmgjpaaGreatRows
import Derived.Test.YtcebllbikmgjpaaGreatJ2
import Derived.WalkSpells
import Derived.WalkLawsBesides
import Derived.Deep.RegionHeld3
set_option linter.unusedSimpArgs false
set_option linter.unusedVariables false
set_option maxHeartbeats 8000000
set_option maxRecDepth 20000
namespace Go.Proofs.YtcebllbikmgjpaaGreat
section
open Go.RowKit
theorem number_any (s : ByteArray) (w : World) (hs : s.size ≤ 7) :
  Calls Tryz.prog 140 #[.string s] w fun e w' => e = .returned (.tuple #[.int .i64 (numN s.data.toList), .int .i64 0]) ∧ w = w' := by
 go_enter Tryz.func140, Tryz.ntmps140
 go_wp2
 go_loop [4, 11] (fun n i => ∃ k : Nat, k ≤ s.size ∧ i = .int .i64 k ∧ n = .int .i64 (numN (s.data.toList.take k))) (fun _ i => s.size - (intOf i).toNat)
 case atStart => exact ⟨0, Nat.zero_le _, rfl, rfl⟩
 case round =>
  obtain ⟨k, hk, rfl, rfl⟩ := hrel
  by_cases hlt : k < s.size
  ·
   have hn : numN (s.data.toList.take k) < 281474976710656 := numN_le (k := 6) _ (by rw [List.length_take]; omega)
   have hb := s[k].toNat_lt
   have H := h_ (numN_snoc (s.data.toList.take k) s[k])
   rw [← take_snoc s k hlt] at H
   go_wp2
   go_round
   case rel => exact ⟨k + 1, by omega, by go_num, by rw [i64_join8 _ _ (by omega) (by omega) (by omega) (by omega), H.out]; go_num⟩
   case measure => simp [intOf]; omega
  ·
   go_wp2
   go_ret2
   have : k = s.size := by omega
   subst this
   rw [List.take_of_length_le (by simp)]
   exact ⟨rfl, rfl⟩
theorem olaid_any (n size : Nat) (w : World) (hn : n ≤ 4294967295) (hs : size ≤ 7) :
  Calls Tryz.prog 156 #[.int .i64 n, .int .i64 size] w fun e w' => e = .returned (.string ⟨(bytesN n size).toArray⟩) ∧ Below w.heap.size w w' := by
 go_enter Tryz.func156, Tryz.ntmps156
 go_wp2
 go_loopw [5, 6] (fun b i wr => ∃ k : Nat, k ≤ size ∧ i = .int .i64 ((size : Int) - 1 - k) ∧ wr.ownsRow w.heap.size 5 1 b k (u8s ((bytesN n size).take k)) ∧ Below w.heap.size w wr) (fun _ i _ => (intOf i + 1).toNat)
 case atStart => exact ⟨0, Nat.zero_le _, by simp, World.ownsRow_nil _ _ _ _, Below.refl _ _⟩
 case round =>
  obtain ⟨k, hk, rfl, hown, hbel⟩ := hrel
  by_cases hlt : k < size
  ·
   obtain ⟨j, hj⟩ : ∃ j : Nat, (size : Int) - 1 - k = j := ⟨size - 1 - k, by omega⟩
   rw [hj]
   have HJ := h_ hj
   have hj7 : j ≤ 6 := by omega
   clear hj
   have hsz := hbel.size
   have hb : ((n : Int) / 2 ^ (8 * j) % 256) = ((UInt8.ofNat (n / 256 ^ (size - 1 - k))).toNat : Int) := by
    have h1 := HJ.out
    have h2 : size - 1 - k = j := by omega
    rw [h2, byte_shift]
   have HB := h_ hb
   clear hb
   go_wp2_with (at_builtin; refine wpList_append_u8 rfl rfl inferInstance w.heap.size _ k _ rfl hown _ (UInt8.ofNat (n / 256 ^ (size - 1 - k))) rfl HB.out (by omega) hsz ?_)
   intro v' w1 hown1 hbel1
   have hlt' : k < (bytesN n size).length := by rw [bytesN_length]; exact hlt
   have e1 : (bytesN n size).take (k + 1) = (bytesN n size).take k ++ [UInt8.ofNat (n / 256 ^ (size - 1 - k))] := by
    rw [List.take_succ_eq_append_getElem hlt']
    simp [bytesN]
   have E1 := h_ e1
   clear e1
   go_wp2
   go_roundw
   case rel => exact ⟨k + 1, by omega, by have := HJ.out; simp; omega, by rw [E1.out, u8s_append]; exact hown1, hbel.trans hbel1⟩
   case measure => simp [intOf]
  ·
   obtain rfl : k = size := by omega
   have hi : (k : Int) - 1 - k = -1 := by omega
   rw [hi]
   rw [List.take_of_length_le (by rw [bytesN_length]; omega)] at hown
   have hc := convS_own (P := Tryz.prog) (src := 201) (dst := 9) hown
   go_wp2
   go_ret
   exact ⟨rfl, hbel⟩
theorem two_any (n : Int) (w : World) (h0 : 0 ≤ n) (h1 : n ≤ 65535) :
  Calls Tryz.prog 112 #[.int .i64 n] w fun e w' => e = .returned (.string ⟨(bytesN n.toNat 2).toArray⟩) ∧ Below w.heap.size w w' := by
 obtain ⟨m, rfl⟩ := Int.eq_ofNat_of_zero_le h0
 rw [Int.toNat_natCast]
 go_enter Tryz.func112, Tryz.ntmps112
 go_wp2_with (go_at_call 156; refine (olaid_any m 2 _ (by omega) (by omega)).mono ?_; rintro e w1 ⟨rfl, hb1⟩)
 go_ret
 exact ⟨rfl, hb1⟩
end
section
open Go.RowKit
end
section
open Go.RowKit
end
section
open Go.RowKit
def ethV (dst src : Vector UInt8 6) (ty : Int) (body : List UInt8) (vlan prio : Int) : List Value := u8v dst ++ (u8v src ++ [.int .i64 ty, .string ⟨body.toArray⟩, .int .i64 vlan, .int .i64 prio])
def rightB (ty vlan prio size : Int) : Bool := (ty == 0 || (decide (1536 ≤ ty) && decide (ty ≤ 65535) && ty != 33024)) && ((vlan == -1 && prio == 0) || (decide (0 ≤ vlan) && decide (vlan ≤ 4094) && decide (0 ≤ prio) && decide (prio ≤ 7))) && decide (size ≤ 1500)
theorem four_cells (l t : List Value) (h : l.length = 4) : l[0] :: l[1] :: l[2] :: l[3] :: t = l ++ t := by
 match l, h with
 | [a, b, c, d], _ => rfl
theorem six_cells (l t : List Value) (h : l.length = 6) : l[0] :: l[1] :: l[2] :: l[3] :: l[4] :: l[5] :: t = l ++ t := by
 match l, h with
 | [a, b, c, d, e, f], _ => rfl
@[simp] theorem u8v_six (v : Vector UInt8 6) (t : List Value) : (u8v v)[0]'(by simp) :: (u8v v)[1]'(by simp) :: (u8v v)[2]'(by simp) :: (u8v v)[3]'(by simp) :: (u8v v)[4]'(by simp) :: (u8v v)[5]'(by simp) :: t = u8v v ++ t := six_cells _ _ (by simp)
@[simp] theorem u8v_four (v : Vector UInt8 4) (t : List Value) : (u8v v)[0]'(by simp) :: (u8v v)[1]'(by simp) :: (u8v v)[2]'(by simp) :: (u8v v)[3]'(by simp) :: t = u8v v ++ t := four_cells _ _ (by simp)
theorem right_any (dst src : Vector UInt8 6) (ty : Int) (body : List UInt8) (vlan prio : Int) (w : World) :
  Calls Tryz.prog 113 #[.agg (ethV dst src ty body vlan prio).toArray] w fun e w' => e = .returned (.bool (rightB ty vlan prio body.length)) ∧ Below w.heap.size w w' := by
 unfold ethV
 go_enter Tryz.func113, Tryz.ntmps113
 go_wp2_with fail
 all_goals
  go_ret
  refine ⟨?_, by (repeat (first | exact Below.refl _ _ | refine Below.al ?_ _ | refine Below.drew ?_ | refine Below.sr ?_ _ | refine Below.sc ?_ _))⟩
  simp only [rightB]
  first
   | (simp [*]; done)
   | (simp [*]; omega)
   | (by_cases h33 : ty = 33024 <;> by_cases h00 : ty = 0 <;> (first | (simp [*]; done) | (simp [*]; omega) | omega))
end
end Go.Proofs.YtcebllbikmgjpaaGreat
