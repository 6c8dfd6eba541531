/- Contracts of the reference of chapter 4: the clamped number. -/
import Derived.Test.YtjeclimoknilcaaVal
import Derived.Test.YtjeclimoknilcaaOwnI
import Derived.Test.YtjeclimoknilcaaCmp
import Derived.Lib.Hide
set_option linter.unusedSimpArgs false
set_option linter.unusedVariables false
namespace Go.Proofs.Ytjeclimoknilcaa
open Go.RowKit
def clampD (k : List UInt8) (i : Nat) : Nat :=
  if i % 4 = 3 then (k.getD i 0).toNat % 16 else if i % 4 = 0 ∧ 0 < i then (k.getD i 0).toNat / 4 * 4 else (k.getD i 0).toNat
def clampN (k : List UInt8) (n : Nat) : List Nat := (List.range n).map (clampD k)
theorem clampN_succ (k : List UInt8) (n : Nat) : clampN k (n + 1) = clampN k n ++ [clampD k n] := by simp [clampN, List.range_succ]
theorem clampN_length (k : List UInt8) (n : Nat) : (clampN k n).length = n := by simp [clampN]
theorem clampD_lt (k : List UInt8) (i : Nat) : clampD k i < 256 := by
  have := (k.getD i 0).toNat_lt
  unfold clampD
  split
  · omega
  · split <;> omega
theorem clampN_dig (k : List UInt8) (n : Nat) : Dig (clampN k n) := by
  intro x hx
  obtain ⟨i, _, rfl⟩ := List.mem_map.1 hx
  exact clampD_lt k i
theorem getD_b (l : List UInt8) (i : Nat) (h : i < l.length) : l.getD i 0 = l[i] := by simp [List.getD_eq_getElem?_getD, h]
set_option maxRecDepth 20000 in
set_option maxHeartbeats 4000000 in
theorem clampR_any (k : List UInt8) (w : World) (hk : k.length = 32) :
    Calls Try.prog 39 #[.agg (u8s k).toArray] w fun e w' => ∃ v, e = .returned v ∧ Own w' w.heap.size 3 v (i64s (clampN k 16)) ∧ Below w.heap.size w w' := by
  go_enter Try.func39, Try.ntmps39
  go_wp2_with fail
  go_loopw [3, 4] (fun v i wr => ∃ n : Nat, n ≤ 16 ∧ i = .int .i64 n ∧ row wr w.heap.size = (u8s k).toArray ∧ w.heap.size < wr.heap.size ∧ Own wr (w.heap.size + 1) 3 v (i64s (clampN k n)) ∧ Below w.heap.size w wr) (fun _ i _ => 16 - (intOf i).toNat)
  case atStart => exact ⟨0, by omega, rfl, by simp [go_sem], by simp, Own.nil, (by (repeat (first | exact Below.refl _ _ | refine Below.alloc ?_ (by first | (simp; done) | (simp; omega) | omega) _ | refine Below.drew ?_ | refine Below.setRow ?_ (by first | (simp; done) | (simp; omega) | omega) _ | refine Below.setCell ?_ (by first | (simp; done) | (simp; omega) | omega) _)))⟩
  case round =>
    obtain ⟨n, hn, rfl, hK, hz, hown, hbel⟩ := hrel
    by_cases hlt : n < 16
    · have hcl := clampN_length k n
      obtain ⟨L, hL⟩ : ∃ L, clampN k n = L := ⟨_, rfl⟩
      have hLs := clampN_succ k n
      rw [hL] at hown hcl hLs
      have HS := Lib.hid hLs
      have HLn := Lib.hid hcl
      clear hLs hcl hL
      have h16 : n = 0 ∨ n = 1 ∨ n = 2 ∨ n = 3 ∨ n = 4 ∨ n = 5 ∨ n = 6 ∨ n = 7 ∨ n = 8 ∨ n = 9 ∨ n = 10 ∨ n = 11 ∨ n = 12 ∨ n = 13 ∨ n = 14 ∨ n = 15 := by omega
      rcases h16 with rfl | rfl | rfl | rfl | rfl | rfl | rfl | rfl | rfl | rfl | rfl | rfl | rfl | rfl | rfl | rfl
      · have k1 : 0 < k.length := by omega
        obtain ⟨x, hx⟩ : ∃ x, k[0].toNat = x := ⟨_, rfl⟩
        have x1 : x < 256 := by rw [← hx]; exact k[0].toNat_lt
        obtain ⟨d, hd⟩ : ∃ d, x = d := ⟨_, rfl⟩
        have hc : clampD k 0 = x := by rw [clampD, if_neg (by decide), if_neg (by decide), getD_b _ _ k1, hx]
        subst hd
        have HC := Lib.hid hc
        clear hc
        go_wp2_with (at_builtin; refine wpList_append1 rfl rfl inferInstance (w.heap.size + 1) _ (i64s L) rfl hown _ rfl rfl (by have := HLn.out; simp; omega) (by omega) ?_)
        intro v' w2 o2 b2
        go_wp2_with fail
        go_roundw
        case rel => exact ⟨1, by omega, rfl, (row_below b2 (by omega)).trans hK, by have := b2.size; omega, by rw [HS.out, HC.out, i64s_append]; exact o2, hbel.trans (b2.mono (by omega))⟩
        case measure => simp [intOf]
      · have k1 : 1 < k.length := by omega
        obtain ⟨x, hx⟩ : ∃ x, k[1].toNat = x := ⟨_, rfl⟩
        have x1 : x < 256 := by rw [← hx]; exact k[1].toNat_lt
        obtain ⟨d, hd⟩ : ∃ d, x = d := ⟨_, rfl⟩
        have hc : clampD k 1 = x := by rw [clampD, if_neg (by decide), if_neg (by decide), getD_b _ _ k1, hx]
        subst hd
        have HC := Lib.hid hc
        clear hc
        go_wp2_with (at_builtin; refine wpList_append1 rfl rfl inferInstance (w.heap.size + 1) _ (i64s L) rfl hown _ rfl rfl (by have := HLn.out; simp; omega) (by omega) ?_)
        intro v' w2 o2 b2
        go_wp2_with fail
        go_roundw
        case rel => exact ⟨2, by omega, rfl, (row_below b2 (by omega)).trans hK, by have := b2.size; omega, by rw [HS.out, HC.out, i64s_append]; exact o2, hbel.trans (b2.mono (by omega))⟩
        case measure => simp [intOf]
      · have k1 : 2 < k.length := by omega
        obtain ⟨x, hx⟩ : ∃ x, k[2].toNat = x := ⟨_, rfl⟩
        have x1 : x < 256 := by rw [← hx]; exact k[2].toNat_lt
        obtain ⟨d, hd⟩ : ∃ d, x = d := ⟨_, rfl⟩
        have hc : clampD k 2 = x := by rw [clampD, if_neg (by decide), if_neg (by decide), getD_b _ _ k1, hx]
        subst hd
        have HC := Lib.hid hc
        clear hc
        go_wp2_with (at_builtin; refine wpList_append1 rfl rfl inferInstance (w.heap.size + 1) _ (i64s L) rfl hown _ rfl rfl (by have := HLn.out; simp; omega) (by omega) ?_)
        intro v' w2 o2 b2
        go_wp2_with fail
        go_roundw
        case rel => exact ⟨3, by omega, rfl, (row_below b2 (by omega)).trans hK, by have := b2.size; omega, by rw [HS.out, HC.out, i64s_append]; exact o2, hbel.trans (b2.mono (by omega))⟩
        case measure => simp [intOf]
      · have k1 : 3 < k.length := by omega
        obtain ⟨x, hx⟩ : ∃ x, k[3].toNat = x := ⟨_, rfl⟩
        have x1 : x < 256 := by rw [← hx]; exact k[3].toNat_lt
        obtain ⟨d, hd⟩ : ∃ d, x % 16 = d := ⟨_, rfl⟩
        have m1 : (x : Int) % 16 = (d : Int) := by omega
        have m2 : (x : Int).tmod 16 = (d : Int) := by rw [Int.tmod_eq_emod_of_nonneg (by omega)]; exact m1
        have hc : clampD k 3 = d := by rw [clampD, if_pos (by decide), getD_b _ _ k1, hx, hd]
        clear hd
        have HC := Lib.hid hc
        clear hc
        go_wp2_with (at_builtin; refine wpList_append1 rfl rfl inferInstance (w.heap.size + 1) _ (i64s L) rfl hown _ rfl rfl (by have := HLn.out; simp; omega) (by omega) ?_)
        intro v' w2 o2 b2
        go_wp2_with fail
        go_roundw
        case rel => exact ⟨4, by omega, rfl, (row_below b2 (by omega)).trans hK, by have := b2.size; omega, by rw [HS.out, HC.out, i64s_append]; exact o2, hbel.trans (b2.mono (by omega))⟩
        case measure => simp [intOf]
      · have k1 : 4 < k.length := by omega
        obtain ⟨x, hx⟩ : ∃ x, k[4].toNat = x := ⟨_, rfl⟩
        have x1 : x < 256 := by rw [← hx]; exact k[4].toNat_lt
        obtain ⟨q, hq⟩ : ∃ d, x / 4 = d := ⟨_, rfl⟩
        obtain ⟨d, hd⟩ : ∃ d, q * 4 = d := ⟨_, rfl⟩
        have m1 : (x : Int) / 4 = (q : Int) := by omega
        have m2 : (x : Int).tdiv 4 = (q : Int) := by rw [Int.tdiv_eq_ediv_of_nonneg (by omega)]; exact m1
        have m3 : IntKind.i64.wrap ((q : Int) * 4) = (d : Int) := wrapN _ _ (by omega) (by omega)
        have hc : clampD k 4 = d := by rw [clampD, if_neg (by decide), if_pos (by decide), getD_b _ _ k1, hx, hq, hd]
        clear hq
        clear hd
        have HC := Lib.hid hc
        clear hc
        go_wp2_with (at_builtin; refine wpList_append1 rfl rfl inferInstance (w.heap.size + 1) _ (i64s L) rfl hown _ rfl rfl (by have := HLn.out; simp; omega) (by omega) ?_)
        intro v' w2 o2 b2
        go_wp2_with fail
        go_roundw
        case rel => exact ⟨5, by omega, rfl, (row_below b2 (by omega)).trans hK, by have := b2.size; omega, by rw [HS.out, HC.out, i64s_append]; exact o2, hbel.trans (b2.mono (by omega))⟩
        case measure => simp [intOf]
      · have k1 : 5 < k.length := by omega
        obtain ⟨x, hx⟩ : ∃ x, k[5].toNat = x := ⟨_, rfl⟩
        have x1 : x < 256 := by rw [← hx]; exact k[5].toNat_lt
        obtain ⟨d, hd⟩ : ∃ d, x = d := ⟨_, rfl⟩
        have hc : clampD k 5 = x := by rw [clampD, if_neg (by decide), if_neg (by decide), getD_b _ _ k1, hx]
        subst hd
        have HC := Lib.hid hc
        clear hc
        go_wp2_with (at_builtin; refine wpList_append1 rfl rfl inferInstance (w.heap.size + 1) _ (i64s L) rfl hown _ rfl rfl (by have := HLn.out; simp; omega) (by omega) ?_)
        intro v' w2 o2 b2
        go_wp2_with fail
        go_roundw
        case rel => exact ⟨6, by omega, rfl, (row_below b2 (by omega)).trans hK, by have := b2.size; omega, by rw [HS.out, HC.out, i64s_append]; exact o2, hbel.trans (b2.mono (by omega))⟩
        case measure => simp [intOf]
      · have k1 : 6 < k.length := by omega
        obtain ⟨x, hx⟩ : ∃ x, k[6].toNat = x := ⟨_, rfl⟩
        have x1 : x < 256 := by rw [← hx]; exact k[6].toNat_lt
        obtain ⟨d, hd⟩ : ∃ d, x = d := ⟨_, rfl⟩
        have hc : clampD k 6 = x := by rw [clampD, if_neg (by decide), if_neg (by decide), getD_b _ _ k1, hx]
        subst hd
        have HC := Lib.hid hc
        clear hc
        go_wp2_with (at_builtin; refine wpList_append1 rfl rfl inferInstance (w.heap.size + 1) _ (i64s L) rfl hown _ rfl rfl (by have := HLn.out; simp; omega) (by omega) ?_)
        intro v' w2 o2 b2
        go_wp2_with fail
        go_roundw
        case rel => exact ⟨7, by omega, rfl, (row_below b2 (by omega)).trans hK, by have := b2.size; omega, by rw [HS.out, HC.out, i64s_append]; exact o2, hbel.trans (b2.mono (by omega))⟩
        case measure => simp [intOf]
      · have k1 : 7 < k.length := by omega
        obtain ⟨x, hx⟩ : ∃ x, k[7].toNat = x := ⟨_, rfl⟩
        have x1 : x < 256 := by rw [← hx]; exact k[7].toNat_lt
        obtain ⟨d, hd⟩ : ∃ d, x % 16 = d := ⟨_, rfl⟩
        have m1 : (x : Int) % 16 = (d : Int) := by omega
        have m2 : (x : Int).tmod 16 = (d : Int) := by rw [Int.tmod_eq_emod_of_nonneg (by omega)]; exact m1
        have hc : clampD k 7 = d := by rw [clampD, if_pos (by decide), getD_b _ _ k1, hx, hd]
        clear hd
        have HC := Lib.hid hc
        clear hc
        go_wp2_with (at_builtin; refine wpList_append1 rfl rfl inferInstance (w.heap.size + 1) _ (i64s L) rfl hown _ rfl rfl (by have := HLn.out; simp; omega) (by omega) ?_)
        intro v' w2 o2 b2
        go_wp2_with fail
        go_roundw
        case rel => exact ⟨8, by omega, rfl, (row_below b2 (by omega)).trans hK, by have := b2.size; omega, by rw [HS.out, HC.out, i64s_append]; exact o2, hbel.trans (b2.mono (by omega))⟩
        case measure => simp [intOf]
      · have k1 : 8 < k.length := by omega
        obtain ⟨x, hx⟩ : ∃ x, k[8].toNat = x := ⟨_, rfl⟩
        have x1 : x < 256 := by rw [← hx]; exact k[8].toNat_lt
        obtain ⟨q, hq⟩ : ∃ d, x / 4 = d := ⟨_, rfl⟩
        obtain ⟨d, hd⟩ : ∃ d, q * 4 = d := ⟨_, rfl⟩
        have m1 : (x : Int) / 4 = (q : Int) := by omega
        have m2 : (x : Int).tdiv 4 = (q : Int) := by rw [Int.tdiv_eq_ediv_of_nonneg (by omega)]; exact m1
        have m3 : IntKind.i64.wrap ((q : Int) * 4) = (d : Int) := wrapN _ _ (by omega) (by omega)
        have hc : clampD k 8 = d := by rw [clampD, if_neg (by decide), if_pos (by decide), getD_b _ _ k1, hx, hq, hd]
        clear hq
        clear hd
        have HC := Lib.hid hc
        clear hc
        go_wp2_with (at_builtin; refine wpList_append1 rfl rfl inferInstance (w.heap.size + 1) _ (i64s L) rfl hown _ rfl rfl (by have := HLn.out; simp; omega) (by omega) ?_)
        intro v' w2 o2 b2
        go_wp2_with fail
        go_roundw
        case rel => exact ⟨9, by omega, rfl, (row_below b2 (by omega)).trans hK, by have := b2.size; omega, by rw [HS.out, HC.out, i64s_append]; exact o2, hbel.trans (b2.mono (by omega))⟩
        case measure => simp [intOf]
      · have k1 : 9 < k.length := by omega
        obtain ⟨x, hx⟩ : ∃ x, k[9].toNat = x := ⟨_, rfl⟩
        have x1 : x < 256 := by rw [← hx]; exact k[9].toNat_lt
        obtain ⟨d, hd⟩ : ∃ d, x = d := ⟨_, rfl⟩
        have hc : clampD k 9 = x := by rw [clampD, if_neg (by decide), if_neg (by decide), getD_b _ _ k1, hx]
        subst hd
        have HC := Lib.hid hc
        clear hc
        go_wp2_with (at_builtin; refine wpList_append1 rfl rfl inferInstance (w.heap.size + 1) _ (i64s L) rfl hown _ rfl rfl (by have := HLn.out; simp; omega) (by omega) ?_)
        intro v' w2 o2 b2
        go_wp2_with fail
        go_roundw
        case rel => exact ⟨10, by omega, rfl, (row_below b2 (by omega)).trans hK, by have := b2.size; omega, by rw [HS.out, HC.out, i64s_append]; exact o2, hbel.trans (b2.mono (by omega))⟩
        case measure => simp [intOf]
      · have k1 : 10 < k.length := by omega
        obtain ⟨x, hx⟩ : ∃ x, k[10].toNat = x := ⟨_, rfl⟩
        have x1 : x < 256 := by rw [← hx]; exact k[10].toNat_lt
        obtain ⟨d, hd⟩ : ∃ d, x = d := ⟨_, rfl⟩
        have hc : clampD k 10 = x := by rw [clampD, if_neg (by decide), if_neg (by decide), getD_b _ _ k1, hx]
        subst hd
        have HC := Lib.hid hc
        clear hc
        go_wp2_with (at_builtin; refine wpList_append1 rfl rfl inferInstance (w.heap.size + 1) _ (i64s L) rfl hown _ rfl rfl (by have := HLn.out; simp; omega) (by omega) ?_)
        intro v' w2 o2 b2
        go_wp2_with fail
        go_roundw
        case rel => exact ⟨11, by omega, rfl, (row_below b2 (by omega)).trans hK, by have := b2.size; omega, by rw [HS.out, HC.out, i64s_append]; exact o2, hbel.trans (b2.mono (by omega))⟩
        case measure => simp [intOf]
      · have k1 : 11 < k.length := by omega
        obtain ⟨x, hx⟩ : ∃ x, k[11].toNat = x := ⟨_, rfl⟩
        have x1 : x < 256 := by rw [← hx]; exact k[11].toNat_lt
        obtain ⟨d, hd⟩ : ∃ d, x % 16 = d := ⟨_, rfl⟩
        have m1 : (x : Int) % 16 = (d : Int) := by omega
        have m2 : (x : Int).tmod 16 = (d : Int) := by rw [Int.tmod_eq_emod_of_nonneg (by omega)]; exact m1
        have hc : clampD k 11 = d := by rw [clampD, if_pos (by decide), getD_b _ _ k1, hx, hd]
        clear hd
        have HC := Lib.hid hc
        clear hc
        go_wp2_with (at_builtin; refine wpList_append1 rfl rfl inferInstance (w.heap.size + 1) _ (i64s L) rfl hown _ rfl rfl (by have := HLn.out; simp; omega) (by omega) ?_)
        intro v' w2 o2 b2
        go_wp2_with fail
        go_roundw
        case rel => exact ⟨12, by omega, rfl, (row_below b2 (by omega)).trans hK, by have := b2.size; omega, by rw [HS.out, HC.out, i64s_append]; exact o2, hbel.trans (b2.mono (by omega))⟩
        case measure => simp [intOf]
      · have k1 : 12 < k.length := by omega
        obtain ⟨x, hx⟩ : ∃ x, k[12].toNat = x := ⟨_, rfl⟩
        have x1 : x < 256 := by rw [← hx]; exact k[12].toNat_lt
        obtain ⟨q, hq⟩ : ∃ d, x / 4 = d := ⟨_, rfl⟩
        obtain ⟨d, hd⟩ : ∃ d, q * 4 = d := ⟨_, rfl⟩
        have m1 : (x : Int) / 4 = (q : Int) := by omega
        have m2 : (x : Int).tdiv 4 = (q : Int) := by rw [Int.tdiv_eq_ediv_of_nonneg (by omega)]; exact m1
        have m3 : IntKind.i64.wrap ((q : Int) * 4) = (d : Int) := wrapN _ _ (by omega) (by omega)
        have hc : clampD k 12 = d := by rw [clampD, if_neg (by decide), if_pos (by decide), getD_b _ _ k1, hx, hq, hd]
        clear hq
        clear hd
        have HC := Lib.hid hc
        clear hc
        go_wp2_with (at_builtin; refine wpList_append1 rfl rfl inferInstance (w.heap.size + 1) _ (i64s L) rfl hown _ rfl rfl (by have := HLn.out; simp; omega) (by omega) ?_)
        intro v' w2 o2 b2
        go_wp2_with fail
        go_roundw
        case rel => exact ⟨13, by omega, rfl, (row_below b2 (by omega)).trans hK, by have := b2.size; omega, by rw [HS.out, HC.out, i64s_append]; exact o2, hbel.trans (b2.mono (by omega))⟩
        case measure => simp [intOf]
      · have k1 : 13 < k.length := by omega
        obtain ⟨x, hx⟩ : ∃ x, k[13].toNat = x := ⟨_, rfl⟩
        have x1 : x < 256 := by rw [← hx]; exact k[13].toNat_lt
        obtain ⟨d, hd⟩ : ∃ d, x = d := ⟨_, rfl⟩
        have hc : clampD k 13 = x := by rw [clampD, if_neg (by decide), if_neg (by decide), getD_b _ _ k1, hx]
        subst hd
        have HC := Lib.hid hc
        clear hc
        go_wp2_with (at_builtin; refine wpList_append1 rfl rfl inferInstance (w.heap.size + 1) _ (i64s L) rfl hown _ rfl rfl (by have := HLn.out; simp; omega) (by omega) ?_)
        intro v' w2 o2 b2
        go_wp2_with fail
        go_roundw
        case rel => exact ⟨14, by omega, rfl, (row_below b2 (by omega)).trans hK, by have := b2.size; omega, by rw [HS.out, HC.out, i64s_append]; exact o2, hbel.trans (b2.mono (by omega))⟩
        case measure => simp [intOf]
      · have k1 : 14 < k.length := by omega
        obtain ⟨x, hx⟩ : ∃ x, k[14].toNat = x := ⟨_, rfl⟩
        have x1 : x < 256 := by rw [← hx]; exact k[14].toNat_lt
        obtain ⟨d, hd⟩ : ∃ d, x = d := ⟨_, rfl⟩
        have hc : clampD k 14 = x := by rw [clampD, if_neg (by decide), if_neg (by decide), getD_b _ _ k1, hx]
        subst hd
        have HC := Lib.hid hc
        clear hc
        go_wp2_with (at_builtin; refine wpList_append1 rfl rfl inferInstance (w.heap.size + 1) _ (i64s L) rfl hown _ rfl rfl (by have := HLn.out; simp; omega) (by omega) ?_)
        intro v' w2 o2 b2
        go_wp2_with fail
        go_roundw
        case rel => exact ⟨15, by omega, rfl, (row_below b2 (by omega)).trans hK, by have := b2.size; omega, by rw [HS.out, HC.out, i64s_append]; exact o2, hbel.trans (b2.mono (by omega))⟩
        case measure => simp [intOf]
      · have k1 : 15 < k.length := by omega
        obtain ⟨x, hx⟩ : ∃ x, k[15].toNat = x := ⟨_, rfl⟩
        have x1 : x < 256 := by rw [← hx]; exact k[15].toNat_lt
        obtain ⟨d, hd⟩ : ∃ d, x % 16 = d := ⟨_, rfl⟩
        have m1 : (x : Int) % 16 = (d : Int) := by omega
        have m2 : (x : Int).tmod 16 = (d : Int) := by rw [Int.tmod_eq_emod_of_nonneg (by omega)]; exact m1
        have hc : clampD k 15 = d := by rw [clampD, if_pos (by decide), getD_b _ _ k1, hx, hd]
        clear hd
        have HC := Lib.hid hc
        clear hc
        go_wp2_with (at_builtin; refine wpList_append1 rfl rfl inferInstance (w.heap.size + 1) _ (i64s L) rfl hown _ rfl rfl (by have := HLn.out; simp; omega) (by omega) ?_)
        intro v' w2 o2 b2
        go_wp2_with fail
        go_roundw
        case rel => exact ⟨16, by omega, rfl, (row_below b2 (by omega)).trans hK, by have := b2.size; omega, by rw [HS.out, HC.out, i64s_append]; exact o2, hbel.trans (b2.mono (by omega))⟩
        case measure => simp [intOf]
    · obtain rfl : n = 16 := by omega
      rw [show ((16 : Nat) : Int) = 16 from rfl]
      go_wp2_with fail
      go_ret
      exact ⟨_, rfl, hown.lower (by omega), hbel⟩
end Go.Proofs.Ytjeclimoknilcaa
