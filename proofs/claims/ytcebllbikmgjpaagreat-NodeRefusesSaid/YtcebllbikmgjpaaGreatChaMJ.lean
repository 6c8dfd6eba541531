/- Contracts of package cha: Mask. -/
import Derived.Test.YtcebllbikmgjpaaGreatJ29
set_option linter.unusedSimpArgs false
set_option linter.unusedVariables false
set_option maxHeartbeats 8000000
set_option maxRecDepth 20000
namespace Go.Proofs.YtcebllbikmgjpaaGreat
open Go.RowKit
def ksB (k : List UInt8) (count : Int) (nonce : List UInt8) (j : Nat) : UInt8 := (streamL k ((count + ((j / 64 : Nat) : Int)) % 4294967296) nonce).getD (j % 64) 0
def mkL (k : List UInt8) (count : Int) (nonce l : List UInt8) (n : Nat) : List UInt8 := (List.range l.length).map fun j => if j < n then l.getD j 0 ^^^ ksB k count nonce j else l.getD j 0
def maskL (k : List UInt8) (count : Int) (nonce l : List UInt8) : List UInt8 := mkL k count nonce l l.length
theorem mkL_length (k : List UInt8) (count : Int) (nonce l : List UInt8) (n : Nat) : (mkL k count nonce l n).length = l.length := by simp [mkL]
theorem mkL_zero (k : List UInt8) (count : Int) (nonce l : List UInt8) : mkL k count nonce l 0 = l := by
 apply List.ext_getElem (by simp [mkL])
 intro i h1 h2
 simp [mkL, List.getD_eq_getElem?_getD, h2]
theorem mkL_ge (k : List UInt8) (count : Int) (nonce l : List UInt8) (n : Nat) (h : l.length ≤ n) : mkL k count nonce l n = maskL k count nonce l := by
 apply List.ext_getElem (by simp [mkL, maskL])
 intro i h1 h2
 have : i < l.length := by simpa [mkL] using h1
 simp [mkL, maskL, this, show i < n by omega]
theorem mkL_get (k : List UInt8) (count : Int) (nonce l : List UInt8) (n : Nat) (hn : n < l.length) (h : n < (mkL k count nonce l n).length) : (mkL k count nonce l n)[n] = l[n] := by
 simp [mkL, List.getD_eq_getElem?_getD, hn]
theorem mkL_succ (k : List UInt8) (count : Int) (nonce l : List UInt8) (n : Nat) (hn : n < l.length) : mkL k count nonce l (n + 1) = (mkL k count nonce l n).set n (l[n] ^^^ ksB k count nonce n) := by
 apply List.ext_getElem (by simp [mkL])
 intro i h1 h2
 have hi : i < l.length := by simpa [mkL] using h1
 rw [List.getElem_set]
 by_cases e : n = i
 ·
  subst e
  simp [mkL, List.getD_eq_getElem?_getD, hn]
 ·
  rw [if_neg e]
  simp only [mkL, List.getElem_map, List.getElem_range]
  by_cases h3 : i < n
  ·
   rw [if_pos (by omega), if_pos h3]
  ·
   rw [if_neg (by omega), if_neg h3]
attribute [local irreducible] mkL
theorem mask_any (k : List UInt8) (count : Int) (nonce l : List UInt8) (w : World) (hk : k.length = 32) (hn : nonce.length = 12) (hl : l.length ≤ 100000) :
  Calls Tryz.prog 185 #[.agg (u8s k).toArray, .int .u32 count, .string ⟨nonce.toArray⟩, .string ⟨l.toArray⟩] w fun e w' => e = .returned (.tuple #[.string ⟨(maskL k count nonce l).toArray⟩, .int .i64 0]) ∧ Below w.heap.size w w' := by
 have h : ((nonce.length : Int) != 12) = false := by simp; omega
 have hl2 : (l.length : Int) ≤ 100000 := by omega
 go_enter Tryz.func185, Tryz.ntmps185
 go_wp2_with fail
 obtain ⟨sp, hsp⟩ : ∃ s, spareOf (w.alloc (.cells (u8s k).toArray 28)) ⟨l.toArray⟩ 5 = s := ⟨_, rfl⟩
 rw [hsp]
 clear h
 go_loopw [11] (fun i wr => ∃ m : Nat, i = .int .i64 (64 * (m : Int)) ∧ 64 * m ≤ l.length + 63 ∧ row wr (w.heap.size + 1) = (u8s (mkL k count nonce l (64 * m)) ++ zeros sp (.int .u8 0)).toArray ∧ row wr w.heap.size = (u8s k).toArray ∧ w.heap.size + 1 < wr.heap.size ∧ Below w.heap.size w wr) (fun i _ => l.length + 64 - (intOf i).toNat)
 case atStart =>
  refine ⟨0, by simp, by omega, ?_, by simp [go_sem], by simp, blw_⟩
  rw [show 64 * 0 = 0 from rfl, mkL_zero, row_drew, row_alloc_mark _ _ _ _ _ (by simp) (by simp)]
 case round =>
  clear hsp
  obtain ⟨m, rfl, hm, hO, hK, hz, hbel⟩ := hrel
  by_cases hlt : 64 * m < l.length
  ·
   have h1 : (64 : Int) * (m : Int) < l.length := by omega
   have h2 : (m : Int) ≤ 100000 := by omega
   have hHS := h_ (fun w => stream_any k ((count + (m : Int)) % 4294967296) nonce w hk hn)
   obtain ⟨t, ht⟩ : ∃ t, streamL k ((count + (m : Int)) % 4294967296) nonce = t := ⟨_, rfl⟩
   have htl : t.length = 64 := by rw [← ht]; exact streamL_length _ _ _
   rw [ht] at hHS
   have HT := h_ ht
   clear ht
   have e1 : (64 : Int) * (m : Int) / 64 = m := by omega
   go_wp2_with fail
   (with_reducible refine (hHS.out _).mono ?_)
   rintro e w2 ⟨rfl, b2⟩
   have z2 := b2.size
   have hO2 := (row_below b2 (by omega)).trans hO
   have hK2 := (row_below b2 (by omega)).trans hK
   clear hHS
   by_cases hfull : 64 * m + 64 ≤ l.length
   ·
    have hc1 : ¬ (l.length : Int) - 64 * (m : Int) < 64 := by omega
    go_wp2_with fail
    go_loopw [38] (fun i wq => ∃ n : Nat, i = .int .i64 (n : Int) ∧ n ≤ 64 ∧ row wq (w.heap.size + 1) = (u8s (mkL k count nonce l (64 * m + n)) ++ zeros sp (.int .u8 0)).toArray ∧ row wq w2.heap.size = (u8s t).toArray ∧ row wq w.heap.size = (u8s k).toArray ∧ w2.heap.size < wq.heap.size ∧ Below w.heap.size w wq) (fun i _ => 64 - (intOf i).toNat)
    case atStart =>
     refine ⟨0, rfl, by omega, ?_, by simp [go_sem], ?_, by simp, Below.alloc (Below.trans hbel (b2.mono (by omega))) (by omega) _⟩
     ·
      rw [row_alloc_past _ _ (by omega)]
      exact hO2
     ·
      rw [row_alloc_past _ _ (by omega)]
      exact hK2
    case round =>
     clear hO hK hO2 hK2
     obtain ⟨n, rfl, hn2, hO, hT, hK, hz3, hbel3⟩ := hrel
     by_cases hlt2 : n < 64
     ·
      have g1 : (n : Int) < 64 := by omega
      obtain ⟨N, hN⟩ : ∃ N, 64 * m + n = N := ⟨_, rfl⟩
      have eN : (64 : Int) * (m : Int) + (n : Int) = (N : Int) := by omega
      have g2 : N < l.length := by omega
      have g3 : (N : Int) < l.length := by omega
      have g4 : n < t.length := by omega
      have g5 : n < 64 := by omega
      have g6 : (n : Int) < 64 := by omega
      rw [hN] at hO
      have HN := h_ hN
      obtain ⟨X, hX⟩ : ∃ X, mkL k count nonce l N = X := ⟨_, rfl⟩
      have hXl : X.length = l.length := by rw [← hX]; exact mkL_length _ _ _ _ _
      have g7 : N < X.length := by omega
      have g9 : N < l.length + sp := by omega
      have hXN : X[N] = l[N] := by subst hX; exact mkL_get _ _ _ _ _ g2 g7
      rw [hX] at hO
      obtain ⟨v, hv⟩ : ∃ v, X[N] ^^^ t[n] = v := ⟨_, rfl⟩
      have hxor := xor_u8 X[N] t[n]
      rw [hv] at hxor
      have hset := u8s_setB X N v
      have hmk : mkL k count nonce l (64 * m + (n + 1)) = X.set N v := by
       have hks : ksB k count nonce N = t[n] := by
        unfold ksB
        rw [show N / 64 = m by omega, show N % 64 = n by omega, HT.out, getD_elem _ _ _ g4]
       rw [show 64 * m + (n + 1) = N + 1 by omega, mkL_succ _ _ _ _ _ g2, hX, ← hv, hXN, hks]
      have HM := h_ hmk
      clear hN hX hmk hv hXN hn2
      have hw1 : IntKind.i64.wrap (N : Int) = N := wraps_i64 _ (by omega) (by omega)
      go_wp2_with fail
      refine rgK_ 11 [(w.heap.size + 1, (u8s X ++ zeros sp (Value.int .u8 0)).toArray), (w2.heap.size, (u8s t).toArray)] [] (fun hS => ?_)
      refine kp 0 hS ?_
      refine kp 1 hS ?_
      refine kp 2 hS ?_
      refine kp 3 hS ?_
      refine kp 4 hS ?_
      refine kp 5 hS ?_
      refine kp 6 hS ?_
      refine kp 7 hS ?_
      refine kp 8 hS ?_
      refine kp 9 hS ?_
      refine kp 10 hS ?_
      refine wpAnyK_store (k := 11) opt_ rfl rfl kr_ (fun u1 hu1 => ?_)
      have zu := hu1.size
      replace zu : wr.heap.size ≤ u1.heap.size := zu
      replace hT := (row_below hu1 (show w2.heap.size < wr.heap.size by omega)).trans hT
      replace hK := (row_below hu1 (show w.heap.size < wr.heap.size by omega)).trans hK
      replace hO := (row_below hu1 (show w.heap.size + 1 < wr.heap.size by omega)).trans hO
      replace hbel3 : Below w.heap.size w u1 := Below.trans hbel3 (Below.trans (Below.drew (Below.refl _ _)) (hu1.mono (by simp; omega)))
      clear hS hu1
      refine ⟨u1.setRow (w.heap.size + 1) (u8s (X.set N v) ++ zeros sp (.int .u8 0)).toArray, by (go_simp; rw [setCell_row _ (by rw [hO]; simp; omega), hO, List.setIfInBounds_toArray, List.set_append_left _ _ (by simp; omega), hset]), trivial, fun hS => ?_⟩
      refine wpAnyR_done kr_ (fun wN hN => ?_) _
      go_wp2_with fail
      go_roundw
      case rel =>
       have zN := hN.size
       rw [setRow_size] at zN
       refine ⟨n + 1, rfl, by omega, ?_, ?_, ?_, by omega, Below.trans (Below.setRow hbel3 (by omega) _) (hN.mono (by simp; omega))⟩
       ·
        rw [HM.out, row_below hN (by simp; omega)]
        exact row_setRow_same (by rw [hO]; simp; omega) (by rw [hO]; simp)
       ·
        rw [row_below hN (by simp; omega), row_setRow_other _ _ _ (by omega)]
        exact hT
       ·
        rw [row_below hN (by simp; omega), row_setRow_other _ _ _ (by omega)]
        exact hK
      case measure => simp [intOf]; omega
     ·
      obtain rfl : n = 64 := by omega
      (try rw [show ((64 : Nat) : Int) = 64 from rfl])
      go_wp2_with fail
      go_roundw
      case rel =>
       refine ⟨m + 1, by simp; omega, by omega, ?_, hK, by omega, hbel3⟩
       rw [hO]
       rfl
      case measure => simp [intOf]; omega
   ·
    obtain ⟨b, hb⟩ : ∃ b, l.length - 64 * m = b := ⟨_, rfl⟩
    have hc1 : (l.length : Int) - 64 * (m : Int) = (b : Int) := by omega
    have hc2 : (b : Int) < 64 := by omega
    have HB := h_ hb
    clear hb
    go_wp2_with fail
    go_loopw [38] (fun i wq => ∃ n : Nat, i = .int .i64 (n : Int) ∧ n ≤ b ∧ row wq (w.heap.size + 1) = (u8s (mkL k count nonce l (64 * m + n)) ++ zeros sp (.int .u8 0)).toArray ∧ row wq w2.heap.size = (u8s t).toArray ∧ row wq w.heap.size = (u8s k).toArray ∧ w2.heap.size < wq.heap.size ∧ Below w.heap.size w wq) (fun i _ => b - (intOf i).toNat)
    case atStart =>
     refine ⟨0, rfl, by omega, ?_, by simp [go_sem], ?_, by simp, Below.alloc (Below.trans hbel (b2.mono (by omega))) (by omega) _⟩
     ·
      rw [row_alloc_past _ _ (by omega)]
      exact hO2
     ·
      rw [row_alloc_past _ _ (by omega)]
      exact hK2
    case round =>
     clear hO hK hO2 hK2
     obtain ⟨n, rfl, hn2, hO, hT, hK, hz3, hbel3⟩ := hrel
     by_cases hlt2 : n < b
     ·
      have g1 : (n : Int) < b := by omega
      obtain ⟨N, hN⟩ : ∃ N, 64 * m + n = N := ⟨_, rfl⟩
      have eN : (64 : Int) * (m : Int) + (n : Int) = (N : Int) := by omega
      have g2 : N < l.length := by omega
      have g3 : (N : Int) < l.length := by omega
      have g4 : n < t.length := by omega
      have g5 : n < 64 := by omega
      have g6 : (n : Int) < 64 := by omega
      rw [hN] at hO
      have HN := h_ hN
      obtain ⟨X, hX⟩ : ∃ X, mkL k count nonce l N = X := ⟨_, rfl⟩
      have hXl : X.length = l.length := by rw [← hX]; exact mkL_length _ _ _ _ _
      have g7 : N < X.length := by omega
      have g9 : N < l.length + sp := by omega
      have hXN : X[N] = l[N] := by subst hX; exact mkL_get _ _ _ _ _ g2 g7
      rw [hX] at hO
      obtain ⟨v, hv⟩ : ∃ v, X[N] ^^^ t[n] = v := ⟨_, rfl⟩
      have hxor := xor_u8 X[N] t[n]
      rw [hv] at hxor
      have hset := u8s_setB X N v
      have hmk : mkL k count nonce l (64 * m + (n + 1)) = X.set N v := by
       have hks : ksB k count nonce N = t[n] := by
        unfold ksB
        rw [show N / 64 = m by omega, show N % 64 = n by omega, HT.out, getD_elem _ _ _ g4]
       rw [show 64 * m + (n + 1) = N + 1 by omega, mkL_succ _ _ _ _ _ g2, hX, ← hv, hXN, hks]
      have HM := h_ hmk
      clear hN hX hmk hv hXN hn2
      have hw1 : IntKind.i64.wrap (N : Int) = N := wraps_i64 _ (by omega) (by omega)
      go_wp2_with fail
      refine rgK_ 11 [(w.heap.size + 1, (u8s X ++ zeros sp (Value.int .u8 0)).toArray), (w2.heap.size, (u8s t).toArray)] [] (fun hS => ?_)
      refine kp 0 hS ?_
      refine kp 1 hS ?_
      refine kp 2 hS ?_
      refine kp 3 hS ?_
      refine kp 4 hS ?_
      refine kp 5 hS ?_
      refine kp 6 hS ?_
      refine kp 7 hS ?_
      refine kp 8 hS ?_
      refine kp 9 hS ?_
      refine kp 10 hS ?_
      refine wpAnyK_store (k := 11) opt_ rfl rfl kr_ (fun u1 hu1 => ?_)
      have zu := hu1.size
      replace zu : wr.heap.size ≤ u1.heap.size := zu
      replace hT := (row_below hu1 (show w2.heap.size < wr.heap.size by omega)).trans hT
      replace hK := (row_below hu1 (show w.heap.size < wr.heap.size by omega)).trans hK
      replace hO := (row_below hu1 (show w.heap.size + 1 < wr.heap.size by omega)).trans hO
      replace hbel3 : Below w.heap.size w u1 := Below.trans hbel3 (Below.trans (Below.drew (Below.refl _ _)) (hu1.mono (by simp; omega)))
      clear hS hu1
      refine ⟨u1.setRow (w.heap.size + 1) (u8s (X.set N v) ++ zeros sp (.int .u8 0)).toArray, by (go_simp; rw [setCell_row _ (by rw [hO]; simp; omega), hO, List.setIfInBounds_toArray, List.set_append_left _ _ (by simp; omega), hset]), trivial, fun hS => ?_⟩
      refine wpAnyR_done kr_ (fun wN hN => ?_) _
      go_wp2_with fail
      go_roundw
      case rel =>
       have zN := hN.size
       rw [setRow_size] at zN
       refine ⟨n + 1, rfl, by omega, ?_, ?_, ?_, by omega, Below.trans (Below.setRow hbel3 (by omega) _) (hN.mono (by simp; omega))⟩
       ·
        rw [HM.out, row_below hN (by simp; omega)]
        exact row_setRow_same (by rw [hO]; simp; omega) (by rw [hO]; simp)
       ·
        rw [row_below hN (by simp; omega), row_setRow_other _ _ _ (by omega)]
        exact hT
       ·
        rw [row_below hN (by simp; omega), row_setRow_other _ _ _ (by omega)]
        exact hK
      case measure => simp [intOf]; omega
     ·
      obtain rfl : n = b := by omega
      (try rw [show ((64 : Nat) : Int) = 64 from rfl])
      go_wp2_with fail
      go_roundw
      case rel =>
       refine ⟨m + 1, by simp; omega, by omega, ?_, hK, by omega, hbel3⟩
       rw [hO]
       rw [mkL_ge _ _ _ _ _ (by have := HB.out; omega), mkL_ge _ _ _ _ _ (by have := HB.out; omega)]
      case measure => simp [intOf]; omega
  ·
   have h1 : ¬ (64 : Int) * (m : Int) < l.length := by omega
   rw [mkL_ge _ _ _ _ _ (by omega)] at hO
   have hml : (maskL k count nonce l).length = l.length := mkL_length _ _ _ _ _
   go_wp2_with fail
   go_ret2
   exact ⟨rfl, hbel⟩
end Go.Proofs.YtcebllbikmgjpaaGreat
