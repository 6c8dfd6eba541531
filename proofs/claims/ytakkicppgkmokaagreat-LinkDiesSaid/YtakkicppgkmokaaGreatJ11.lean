/- Texts of this proof, merged: ChaD, ChaE, ChaS. -/
import Derived.Test.YtakkicppgkmokaaGreatChaJ
set_option linter.unusedSimpArgs false
set_option linter.unusedVariables false
namespace Go.Proofs.YtakkicppgkmokaaGreat
section
open Go.RowKit
def dblF (k : Nat) (l : List Int) : List Int := turnL l k (4 + k) (8 + k) (12 + k)
def dblG (k : Nat) (l : List Int) : List Int := turnL l k (4 + (k + 1) % 4) (8 + (k + 2) % 4) (12 + (k + 3) % 4)
def dblL (l : List Int) : List Int := upTo dblG 4 (upTo dblF 4 l)
theorem dblF_length (k : Nat) (l : List Int) : (dblF k l).length = l.length := turnL_length _ _ _ _ _
theorem dblG_length (k : Nat) (l : List Int) : (dblG k l).length = l.length := turnL_length _ _ _ _ _
theorem dblL_length (l : List Int) : (dblL l).length = l.length := by rw [dblL, upTo_len dblG_length, upTo_len dblF_length]
attribute [local irreducible] turnL upTo
set_option maxRecDepth 20000 in
set_option maxHeartbeats 1000000 in
theorem double_any (l : List Int) (S : Nat) (w : World) (hl : l.length = 16) (hS0 : row w S = (u32s l).toArray) :
  Calls Tryz.prog 134 #[.pointer (some ⟨S, 0, none⟩)] w fun e w' => e = .returned (.tuple #[]) ∧ row w' S = (u32s (dblL l)).toArray ∧ BelowBut w.heap.size S w w' := by
 have zS : S < w.heap.size := lt_of_row (i := 0) (by rw [hS0]; simp; omega)
 go_enter Tryz.func134, Tryz.ntmps134
 go_wp2_with fail
 go_loopw [6] (fun i wr => ∃ k : Nat, k ≤ 4 ∧ i = .int .i64 k ∧ row wr w.heap.size = #[.pointer (some ⟨S, 0, none⟩)] ∧ row wr S = (u32s (upTo dblF k l)).toArray ∧ w.heap.size < wr.heap.size ∧ BelowBut w.heap.size S w wr) (fun i _ => 4 - (intOf i).toNat)
 case atStart =>
  refine ⟨0, by omega, rfl, by simp [go_sem], ?_, by simp, BelowBut.of (by (repeat (first | exact Below.refl _ _ | refine Below.al ?_ _ | refine Below.drew ?_ | refine Below.sr ?_ _ | refine Below.sc ?_ _)))⟩
  rw [upTo]
  simp [go_sem, zS, hS0]
 case round =>
  obtain ⟨k, hk, rfl, hV, hS, hz, hbel⟩ := hrel
  obtain ⟨L, hL⟩ : ∃ L, upTo dblF k l = L := ⟨_, rfl⟩
  have hLl : L.length = 16 := by rw [← hL, upTo_len dblF_length, hl]
  rw [hL] at hS
  have HL := Lib.hid hL
  clear hL
  by_cases hlt : k < 4
  ·
   have h1 : (k : Int) < 4 := by omega
   have HT := turn_any L k (4 + k) (8 + k) (12 + k) w.heap.size S wr hLl (by omega) (by omega) (by omega) (by omega) hV hS
   push_cast at HT
   have HT' := Lib.hid HT
   clear HT
   go_wp2_with fail
   refine (HT'.out).mono ?_
   rintro e w2 ⟨rfl, r2, b2⟩
   have z2 := b2.size
   have hV2 := (b2.row hz (show w.heap.size ≠ S by omega)).trans hV
   clear HT'
   go_wp2_with fail
   go_roundw
   case rel =>
    refine ⟨k + 1, by omega, rfl, hV2, ?_, by omega, hbel.trans (b2.mono (by omega))⟩
    rw [upTo, HL.out]
    exact r2
   case measure => simp [intOf]; omega
  ·
   obtain rfl : k = 4 := by omega
   rw [show ((4 : Nat) : Int) = 4 from rfl]
   go_wp2_with fail
   have HF := HL
   have hL4 := hLl
   clear HL hLl
   go_loopw [19] (fun i wr => ∃ k : Nat, k ≤ 4 ∧ i = .int .i64 k ∧ row wr w.heap.size = #[.pointer (some ⟨S, 0, none⟩)] ∧ row wr S = (u32s (upTo dblG k L)).toArray ∧ w.heap.size < wr.heap.size ∧ BelowBut w.heap.size S w wr) (fun i _ => 4 - (intOf i).toNat)
   case atStart =>
    refine ⟨0, by omega, rfl, hV, ?_, hz, hbel⟩
    rw [upTo]
    exact hS
   case round =>
    clear hS hV hz hbel hk hlt
    obtain ⟨k, hk, rfl, hV, hS, hz, hbel⟩ := hrel
    obtain ⟨M, hL⟩ : ∃ M, upTo dblG k L = M := ⟨_, rfl⟩
    have hLl : M.length = 16 := by rw [← hL, upTo_len dblG_length, hL4]
    rw [hL] at hS
    have HL := Lib.hid hL
    clear hL
    by_cases hlt : k < 4
    ·
     have h1 : (k : Int) < 4 := by omega
     have HT := turn_any M k (4 + (k + 1) % 4) (8 + (k + 2) % 4) (12 + (k + 3) % 4) w.heap.size S wr hLl (by omega) (by omega) (by omega) (by omega) hV hS
     push_cast at HT
     have HT' := Lib.hid HT
     clear HT
     go_wp2_with fail
     refine (HT'.out).mono ?_
     rintro e w2 ⟨rfl, r2, b2⟩
     have z2 := b2.size
     have hV2 := (b2.row hz (show w.heap.size ≠ S by omega)).trans hV
     clear HT'
     go_wp2_with fail
     go_roundw
     case rel =>
      refine ⟨k + 1, by omega, rfl, hV2, ?_, by omega, hbel.trans (b2.mono (by omega))⟩
      rw [upTo, HL.out]
      exact r2
     case measure => simp [intOf]; omega
    ·
     obtain rfl : k = 4 := by omega
     rw [show ((4 : Nat) : Int) = 4 from rfl]
     go_wp2_with fail
     go_end0
     refine ⟨rfl, ?_, hbel⟩
     rw [hS, dblL, HF.out, HL.out]
end
section
open Go.RowKit
def wordI (l : List UInt8) : Int :=
 bits .or .u32 (bits .or .u32 (bits .or .u32 (IntKind.u32.wrap ((l.getD 0 0).toNat : Int)) (IntKind.u32.wrap (IntKind.u32.wrap ((l.getD 1 0).toNat : Int) * 256))) (IntKind.u32.wrap (IntKind.u32.wrap ((l.getD 2 0).toNat : Int) * 65536))) (IntKind.u32.wrap (IntKind.u32.wrap ((l.getD 3 0).toNat : Int) * 16777216))
theorem getD_elem {α : Type} (l : List α) (i : Nat) (d : α) (h : i < l.length) : l.getD i d = l[i] := by simp [List.getD_eq_getElem?_getD, h]
set_option maxRecDepth 20000 in
set_option maxHeartbeats 1000000 in
theorem word_any (l : List UInt8) (w : World) (hl : 4 ≤ l.length) :
  Calls Tryz.prog 156 #[.string ⟨l.toArray⟩] w fun e w' => e = .returned (.int .u32 (wordI l)) ∧ Below w.heap.size w w' := by
 have h0 : 0 < l.length := by omega
 have h1 : 1 < l.length := by omega
 have h2 : 2 < l.length := by omega
 have h3 : 3 < l.length := by omega
 have hw : wordI l = bits .or .u32 (bits .or .u32 (bits .or .u32 (IntKind.u32.wrap (l[0].toNat : Int)) (IntKind.u32.wrap (IntKind.u32.wrap (l[1].toNat : Int) * 256))) (IntKind.u32.wrap (IntKind.u32.wrap (l[2].toNat : Int) * 65536))) (IntKind.u32.wrap (IntKind.u32.wrap (l[3].toNat : Int) * 16777216)) := by
  rw [wordI, getD_elem _ _ _ h0, getD_elem _ _ _ h1, getD_elem _ _ _ h2, getD_elem _ _ _ h3]
 rw [hw]
 clear hw
 have g0 : (0 : Int) < l.length := by omega
 have g1 : (1 : Int) < l.length := by omega
 have g2 : (2 : Int) < l.length := by omega
 have g3 : (3 : Int) < l.length := by omega
 go_enter Tryz.func156, Tryz.ntmps156
 go_wp2_with fail
 refine wp_region_beginR [] rfl trivial (fun hS => ?_)
 refine qp 0 hS ?_
 refine qp 1 hS ?_
 refine qp 2 hS ?_
 refine qp 3 hS ?_
 refine qp 4 hS ?_
 refine qp 5 hS ?_
 refine qp 6 hS ?_
 refine qp 7 hS ?_
 refine qp 8 hS ?_
 refine qp 9 hS ?_
 refine qp 10 hS ?_
 refine qp 11 hS ?_
 refine qp 12 hS ?_
 refine qp 13 hS ?_
 refine qp 14 hS ?_
 refine qp 15 hS ?_
 refine qp 16 hS ?_
 refine qp 17 hS ?_
 refine qp 18 hS ?_
 refine wpAnyR_done (by kernel_rfl) (fun wN hN => ?_) _
 replace hN : Below (w).heap.size (w) wN := below_step (Below.drew (Below.refl _ _)) hN
 go_wp2_with fail
 go_ret
 exact ⟨rfl, hN⟩
def beginL : List UInt8 := [101, 120, 112, 97, 110, 100, 32, 51, 50, 45, 98, 121, 116, 101, 32, 107]
def firstT (k nonce : List UInt8) : List UInt8 := beginL ++ (k ++ ([48, 48, 48, 48] ++ nonce))
def firstF (t : List UInt8) (i : Nat) (l : List Int) : List Int := l.set i (wordI (t.drop (4 * i)))
def firstL (k : List UInt8) (count : Int) (nonce : List UInt8) : List Int := (upTo (firstF (firstT k nonce)) 16 (List.replicate 16 0)).set 12 count
theorem firstF_length (t : List UInt8) (i : Nat) (l : List Int) : (firstF t i l).length = l.length := by simp [firstF]
theorem firstL_length (k : List UInt8) (count : Int) (nonce : List UInt8) : (firstL k count nonce).length = 16 := by simp [firstL, upTo_len (firstF_length _)]
theorem u32s_zeros (n : Nat) : u32s (List.replicate n 0) = zeros n (.int .u32 0) := by simp [u32s, zeros]
attribute [local irreducible] wordI upTo
set_option maxRecDepth 20000 in
set_option maxHeartbeats 1000000 in
theorem first_any (k : List UInt8) (count : Int) (nonce : List UInt8) (w : World) (hk : k.length = 32) (hn : nonce.length = 12) :
  Calls Tryz.prog 133 #[.agg (u8s k).toArray, .int .u32 count, .string ⟨nonce.toArray⟩] w fun e w' => e = .returned (.agg (u32s (firstL k count nonce)).toArray) ∧ Below w.heap.size w w' := by
 obtain ⟨t, ht⟩ : ∃ t, firstT k nonce = t := ⟨_, rfl⟩
 have htl : t.length = 64 := by rw [← ht]; simp [firstT, beginL, hk, hn]
 have HT := Lib.hid ht
 go_enter Tryz.func133, Tryz.ntmps133
 go_wp2_with fail
 rw [show (101 :: 120 :: 112 :: 97 :: 110 :: 100 :: 32 :: 51 :: 50 :: 45 :: 98 :: 121 :: 116 :: 101 :: 32 :: 107 :: (k ++ 48 :: 48 :: 48 :: 48 :: nonce) : List UInt8) = t from HT.out]
 go_loopw [16] (fun i wr => ∃ m : Nat, m ≤ 16 ∧ i = .int .i64 m ∧ row wr (w.heap.size + 1 + 1) = (u32s (upTo (firstF t) m (List.replicate 16 0))).toArray ∧ row wr (w.heap.size + 1) = (zeros 16 (.int .u32 0)).toArray ∧ w.heap.size + 1 + 1 < wr.heap.size ∧ Below w.heap.size w wr) (fun i _ => 16 - (intOf i).toNat)
 case atStart =>
  refine ⟨0, by omega, rfl, ?_, by simp [go_sem], by simp, (by (repeat (first | exact Below.refl _ _ | refine Below.al ?_ _ | refine Below.drew ?_ | refine Below.sr ?_ _ | refine Below.sc ?_ _)))⟩
  rw [upTo, u32s_zeros]
  simp [go_sem]
 case round =>
  obtain ⟨m, hm, rfl, hV, hR, hz, hbel⟩ := hrel
  obtain ⟨L, hL⟩ : ∃ L, upTo (firstF t) m (List.replicate 16 0) = L := ⟨_, rfl⟩
  have hLl : L.length = 16 := by rw [← hL, upTo_len (firstF_length _)]; simp
  rw [hL] at hV
  have HL := Lib.hid hL
  clear hL
  by_cases hlt : m < 16
  ·
   have h1 : (m : Int) < 16 := by omega
   have h2 : (4 : Int) * m ≤ t.length := by omega
   have h3 : m < L.length := by omega
   have hwd := Lib.hid (fun w => word_any (t.drop (4 * m)) w (by simp; omega))
   obtain ⟨x, hx⟩ : ∃ x, wordI (t.drop (4 * m)) = x := ⟨_, rfl⟩
   rw [hx] at hwd
   have HX := Lib.hid hx
   clear hx
   go_wp2_with fail
   refine (hwd.out _).mono ?_
   rintro e w2 ⟨rfl, b2⟩
   have z2 := b2.size
   have hV2 := (row_below b2 (by omega)).trans hV
   have hR2 := (row_below b2 (by omega)).trans hR
   go_wp2_with fail
   go_roundw
   case rel =>
    have e : upTo (firstF t) (m + 1) (List.replicate 16 0) = L.set m x := by rw [upTo, HL.out, firstF, HX.out]
    refine ⟨m + 1, by omega, rfl, ?_, by (try show row (World.setRow _ _ _) _ = _); rw [row_setRow_other _ _ _ (by omega)]; exact hR2, by simp; omega, Below.setRow (Below.trans hbel (b2.mono (by omega))) (by omega) _⟩
    rw [e]
    exact row_setRow_same (by rw [hV2]; simp; omega) (by rw [hV2]; simp)
   case measure => simp [intOf]; omega
  ·
   obtain rfl : m = 16 := by omega
   rw [show ((16 : Nat) : Int) = 16 from rfl]
   have h12 : 12 < L.length := by omega
   have e12 := row_setRow_same (w := wr) (g := w.heap.size + 1 + 1) (c := (u32s (L.set 12 count)).toArray) (by rw [hV]; simp; omega) (by rw [hV]; simp)
   have hR3 : row (wr.setRow (w.heap.size + 1 + 1) (u32s (L.set 12 count)).toArray) (w.heap.size + 1) = (zeros 16 (.int .u32 0)).toArray := by (try show row (World.setRow _ _ _) _ = _); rw [row_setRow_other _ _ _ (by omega)]; exact hR
   have hl12 : (L.set 12 count).length = 16 := by simpa using hLl
   go_wp2_with fail
   have e : L.set 12 count = firstL k count nonce := by rw [firstL, HT.out, HL.out]
   rw [e] at e12 hl12 hR3 ⊢
   have hfin := row_setRow_same (w := wr.setRow (w.heap.size + 1 + 1) (u32s (firstL k count nonce)).toArray) (g := w.heap.size + 1) (c := (u32s (firstL k count nonce)).toArray) (by rw [hR3]; simp) (by rw [hR3]; simp [hl12])
   (try simp only [Exit.inBlock, Exit.then])
   refine bodyPost_ret (results_1 rfl (resOk_row rfl ?_)) rfl ?_
   ·
    rw [hfin]
    simp [hl12]
   refine ⟨by rw [hfin], ?_⟩
   exact Below.setRow (Below.setRow hbel (by omega) _) (by omega) _
def outF (l : List Int) (i : Nat) (b : List UInt8) : List UInt8 := b.set i (byteI (l.getD (i / 4) 0 / 2 ^ (8 * (i % 4))))
def outL (l : List Int) : List UInt8 := upTo (outF l) 64 (List.replicate 64 0)
theorem outF_length (l : List Int) (i : Nat) (b : List UInt8) : (outF l i b).length = b.length := by simp [outF]
theorem outL_length (l : List Int) : (outL l).length = 64 := by rw [outL, upTo_len8 (outF_length l)]; simp
theorem u8s_zeros (n : Nat) : u8s (List.replicate n 0) = zeros n (.int .u8 0) := by simp [u8s, zeros]
set_option maxRecDepth 20000 in
set_option maxHeartbeats 1000000 in
theorem bytes_any (l : List Int) (S : Nat) (w : World) (hl : l.length = 16) (hS0 : row w S = (u32s l).toArray) :
  Calls Tryz.prog 135 #[.pointer (some ⟨S, 0, none⟩)] w fun e w' => e = .returned (.agg (u8s (outL l)).toArray) ∧ Below w.heap.size w w' := by
 have zS : S < w.heap.size := lt_of_row (i := 0) (by rw [hS0]; simp; omega)
 go_enter Tryz.func135, Tryz.ntmps135
 go_wp2_with fail
 go_loopw [5] (fun i wr => ∃ m : Nat, m ≤ 64 ∧ i = .int .i64 m ∧ row wr (w.heap.size + 1) = (u8s (upTo (outF l) m (List.replicate 64 0))).toArray ∧ row wr w.heap.size = (zeros 64 (.int .u8 0)).toArray ∧ row wr S = (u32s l).toArray ∧ w.heap.size + 1 < wr.heap.size ∧ Below w.heap.size w wr) (fun i _ => 64 - (intOf i).toNat)
 case atStart =>
  refine ⟨0, by omega, rfl, ?_, by simp [go_sem], by simp [go_sem, zS, hS0], by simp, (by (repeat (first | exact Below.refl _ _ | refine Below.al ?_ _ | refine Below.drew ?_ | refine Below.sr ?_ _ | refine Below.sc ?_ _)))⟩
  rw [upTo, u8s_zeros]
  simp [go_sem]
 case round =>
  obtain ⟨m, hm, rfl, hV, hR, hS, hz, hbel⟩ := hrel
  obtain ⟨L, hL⟩ : ∃ L, upTo (outF l) m (List.replicate 64 0) = L := ⟨_, rfl⟩
  have hLl : L.length = 64 := by rw [← hL, upTo_len8 (outF_length _)]; simp
  rw [hL] at hV
  have HL := Lib.hid hL
  clear hL
  by_cases hlt : m < 64
  ·
   have h1 : (m : Int) < 64 := by omega
   have h3 : m < L.length := by omega
   obtain ⟨q, hq⟩ : ∃ q, m / 4 = q := ⟨_, rfl⟩
   obtain ⟨r, hr⟩ : ∃ r, m % 4 = r := ⟨_, rfl⟩
   have e1 : (m : Int) / 4 = (q : Int) := by omega
   have e2 : (m : Int) % 4 = (r : Int) := by omega
   obtain ⟨p, hp⟩ : ∃ p, 8 * r = p := ⟨_, rfl⟩
   have e3 : (8 : Int) * (r : Int) = (p : Int) := by omega
   have h11 : p < 32 := by omega
   have HP := Lib.hid hp
   clear hp
   have h8 : q < l.length := by omega
   have h9 : (q : Int) < 16 := by omega
   have h9' : q < 16 := by omega
   have h10 : r < 4 := by omega
   have HQ := Lib.hid hq
   have HR := Lib.hid hr
   clear hq hr
   go_wp2_with fail
   go_roundw
   case rel =>
    have e : u8s (upTo (outF l) (m + 1) (List.replicate 64 0)) = (u8s L).set m (.int .u8 (l[q] / 2 ^ p % 256)) := by
     rw [upTo, HL.out, u8s_set]
     unfold outF
     rw [HQ.out, HR.out, HP.out, getD_elem _ _ _ h8]
    refine ⟨m + 1, by omega, rfl, ?_, by (try show row (World.setRow _ _ _) _ = _); rw [row_setRow_other _ _ _ (by omega)]; exact hR, by (try show row (World.setRow _ _ _) _ = _); rw [row_setRow_other _ _ _ (by omega)]; exact hS, by simp; omega, Below.setRow hbel (by omega) _⟩
    rw [e]
    exact row_setRow_same (by rw [hV]; simp; omega) (by rw [hV]; simp)
   case measure => simp [intOf]; omega
  ·
   obtain rfl : m = 64 := by omega
   rw [show ((64 : Nat) : Int) = 64 from rfl]
   have e : L = outL l := HL.out.symm
   rw [e] at hLl hV
   go_wp2_with fail
   have hfin := row_setRow_same (w := wr) (g := w.heap.size) (c := (u8s (outL l)).toArray) (by rw [hR]; simp) (by rw [hR]; simp [hLl])
   (try simp only [Exit.inBlock, Exit.then])
   refine bodyPost_ret (results_1 rfl (resOk_row rfl ?_)) rfl ?_
   ·
    rw [hfin]
    simp [hLl]
   refine ⟨by rw [hfin], ?_⟩
   exact Below.setRow hbel (by omega) _
end
section
open Go.RowKit
def twentyF (_ : Nat) (l : List Int) : List Int := dblL l
def addF (v : List Int) (i : Nat) (l : List Int) : List Int := l.set i ((l.getD i 0 + v.getD i 0) % 4294967296)
def streamW (v : List Int) : List Int := upTo (addF v) 16 (upTo twentyF 10 v)
def streamL (k : List UInt8) (count : Int) (nonce : List UInt8) : List UInt8 := outL (streamW (firstL k count nonce))
theorem twentyF_length (i : Nat) (l : List Int) : (twentyF i l).length = l.length := dblL_length l
theorem addF_length (v : List Int) (i : Nat) (l : List Int) : (addF v i l).length = l.length := by simp [addF]
theorem streamL_length (k : List UInt8) (count : Int) (nonce : List UInt8) : (streamL k count nonce).length = 64 := outL_length _
attribute [local irreducible] firstL dblL outL upTo
set_option maxRecDepth 20000 in
set_option maxHeartbeats 2000000 in
theorem stream_any (k : List UInt8) (count : Int) (nonce : List UInt8) (w : World) (hk : k.length = 32) (hn : nonce.length = 12) :
  Calls Tryz.prog 106 #[.agg (u8s k).toArray, .int .u32 count, .string ⟨nonce.toArray⟩] w fun e w' => e = .returned (.agg (u8s (streamL k count nonce)).toArray) ∧ Below w.heap.size w w' := by
 have HF := Lib.hid (fun w => first_any k count nonce w hk hn)
 have hfl := firstL_length k count nonce
 obtain ⟨f, hf⟩ : ∃ f, firstL k count nonce = f := ⟨_, rfl⟩
 have hst : streamL k count nonce = outL (streamW f) := by rw [streamL, hf]
 rw [hst]
 rw [hf] at HF hfl
 clear hf hst
 have hol := outL_length (streamW f)
 go_enter Tryz.func106, Tryz.ntmps106
 go_wp2_with fail
 refine (HF.out _).mono ?_
 rintro e w1 ⟨rfl, b1⟩
 have hR : row w1 (w.heap.size + 1) = (zeros 64 (.int .u8 0)).toArray := by rw [row_below b1 (by simp)]; simp [go_sem]
 have z1 := (b1).size
 try simp at z1
 replace b1 := below_of b1 (show Below (w).heap.size w _ from by (repeat (first | exact Below.refl _ _ | refine Below.al ?_ _ | refine Below.drew ?_ | refine Below.sr ?_ _ | refine Below.sc ?_ _))) (by first | (simp; done) | (simp; omega) | omega)
 clear HF
 go_wp2_with fail
 go_loopw [15] (fun i wr => ∃ m : Nat, m ≤ 10 ∧ i = .int .i64 m ∧ row wr (w1.heap.size + 1) = (u32s (upTo twentyF m f)).toArray ∧ row wr w1.heap.size = (u32s f).toArray ∧ row wr (w.heap.size + 1) = (zeros 64 (.int .u8 0)).toArray ∧ w1.heap.size + 1 < wr.heap.size ∧ Below w.heap.size w wr) (fun i _ => 10 - (intOf i).toNat)
 case atStart =>
  have q1 : w.heap.size + 1 < w1.heap.size := by omega
  refine ⟨0, by omega, rfl, ?_, ?_, ?_, by simp, ?_⟩
  ·
   rw [upTo]
   exact row_alloc_at _ _ _ (by simp)
  ·
   rw [row_alloc_past _ _ (by simp)]
   exact row_alloc_at _ _ _ rfl
  ·
   rw [row_alloc_past _ _ (by simp; omega), row_alloc_past _ _ (by omega)]
   exact hR
  ·
   exact Below.alloc (Below.alloc b1 (by omega) _) (by simp; omega) _
 case round =>
  clear hR b1
  obtain ⟨m, hm, rfl, hW, hV, hR, hz, hbel⟩ := hrel
  obtain ⟨L, hL⟩ : ∃ L, upTo twentyF m f = L := ⟨_, rfl⟩
  have hLl : L.length = 16 := by rw [← hL, upTo_len twentyF_length, hfl]
  rw [hL] at hW
  have HL := Lib.hid hL
  clear hL
  by_cases hlt : m < 10
  ·
   have h1 : (m : Int) < 10 := by omega
   go_wp2_with fail
   refine (double_any L _ _ hLl hW).mono ?_
   rintro e w2 ⟨rfl, r2, b2⟩
   have z2 := b2.size
   have hV2 := (b2.row (by omega) (by omega)).trans hV
   have hR2 := (b2.row (by omega) (by omega)).trans hR
   go_wp2_with fail
   go_roundw
   case rel =>
    refine ⟨m + 1, by omega, rfl, ?_, hV2, hR2, by omega, Below.trans hbel ((b2.mono (by omega)).below (by omega))⟩
    rw [upTo, HL.out]
    exact r2
   case measure => simp [intOf]; omega
  ·
   obtain rfl : m = 10 := by omega
   rw [show ((10 : Nat) : Int) = 10 from rfl]
   have H10 := HL
   have h10 := hLl
   clear HL hLl hlt hm
   go_wp2_with fail
   go_loopw [19] (fun i wq => ∃ m : Nat, m ≤ 16 ∧ i = .int .i64 m ∧ row wq (w1.heap.size + 1) = (u32s (upTo (addF f) m L)).toArray ∧ row wq w1.heap.size = (u32s f).toArray ∧ row wq (w.heap.size + 1) = (zeros 64 (.int .u8 0)).toArray ∧ w1.heap.size + 1 < wq.heap.size ∧ Below w.heap.size w wq) (fun i _ => 16 - (intOf i).toNat)
   case atStart =>
    refine ⟨0, by omega, rfl, ?_, hV, hR, hz, hbel⟩
    rw [upTo]; exact hW
   case round =>
    clear hR hW hV hz hbel
    obtain ⟨m, hm, rfl, hW, hV, hR, hz, hbel⟩ := hrel
    obtain ⟨M, hM⟩ : ∃ M, upTo (addF f) m L = M := ⟨_, rfl⟩
    have hMl : M.length = 16 := by rw [← hM, upTo_len (addF_length f), h10]
    rw [hM] at hW
    have HM := Lib.hid hM
    clear hM
    by_cases hlt : m < 16
    ·
     have h1 : (m : Int) < 16 := by omega
     have k1 : m < M.length := by omega
     have k2 : m < f.length := by omega
     go_wp2_with fail
     go_region
     go_wp2_with fail
     go_roundw
     case rel =>
      have e : upTo (addF f) (m + 1) L = M.set m ((M[m] + f[m]) % 4294967296) := by
       rw [upTo, HM.out, addF, getD_elem _ _ _ k1, getD_elem _ _ _ k2]
      refine ⟨m + 1, by omega, rfl, ?_, by (try show row (World.setRow _ _ _) _ = _); rw [row_setRow_other _ _ _ (by omega)]; exact hV, by (try show row (World.setRow _ _ _) _ = _); rw [row_setRow_other _ _ _ (by omega)]; exact hR, by simp; omega, Below.drew (Below.setRow hbel (by omega) _)⟩
      rw [e]
      exact row_setRow_same (by rw [hW]; simp; omega) (by rw [hW]; simp)
     case measure => simp [intOf]; omega
    ·
     obtain rfl : m = 16 := by omega
     rw [show ((16 : Nat) : Int) = 16 from rfl]
     have e : M = streamW f := by rw [streamW, H10.out]; exact HM.out.symm
     have hMl' := hMl
     rw [e] at hW hMl'
     go_wp2_with fail
     refine (bytes_any (streamW f) _ _ hMl' hW).mono ?_
     rintro e w3 ⟨rfl, b3⟩
     have z3 := b3.size
     have hR3 := (row_below b3 (by omega)).trans hR
     go_wp2_with fail
     have hfin := row_setRow_same (w := w3) (g := w.heap.size + 1) (c := (u8s (outL (streamW f))).toArray) (by rw [hR3]; simp) (by rw [hR3]; simp [hol])
     (try simp only [Exit.inBlock, Exit.then])
     refine bodyPost_ret (results_1 rfl (resOk_row rfl ?_)) rfl ?_
     ·
      rw [hfin]
      simp [hol]
     refine ⟨by rw [hfin], ?_⟩
     exact Below.setRow (Below.trans hbel (b3.mono (by omega))) (by omega) _
set_option maxRecDepth 20000 in
theorem block_any (k : List UInt8) (count : Int) (nonce : List UInt8) (w : World) (hk : k.length = 32) (hn : nonce.length = 12) :
  Calls Tryz.prog 107 #[.agg (u8s k).toArray, .int .u32 count, .string ⟨nonce.toArray⟩] w fun e w' => e = .returned (.tuple #[.string ⟨(streamL k count nonce).toArray⟩, .int .i64 0]) ∧ Below w.heap.size w w' := by
 have HS := Lib.hid (fun w => stream_any k count nonce w hk hn)
 obtain ⟨t, ht⟩ : ∃ t, streamL k count nonce = t := ⟨_, rfl⟩
 have hl : t.length = 64 := by rw [← ht]; exact streamL_length _ _ _
 rw [ht] at HS ⊢
 clear ht
 have h : ((nonce.length : Int) != 12) = false := by simp; omega
 go_enter Tryz.func107, Tryz.ntmps107
 go_wp2_with fail
 refine (HS.out _).mono ?_
 rintro e w1 ⟨rfl, b1⟩
 replace b1 := below_of b1 (show Below (w).heap.size w _ from by (repeat (first | exact Below.refl _ _ | refine Below.al ?_ _ | refine Below.drew ?_ | refine Below.sr ?_ _ | refine Below.sc ?_ _))) (by first | (simp; done) | (simp; omega) | omega)
 clear h
 go_wp2_with fail
 go_ret2
 exact ⟨rfl, Below.alloc b1 (by have := b1.size; omega) _⟩
end
end Go.Proofs.YtakkicppgkmokaaGreat
