/- Reference of chapter 8: what any bytes are parsed as. -/
import Derived.Test.YtckckabedgpbiaaGreatJ50
import Derived.Test.YtckckabedgpbiaaGreatJ27
set_option linter.unusedSimpArgs false
set_option linter.unusedVariables false
set_option maxRecDepth 4000
namespace Go.Proofs.YtckckabedgpbiaaGreat
open Go.RowKit
theorem numAt_duo (l : List UInt8) (k : Nat) (h : k + 2 ≤ l.length) : numAt l k = (l[k]'(by omega)).toNat * 256 + (l[k + 1]'(by omega)).toNat := by
 rw [numAt, List.drop_eq_getElem_cons (by omega), List.take_succ_cons, List.drop_eq_getElem_cons (by omega), List.take_succ_cons, List.take_zero]
 simp [numN]
theorem gone_put (l : List UInt8) (o n k : Nat) (h : o + n ≤ l.length) (hk : k < n) : (u8s (gone l o n k)).set k (.int .u8 ((l[o + k]'(by omega)).toNat : Int)) = u8s (gone l o n (k + 1)) := by
 have a := put1 [] [] l o n k k (by simp) h hk
 simpa using a
theorem gone_put0 (l : List UInt8) (n k : Nat) (h : n ≤ l.length) (hk : k < n) : (u8s (gone l 0 n k)).set k (.int .u8 ((l[k]'(by omega)).toNat : Int)) = u8s (gone l 0 n (k + 1)) := by
 have a := gone_put l 0 n k (by omega) hk
 simpa only [Nat.zero_add] using a
theorem wrap64_65 (x : Int) (h0 : 0 ≤ x) (h1 : x ≤ 65535) : wrap64 x = x := by unfold wrap64; omega
set_option maxRecDepth 20000 in
set_option maxHeartbeats 8000000 in
theorem r08Parse_any (l : List UInt8) (w : World) (hl : l.length ≤ 100000) :
  Calls Tryz.prog 39 #[.string ⟨l.toArray⟩] w fun e w' => e = .returned (ethOut (ethParse l)) ∧ Below w.heap.size w w' := by
 have hlI : (l.length : Int) ≤ 100000 := by omega
 obtain ⟨er, her⟩ : ∃ x, ethParse l = x := ⟨_, rfl⟩
 rw [her]
 have HER := Lib.hid her
 have HN := Lib.hid (fun (k : Nat) (hk : k + 2 ≤ l.length) w => rnumber_any ((l.drop k).take 2) w (by simp; omega))
 clear her
 go_enter Tryz.func39, Tryz.ntmps39
 obtain ⟨R, hR⟩ : ∃ x, w.heap.size = x := ⟨_, rfl⟩
 obtain ⟨W, hW⟩ : ∃ W, (w.alloc (.cells (u8v mac0 ++ (u8v mac0 ++ [Value.int .i64 0, .string ⟨#[]⟩, .int .i64 0, .int .i64 0])).toArray 101)).alloc (.cells (u8v mac0 ++ (u8v mac0 ++ [Value.int .i64 0, .string ⟨#[]⟩, .int .i64 (-1), .int .i64 0])).toArray 101) = W := ⟨_, rfl⟩
 have bW : Below w.heap.size w W := by rw [← hW]; exact Below.alloc (Below.alloc (Below.refl _ _) (Nat.le_refl _) _) (by simp) _
 have rR : row W R = (u8v mac0 ++ (u8v mac0 ++ [Value.int .i64 0, .string ⟨#[]⟩, .int .i64 0, .int .i64 0])).toArray := by rw [← hW, ← hR]; simp [go_sem]
 have rX : row W (R + 1) = (u8v mac0 ++ (u8v mac0 ++ [Value.int .i64 0, .string ⟨#[]⟩, .int .i64 (-1), .int .i64 0])).toArray := by rw [← hW, ← hR]; simp [go_sem]
 have zW : W.heap.size = R + 2 := by rw [← hW, ← hR]; simp
 by_cases h14 : l.length < 14
 ·
  have h14I : (l.length : Int) < 14 := by omega
  go_wp2_with fail
  (try simp only [Exit.inBlock, Exit.then])
  have hfin := row_setRow_same (w := W) (g := R) (c := ((u8v mac0 ++ (u8v mac0 ++ [Value.int .i64 0, .string ⟨#[]⟩, .int .i64 0, .int .i64 0]))).toArray) (by simp [rR]) (by simp [rR])
  refine bodyPost_ret (results_2 rfl (resOk_row rfl ?_) resOk_tmp) rfl ?_
  ·
   rw [hfin]; simp
  refine ⟨?_, Below.setRow bW (Nat.le_of_eq hR) _⟩
  rw [hfin, ← HER.out, ethParse_e14 h14]
  show _ = Ending.returned (.tuple #[.agg zeroEth.toArray, .int .i64 2])
  rw [zeroEth_eq]
  rfl
 have h14I : ¬ (l.length : Int) < 14 := by omega
 go_wp2_with fail
 (try rw [hW])
 clear hW
 go_loopw [5] (fun i wr => ∃ k : Nat, k ≤ 6 ∧ i = .int .i64 k ∧ row wr R = (u8v mac0 ++ (u8v mac0 ++ [Value.int .i64 0, .string ⟨#[]⟩, .int .i64 0, .int .i64 0])).toArray ∧ row wr (R + 1) = (u8s (gone l 0 6 k) ++ (u8s (gone l 6 6 k) ++ [Value.int .i64 0, .string ⟨#[]⟩, .int .i64 (-1), .int .i64 0])).toArray ∧ Below w.heap.size w wr ∧ R + 1 < wr.heap.size) (fun i _ => 6 - (intOf i).toNat)
 case atStart =>
  refine ⟨0, by omega, rfl, rR, ?_, bW, by omega⟩
  rw [rX, gone_zero, gone_zero]
  rfl
 case round =>
  clear rR rX bW zW
  obtain ⟨k, hk, rfl, rR, rX, hbel, zr⟩ := hrel
  by_cases hlt : k < 6
  ·
   have g1 := gone_length l 0 6 k (by omega) (by omega)
   have g2 := gone_length l 6 6 k (by omega) (by omega)
   have c1 : (k : Int) < 6 := by omega
   have f5 : k < (row wr (R + 1)).size := by rw [rX]; simp [g1, g2]; omega
   have f1 : k < 16 := by omega
   have f2 : 6 + k < 16 := by omega
   have f3 : k < l.length := by omega
   have f4 : 6 + k < l.length := by omega
   have f6 : k < 12 := by omega
   have f7 : (k : Int) < (l.length : Int) := by omega
   have f8 : 6 + (k : Int) < (l.length : Int) := by omega
   go_wp2_with fail
   rw [gone_put0 _ _ _ (by omega) hlt, gone_put _ _ _ _ (by omega) hlt]
   go_roundw
   case rel =>
    refine ⟨k + 1, by omega, rfl, by rw [row_setRow_other _ _ _ (by omega)]; exact rR, row_setRow_same (by rw [rX]; simp; omega) (by rw [rX]; simp [gone_length l _ 6 _ (show 0 + 6 ≤ l.length by omega), gone_length l _ 6 _ (show 6 + 6 ≤ l.length by omega), hlt, hk, Nat.succ_le_of_lt hlt]), Below.setRow hbel (by omega) _, by simpa using zr⟩
   case measure => simp [intOf]; omega
  ·
   obtain rfl : k = 6 := by omega
   rw [gone_full l 0 6 (by omega), gone_full l 6 6 (by omega)] at rX
   replace rX : row wr (R + 1) = (u8v (vecAt l 0 6) ++ (u8v (vecAt l 6 6) ++ [Value.int .i64 0, .string ⟨#[]⟩, .int .i64 (-1), .int .i64 0])).toArray := rX
   rw [show ((6 : Nat) : Int) = 6 from rfl]
   have zz := hbel.size
   have h12 := numAt_duo l 12 (by omega)
   obtain ⟨b0, hb0⟩ : ∃ x, l[12] = x := ⟨_, rfl⟩
   obtain ⟨b1, hb1⟩ : ∃ x, l[12 + 1] = x := ⟨_, rfl⟩
   rw [hb0, hb1] at h12
   have t0 := b0.toNat_lt
   have t1 := b1.toNat_lt
   have hl12 : (12 : Int) < (l.length : Int) := by omega
   have hl13 : (13 : Int) < (l.length : Int) := by omega
   have hb1' : l[13] = b1 := hb1
   have B7 := hbel
   have rR7 := rR
   have rX7 := rX
   clear rX rR hbel hb1
   by_cases htag : numAt l 12 = 33024
   ·
    have c0 : ((b0.toNat : Int) == 129) = true := beq_iff_eq.2 (by omega)
    have c1 : ((b1.toNat : Int) == 0) = true := beq_iff_eq.2 (by omega)
    by_cases h16 : l.length < 16
    ·
     have h16I : (l.length : Int) < 16 := by omega
     go_wp2_with fail
     (try simp only [Exit.inBlock, Exit.then])
     have hfin := row_setRow_same (w := wr) (g := R) (c := ((u8v mac0 ++ (u8v mac0 ++ [Value.int .i64 0, .string ⟨#[]⟩, .int .i64 0, .int .i64 0]))).toArray) (by simp [rR7]) (by simp [rR7])
     refine bodyPost_ret (results_2 rfl (resOk_row rfl ?_) resOk_tmp) rfl ?_
     ·
      rw [hfin]; simp
     refine ⟨?_, Below.setRow B7 (Nat.le_of_eq hR) _⟩
     rw [hfin, ← HER.out, ethParse_e16 h14 htag h16]
     show _ = Ending.returned (.tuple #[.agg zeroEth.toArray, .int .i64 2])
     rw [zeroEth_eq]
     rfl
    have h16I : ¬ (l.length : Int) < 16 := by omega
    have HNt := Lib.hid (HN.out 14 (by omega))
    have hlt := numAt_lt l 14
    obtain ⟨t, ht⟩ : ∃ x, numAt l 14 = x := ⟨_, rfl⟩
    have hnt : numN ((l.drop 14).take 2) = t := ht
    rw [hnt] at HNt
    rw [ht] at hlt
    clear hnt
    go_wp2_with fail
    (with_reducible refine (HNt.out _).mono ?_)
    rintro e wt ⟨rfl, bt⟩
    have zt := bt.size
    have Bt := B7.trans (bt.mono zz)
    have rRt := (row_below bt (by omega)).trans rR7
    have rXt := (row_below bt (by omega)).trans rX7
    clear bt rR7 rX7 B7 HNt
    have q1 : (t : Int).tdiv 4096 = ((t / 4096 : Nat) : Int) := by rw [Int.tdiv_eq_ediv_of_nonneg (by omega)]; omega
    obtain ⟨t4, ht4⟩ : ∃ x, t / 4096 = x := ⟨_, rfl⟩
    obtain ⟨t2, ht2⟩ : ∃ x, t4 % 2 = x := ⟨_, rfl⟩
    have q2 : (t4 : Int).tmod 2 = (t2 : Int) := by rw [Int.tmod_eq_emod_of_nonneg (by omega)]; omega
    rw [ht4] at q1
    have HWT := Lib.hid (wrap64_65 (t4 : Int) (by omega) (by omega))
    obtain ⟨v, hv0⟩ : ∃ v : Int, ((t % 4096 : Nat) : Int) = v := ⟨_, rfl⟩
    obtain ⟨p, hp0⟩ : ∃ p : Int, ((t / 8192 : Nat) : Int) = p := ⟨_, rfl⟩
    have q3 : (t : Int).tmod 4096 = v := by rw [Int.tmod_eq_emod_of_nonneg (by omega)]; omega
    have HWP := Lib.hid (wrap64_65 p (by omega) (by omega))
    have q4 : (t : Int).tdiv 8192 = p := by rw [Int.tdiv_eq_ediv_of_nonneg (by omega)]; omega
    obtain ⟨n, hn⟩ : ∃ x, numAt l 16 = x := ⟨_, rfl⟩
    have hnlt := numAt_lt l 16
    rw [hn] at hnlt
    have HES := Lib.hid (fun hs : t2 = 1 => ethParse_est h14 htag h16 (by rw [ht, ht4, ht2]; exact hs))
    have HE18 := Lib.hid (fun (hs : ¬ t2 = 1) (h18 : l.length < 18) => ethParse_e18 h14 htag h16 (by rw [ht, ht4, ht2]; exact hs) h18)
    have HR18 := Lib.hid (fun (hs : ¬ t2 = 1) (h18 : ¬ l.length < 18) => show ethParse l = ethRest l n 18 v p from ethParse_r18 h14 htag h16 (by rw [ht, ht4, ht2]; exact hs) h18 hn (by rw [ht]; exact hv0) (by rw [ht]; exact hp0))
    have hvn : 0 ≤ v ∧ v ≤ 4095 := by omega
    clear htag h12 hv0 hp0 ht ht4 ht2
    by_cases hs : t2 = 1
    ·
     have hsb : ((t2 : Int) == 1) = true := beq_iff_eq.2 (by omega)
     have hwt := HWT.out
     go_wp2_with fail
     (try simp only [Exit.inBlock, Exit.then])
     have hfin := row_setRow_same (w := wt) (g := R) (c := ((u8v mac0 ++ (u8v mac0 ++ [Value.int .i64 0, .string ⟨#[]⟩, .int .i64 0, .int .i64 0]))).toArray) (by simp [rRt]) (by simp [rRt])
     refine bodyPost_ret (results_2 rfl (resOk_row rfl ?_) resOk_tmp) rfl ?_
     ·
      rw [hfin]; simp
     refine ⟨?_, Below.setRow Bt (Nat.le_of_eq hR) _⟩
     rw [hfin, ← HER.out, HES.out hs]
     show _ = Ending.returned (.tuple #[.agg zeroEth.toArray, .int .i64 3])
     rw [zeroEth_eq]
     rfl
    have hsb : ((t2 : Int) == 1) = false := beq_eq_false_iff_ne.2 (by omega)
    by_cases h18 : l.length < 18
    ·
     have h18I : (l.length : Int) < 18 := by omega
     have hwt := HWT.out
     go_wp2_with fail
     (try simp only [Exit.inBlock, Exit.then])
     have hfin := row_setRow_same (w := wt) (g := R) (c := ((u8v mac0 ++ (u8v mac0 ++ [Value.int .i64 0, .string ⟨#[]⟩, .int .i64 0, .int .i64 0]))).toArray) (by simp [rRt]) (by simp [rRt])
     refine bodyPost_ret (results_2 rfl (resOk_row rfl ?_) resOk_tmp) rfl ?_
     ·
      rw [hfin]; simp
     refine ⟨?_, Below.setRow Bt (Nat.le_of_eq hR) _⟩
     rw [hfin, ← HER.out, HE18.out hs h18]
     show _ = Ending.returned (.tuple #[.agg zeroEth.toArray, .int .i64 2])
     rw [zeroEth_eq]
     rfl
    have h18I : ¬ (l.length : Int) < 18 := by omega
    obtain ⟨w7, hw7⟩ : ∃ x, wt.setRow (R + 1) ((u8v (vecAt l 0 6) ++ (u8v (vecAt l 6 6) ++ [Value.int .i64 0, .string ⟨#[]⟩, .int .i64 v, .int .i64 p]))).toArray = x := ⟨_, rfl⟩
    have rR7 : row w7 R = ((u8v mac0 ++ (u8v mac0 ++ [Value.int .i64 0, .string ⟨#[]⟩, .int .i64 0, .int .i64 0]))).toArray := by rw [← hw7, row_setRow_other _ _ _ (by omega)]; exact rRt
    have rX7 : row w7 (R + 1) = ((u8v (vecAt l 0 6) ++ (u8v (vecAt l 6 6) ++ [Value.int .i64 0, .string ⟨#[]⟩, .int .i64 v, .int .i64 p]))).toArray := by rw [← hw7]; exact row_setRow_same (by simp [rXt]) (by simp [rXt])
    have B7 : Below w.heap.size w w7 := by rw [← hw7]; exact Below.setRow Bt (by omega) _
    have z7 : w7.heap.size = wt.heap.size := by rw [← hw7, setRow_size]
    have hpar := HR18.out hs h18
    by_cases hL : 1500 + 18 < l.length
    ·
     have hLI : (1518 : Int) < (l.length : Int) := by omega
     have hwt := HWT.out
     have hwp := HWP.out
     go_wp2_with fail
     (try rw [hw7])
     clear hw7 rRt rXt Bt hwt hwp q1 q2 q3 q4
     (try simp only [Exit.inBlock, Exit.then])
     have hfin := row_setRow_same (w := w7) (g := R) (c := ((u8v mac0 ++ (u8v mac0 ++ [Value.int .i64 0, .string ⟨#[]⟩, .int .i64 0, .int .i64 0]))).toArray) (by simp [rR7]) (by simp [rR7])
     refine bodyPost_ret (results_2 rfl (resOk_row rfl ?_) resOk_tmp) rfl ?_
     ·
      rw [hfin]; simp
     refine ⟨?_, Below.setRow B7 (Nat.le_of_eq hR) _⟩
     rw [hfin, ← HER.out, hpar, ethRest_long hL]
     show _ = Ending.returned (.tuple #[.agg zeroEth.toArray, .int .i64 3])
     rw [zeroEth_eq]
     rfl
    have hLI : ¬ (1518 : Int) < (l.length : Int) := by omega
    have HNk := Lib.hid (HN.out 16 (by omega))
    have hnk : numN ((l.drop 16).take 2) = n := hn
    rw [hnk] at HNk
    clear hnk
    have hwt := HWT.out
    have hwp := HWP.out
    go_wp2_with fail
    (try rw [hw7])
    clear hw7 rRt rXt Bt hwt hwp q1 q2 q3 q4
    (with_reducible refine (HNk.out _).mono ?_)
    rintro e w8 ⟨rfl, b8⟩
    have z8 := b8.size
    have B8 := B7.trans (b8.mono B7.size)
    have rR8 := (row_below b8 (by omega)).trans rR7
    have rX8 := (row_below b8 (by omega)).trans rX7
    have zR8 : R + 1 < w8.heap.size := by omega
    have zw8 : w.heap.size ≤ R := by omega
    clear b8 rR7 rX7 HNk
    by_cases n15 : n ≤ 1500
    ·
     have n15I : (n : Int) ≤ 1500 := by omega
     by_cases hsh : l.length < 18 + n
     ·
      have hshI : (l.length : Int) < 18 + (n : Int) := by omega
      go_wp2_with fail
      (try simp only [Exit.inBlock, Exit.then])
      have hfin := row_setRow_same (w := w8) (g := R) (c := ((u8v mac0 ++ (u8v mac0 ++ [Value.int .i64 0, .string ⟨#[]⟩, .int .i64 0, .int .i64 0]))).toArray) (by simp [rR8]) (by simp [rR8])
      refine bodyPost_ret (results_2 rfl (resOk_row rfl ?_) resOk_tmp) rfl ?_
      ·
       rw [hfin]; simp
      refine ⟨?_, Below.setRow B8 (Nat.le_of_eq hR) _⟩
      rw [hfin, ← HER.out, hpar, ethRest_short hL n15 hsh]
      show _ = Ending.returned (.tuple #[.agg zeroEth.toArray, .int .i64 2])
      rw [zeroEth_eq]
      rfl
     have hshI : ¬ (l.length : Int) < 18 + (n : Int) := by omega
     have hs1 : (18 : Int) ≤ 18 + (n : Int) := by omega
     have hs2 : (18 : Int) + (n : Int) ≤ (l.length : Int) := by omega
     obtain ⟨w9, hw9⟩ : ∃ x, w8.setRow (R + 1) ((u8v (vecAt l 0 6) ++ (u8v (vecAt l 6 6) ++ [Value.int .i64 0, .string ⟨((l.drop 18).take n).toArray⟩, .int .i64 v, .int .i64 p]))).toArray = x := ⟨_, rfl⟩
     have rR9 : row w9 R = ((u8v mac0 ++ (u8v mac0 ++ [Value.int .i64 0, .string ⟨#[]⟩, .int .i64 0, .int .i64 0]))).toArray := by rw [← hw9, row_setRow_other _ _ _ (by omega)]; exact rR8
     have rX9 : row w9 (R + 1) = ((u8v (vecAt l 0 6) ++ (u8v (vecAt l 6 6) ++ [Value.int .i64 0, .string ⟨((l.drop 18).take n).toArray⟩, .int .i64 v, .int .i64 p]))).toArray := by rw [← hw9]; exact row_setRow_same (by rw [rX8]; simp) (by rw [rX8]; simp)
     have B9 : Below w.heap.size w w9 := by rw [← hw9]; exact Below.setRow B8 (by omega) _
     have zR9 : R + 1 < w9.heap.size := by rw [← hw9, setRow_size]; exact zR8
     by_cases hv : v = 4095
     ·
      have hvb : (v == 4095) = true := by rw [hv]; rfl
      have hv4 : 4094 < v := by omega
      have HV := Lib.hid hv4
      clear hv hv4
      go_wp2_with fail
      (try rw [hw9])
      (try clear hw9)
      skip
      go_wp2_with fail
      (try simp only [Exit.inBlock, Exit.then])
      have hfin := row_setRow_same (w := w9) (g := R) (c := ((u8v mac0 ++ (u8v mac0 ++ [Value.int .i64 0, .string ⟨#[]⟩, .int .i64 0, .int .i64 0]))).toArray) (by simp [rR9]) (by simp [rR9])
      refine bodyPost_ret (results_2 rfl (resOk_row rfl ?_) resOk_tmp) rfl ?_
      ·
       rw [hfin]; simp
      refine ⟨?_, Below.setRow B9 (Nat.le_of_eq hR) _⟩
      rw [hfin, ← HER.out, hpar, ethRest_lenV hL n15 hsh HV.out]
      show _ = Ending.returned (.tuple #[.agg zeroEth.toArray, .int .i64 12])
      rw [zeroEth_eq]
      rfl
     have hvb : (v == 4095) = false := beq_eq_false_iff_ne.2 hv
     have HV := Lib.hid (show ¬ 4094 < v by omega)
     go_wp2_with fail
     (try rw [hw9])
     (try clear hw9)
     go_wp2_with fail
     (try simp only [Exit.inBlock, Exit.then])
     have hfin := row_setRow_same (w := w9) (g := R) (c := ((u8v (vecAt l 0 6) ++ (u8v (vecAt l 6 6) ++ [Value.int .i64 0, .string ⟨((l.drop 18).take n).toArray⟩, .int .i64 v, .int .i64 p]))).toArray) (by simp [rR9]) (by simp [rR9])
     refine bodyPost_ret (results_2 rfl (resOk_row rfl ?_) resOk_tmp) rfl ?_
     ·
      rw [hfin]; simp
     refine ⟨?_, Below.setRow B9 (Nat.le_of_eq hR) _⟩
     rw [hfin, ← HER.out, hpar, ethRest_len hL n15 hsh (by have := HV.out; omega)]
     rfl
    have n15I : ¬ (n : Int) ≤ 1500 := by omega
    have n15b := decide_eq_false n15I
    by_cases hb1 : n < 1536
    ·
     have hb1b := decide_eq_true (show (n : Int) < 1536 by omega)
     go_wp2_with fail
     (try simp only [Exit.inBlock, Exit.then])
     have hfin := row_setRow_same (w := w8) (g := R) (c := ((u8v mac0 ++ (u8v mac0 ++ [Value.int .i64 0, .string ⟨#[]⟩, .int .i64 0, .int .i64 0]))).toArray) (by simp [rR8]) (by simp [rR8])
     refine bodyPost_ret (results_2 rfl (resOk_row rfl ?_) resOk_tmp) rfl ?_
     ·
      rw [hfin]; simp
     refine ⟨?_, Below.setRow B8 (Nat.le_of_eq hR) _⟩
     rw [hfin, ← HER.out, hpar, ethRest_bad hL n15 (.inl hb1)]
     show _ = Ending.returned (.tuple #[.agg zeroEth.toArray, .int .i64 3])
     rw [zeroEth_eq]
     rfl
    have hb1b := decide_eq_false (show ¬ (n : Int) < 1536 by omega)
    by_cases hb2 : n = 33024
    ·
     have hb2b : ((n : Int) == 33024) = true := beq_iff_eq.2 (by omega)
     go_wp2_with fail
     (try simp only [Exit.inBlock, Exit.then])
     have hfin := row_setRow_same (w := w8) (g := R) (c := ((u8v mac0 ++ (u8v mac0 ++ [Value.int .i64 0, .string ⟨#[]⟩, .int .i64 0, .int .i64 0]))).toArray) (by simp [rR8]) (by simp [rR8])
     refine bodyPost_ret (results_2 rfl (resOk_row rfl ?_) resOk_tmp) rfl ?_
     ·
      rw [hfin]; simp
     refine ⟨?_, Below.setRow B8 (Nat.le_of_eq hR) _⟩
     rw [hfin, ← HER.out, hpar, ethRest_bad hL n15 (.inr hb2)]
     show _ = Ending.returned (.tuple #[.agg zeroEth.toArray, .int .i64 3])
     rw [zeroEth_eq]
     rfl
    have hb2b : ((n : Int) == 33024) = false := beq_eq_false_iff_ne.2 (by omega)
    have hbad : ¬ (n < 1536 ∨ n = 33024) := by omega
    have hs2 : (18 : Int) ≤ (l.length : Int) := by omega
    obtain ⟨w9, hw9⟩ : ∃ x, w8.setRow (R + 1) ((u8v (vecAt l 0 6) ++ (u8v (vecAt l 6 6) ++ [Value.int .i64 (n : Int), .string ⟨(l.drop 18).toArray⟩, .int .i64 v, .int .i64 p]))).toArray = x := ⟨_, rfl⟩
    have rR9 : row w9 R = ((u8v mac0 ++ (u8v mac0 ++ [Value.int .i64 0, .string ⟨#[]⟩, .int .i64 0, .int .i64 0]))).toArray := by rw [← hw9, row_setRow_other _ _ _ (by omega)]; exact rR8
    have rX9 : row w9 (R + 1) = ((u8v (vecAt l 0 6) ++ (u8v (vecAt l 6 6) ++ [Value.int .i64 (n : Int), .string ⟨(l.drop 18).toArray⟩, .int .i64 v, .int .i64 p]))).toArray := by rw [← hw9]; exact row_setRow_same (by rw [rX8]; simp) (by rw [rX8]; simp)
    have B9 : Below w.heap.size w w9 := by rw [← hw9]; exact Below.setRow B8 (by omega) _
    have zR9 : R + 1 < w9.heap.size := by rw [← hw9, setRow_size]; exact zR8
    by_cases hv : v = 4095
    ·
     have hvb : (v == 4095) = true := by rw [hv]; rfl
     have hv4 : 4094 < v := by omega
     have HV := Lib.hid hv4
     clear hv hv4
     go_wp2_with fail
     (try rw [hw9])
     (try clear hw9)
     skip
     go_wp2_with fail
     (try simp only [Exit.inBlock, Exit.then])
     have hfin := row_setRow_same (w := w9) (g := R) (c := ((u8v mac0 ++ (u8v mac0 ++ [Value.int .i64 0, .string ⟨#[]⟩, .int .i64 0, .int .i64 0]))).toArray) (by simp [rR9]) (by simp [rR9])
     refine bodyPost_ret (results_2 rfl (resOk_row rfl ?_) resOk_tmp) rfl ?_
     ·
      rw [hfin]; simp
     refine ⟨?_, Below.setRow B9 (Nat.le_of_eq hR) _⟩
     rw [hfin, ← HER.out, hpar, ethRest_tyV hL n15 hbad HV.out]
     show _ = Ending.returned (.tuple #[.agg zeroEth.toArray, .int .i64 12])
     rw [zeroEth_eq]
     rfl
    have hvb : (v == 4095) = false := beq_eq_false_iff_ne.2 hv
    have HV := Lib.hid (show ¬ 4094 < v by omega)
    go_wp2_with fail
    (try rw [hw9])
    (try clear hw9)
    go_wp2_with fail
    (try simp only [Exit.inBlock, Exit.then])
    have hfin := row_setRow_same (w := w9) (g := R) (c := ((u8v (vecAt l 0 6) ++ (u8v (vecAt l 6 6) ++ [Value.int .i64 (n : Int), .string ⟨(l.drop 18).toArray⟩, .int .i64 v, .int .i64 p]))).toArray) (by simp [rR9]) (by simp [rR9])
    refine bodyPost_ret (results_2 rfl (resOk_row rfl ?_) resOk_tmp) rfl ?_
    ·
     rw [hfin]; simp
    refine ⟨?_, Below.setRow B9 (Nat.le_of_eq hR) _⟩
    rw [hfin, ← HER.out, hpar, ethRest_ty hL n15 hbad (by have := HV.out; omega)]
    rfl
   ·
    obtain ⟨n, hn⟩ : ∃ x, numAt l 12 = x := ⟨_, rfl⟩
    have hnlt := numAt_lt l 12
    rw [hn] at hnlt htag h12
    have hpar := ethParse_r14 h14 hn htag
    have zw7 : w.heap.size ≤ R := Nat.le_of_eq hR
    by_cases d0 : b0.toNat = 129
    ·
     have c0 : ((b0.toNat : Int) == 129) = true := beq_iff_eq.2 (by omega)
     have c1 : ((b1.toNat : Int) == 0) = false := beq_eq_false_iff_ne.2 (by omega)
     clear h12
     by_cases hL : 1500 + 14 < l.length
     ·
      have hLI : (1514 : Int) < (l.length : Int) := by omega
      go_wp2_with fail
      (try simp only [Exit.inBlock, Exit.then])
      have hfin := row_setRow_same (w := wr) (g := R) (c := ((u8v mac0 ++ (u8v mac0 ++ [Value.int .i64 0, .string ⟨#[]⟩, .int .i64 0, .int .i64 0]))).toArray) (by simp [rR7]) (by simp [rR7])
      refine bodyPost_ret (results_2 rfl (resOk_row rfl ?_) resOk_tmp) rfl ?_
      ·
       rw [hfin]; simp
      refine ⟨?_, Below.setRow B7 (Nat.le_of_eq hR) _⟩
      rw [hfin, ← HER.out, hpar, ethRest_long hL]
      show _ = Ending.returned (.tuple #[.agg zeroEth.toArray, .int .i64 3])
      rw [zeroEth_eq]
      rfl
     have hLI : ¬ (1514 : Int) < (l.length : Int) := by omega
     have HNk := Lib.hid (HN.out 12 (by omega))
     have hnk : numN ((l.drop 12).take 2) = n := hn
     rw [hnk] at HNk
     clear hnk
     go_wp2_with fail
     (with_reducible refine (HNk.out _).mono ?_)
     rintro e w8 ⟨rfl, b8⟩
     have z8 := b8.size
     have B8 := B7.trans (b8.mono B7.size)
     have rR8 := (row_below b8 (by omega)).trans rR7
     have rX8 := (row_below b8 (by omega)).trans rX7
     have zR8 : R + 1 < w8.heap.size := by omega
     have zw8 : w.heap.size ≤ R := by omega
     clear b8 rR7 rX7 HNk
     by_cases n15 : n ≤ 1500
     ·
      have n15I : (n : Int) ≤ 1500 := by omega
      by_cases hsh : l.length < 14 + n
      ·
       have hshI : (l.length : Int) < 14 + (n : Int) := by omega
       go_wp2_with fail
       (try simp only [Exit.inBlock, Exit.then])
       have hfin := row_setRow_same (w := w8) (g := R) (c := ((u8v mac0 ++ (u8v mac0 ++ [Value.int .i64 0, .string ⟨#[]⟩, .int .i64 0, .int .i64 0]))).toArray) (by simp [rR8]) (by simp [rR8])
       refine bodyPost_ret (results_2 rfl (resOk_row rfl ?_) resOk_tmp) rfl ?_
       ·
        rw [hfin]; simp
       refine ⟨?_, Below.setRow B8 (Nat.le_of_eq hR) _⟩
       rw [hfin, ← HER.out, hpar, ethRest_short hL n15 hsh]
       show _ = Ending.returned (.tuple #[.agg zeroEth.toArray, .int .i64 2])
       rw [zeroEth_eq]
       rfl
      have hshI : ¬ (l.length : Int) < 14 + (n : Int) := by omega
      have hs1 : (14 : Int) ≤ 14 + (n : Int) := by omega
      have hs2 : (14 : Int) + (n : Int) ≤ (l.length : Int) := by omega
      obtain ⟨w9, hw9⟩ : ∃ x, w8.setRow (R + 1) ((u8v (vecAt l 0 6) ++ (u8v (vecAt l 6 6) ++ [Value.int .i64 0, .string ⟨((l.drop 14).take n).toArray⟩, .int .i64 (-1), .int .i64 0]))).toArray = x := ⟨_, rfl⟩
      have rR9 : row w9 R = ((u8v mac0 ++ (u8v mac0 ++ [Value.int .i64 0, .string ⟨#[]⟩, .int .i64 0, .int .i64 0]))).toArray := by rw [← hw9, row_setRow_other _ _ _ (by omega)]; exact rR8
      have rX9 : row w9 (R + 1) = ((u8v (vecAt l 0 6) ++ (u8v (vecAt l 6 6) ++ [Value.int .i64 0, .string ⟨((l.drop 14).take n).toArray⟩, .int .i64 (-1), .int .i64 0]))).toArray := by rw [← hw9]; exact row_setRow_same (by rw [rX8]; simp) (by rw [rX8]; simp)
      have B9 : Below w.heap.size w w9 := by rw [← hw9]; exact Below.setRow B8 (by omega) _
      have zR9 : R + 1 < w9.heap.size := by rw [← hw9, setRow_size]; exact zR8
      go_wp2_with fail
      (try rw [hw9])
      (try clear hw9)
      go_wp2_with fail
      (try simp only [Exit.inBlock, Exit.then])
      have hfin := row_setRow_same (w := w9) (g := R) (c := ((u8v (vecAt l 0 6) ++ (u8v (vecAt l 6 6) ++ [Value.int .i64 0, .string ⟨((l.drop 14).take n).toArray⟩, .int .i64 (-1), .int .i64 0]))).toArray) (by simp [rR9]) (by simp [rR9])
      refine bodyPost_ret (results_2 rfl (resOk_row rfl ?_) resOk_tmp) rfl ?_
      ·
       rw [hfin]; simp
      refine ⟨?_, Below.setRow B9 (Nat.le_of_eq hR) _⟩
      rw [hfin, ← HER.out, hpar, ethRest_len hL n15 hsh (by decide)]
      rfl
     have n15I : ¬ (n : Int) ≤ 1500 := by omega
     have n15b := decide_eq_false n15I
     by_cases hb1 : n < 1536
     ·
      have hb1b := decide_eq_true (show (n : Int) < 1536 by omega)
      go_wp2_with fail
      (try simp only [Exit.inBlock, Exit.then])
      have hfin := row_setRow_same (w := w8) (g := R) (c := ((u8v mac0 ++ (u8v mac0 ++ [Value.int .i64 0, .string ⟨#[]⟩, .int .i64 0, .int .i64 0]))).toArray) (by simp [rR8]) (by simp [rR8])
      refine bodyPost_ret (results_2 rfl (resOk_row rfl ?_) resOk_tmp) rfl ?_
      ·
       rw [hfin]; simp
      refine ⟨?_, Below.setRow B8 (Nat.le_of_eq hR) _⟩
      rw [hfin, ← HER.out, hpar, ethRest_bad hL n15 (.inl hb1)]
      show _ = Ending.returned (.tuple #[.agg zeroEth.toArray, .int .i64 3])
      rw [zeroEth_eq]
      rfl
     have hb1b := decide_eq_false (show ¬ (n : Int) < 1536 by omega)
     by_cases hb2 : n = 33024
     ·
      have hb2b : ((n : Int) == 33024) = true := beq_iff_eq.2 (by omega)
      go_wp2_with fail
      (try simp only [Exit.inBlock, Exit.then])
      have hfin := row_setRow_same (w := w8) (g := R) (c := ((u8v mac0 ++ (u8v mac0 ++ [Value.int .i64 0, .string ⟨#[]⟩, .int .i64 0, .int .i64 0]))).toArray) (by simp [rR8]) (by simp [rR8])
      refine bodyPost_ret (results_2 rfl (resOk_row rfl ?_) resOk_tmp) rfl ?_
      ·
       rw [hfin]; simp
      refine ⟨?_, Below.setRow B8 (Nat.le_of_eq hR) _⟩
      rw [hfin, ← HER.out, hpar, ethRest_bad hL n15 (.inr hb2)]
      show _ = Ending.returned (.tuple #[.agg zeroEth.toArray, .int .i64 3])
      rw [zeroEth_eq]
      rfl
     have hb2b : ((n : Int) == 33024) = false := beq_eq_false_iff_ne.2 (by omega)
     have hbad : ¬ (n < 1536 ∨ n = 33024) := by omega
     have hs2 : (14 : Int) ≤ (l.length : Int) := by omega
     obtain ⟨w9, hw9⟩ : ∃ x, w8.setRow (R + 1) ((u8v (vecAt l 0 6) ++ (u8v (vecAt l 6 6) ++ [Value.int .i64 (n : Int), .string ⟨(l.drop 14).toArray⟩, .int .i64 (-1), .int .i64 0]))).toArray = x := ⟨_, rfl⟩
     have rR9 : row w9 R = ((u8v mac0 ++ (u8v mac0 ++ [Value.int .i64 0, .string ⟨#[]⟩, .int .i64 0, .int .i64 0]))).toArray := by rw [← hw9, row_setRow_other _ _ _ (by omega)]; exact rR8
     have rX9 : row w9 (R + 1) = ((u8v (vecAt l 0 6) ++ (u8v (vecAt l 6 6) ++ [Value.int .i64 (n : Int), .string ⟨(l.drop 14).toArray⟩, .int .i64 (-1), .int .i64 0]))).toArray := by rw [← hw9]; exact row_setRow_same (by rw [rX8]; simp) (by rw [rX8]; simp)
     have B9 : Below w.heap.size w w9 := by rw [← hw9]; exact Below.setRow B8 (by omega) _
     have zR9 : R + 1 < w9.heap.size := by rw [← hw9, setRow_size]; exact zR8
     go_wp2_with fail
     (try rw [hw9])
     (try clear hw9)
     go_wp2_with fail
     (try simp only [Exit.inBlock, Exit.then])
     have hfin := row_setRow_same (w := w9) (g := R) (c := ((u8v (vecAt l 0 6) ++ (u8v (vecAt l 6 6) ++ [Value.int .i64 (n : Int), .string ⟨(l.drop 14).toArray⟩, .int .i64 (-1), .int .i64 0]))).toArray) (by simp [rR9]) (by simp [rR9])
     refine bodyPost_ret (results_2 rfl (resOk_row rfl ?_) resOk_tmp) rfl ?_
     ·
      rw [hfin]; simp
     refine ⟨?_, Below.setRow B9 (Nat.le_of_eq hR) _⟩
     rw [hfin, ← HER.out, hpar, ethRest_ty hL n15 hbad (by decide)]
     rfl
    ·
     have c0 : ((b0.toNat : Int) == 129) = false := beq_eq_false_iff_ne.2 (by omega)
     clear h12
     by_cases hL : 1500 + 14 < l.length
     ·
      have hLI : (1514 : Int) < (l.length : Int) := by omega
      go_wp2_with fail
      (try simp only [Exit.inBlock, Exit.then])
      have hfin := row_setRow_same (w := wr) (g := R) (c := ((u8v mac0 ++ (u8v mac0 ++ [Value.int .i64 0, .string ⟨#[]⟩, .int .i64 0, .int .i64 0]))).toArray) (by simp [rR7]) (by simp [rR7])
      refine bodyPost_ret (results_2 rfl (resOk_row rfl ?_) resOk_tmp) rfl ?_
      ·
       rw [hfin]; simp
      refine ⟨?_, Below.setRow B7 (Nat.le_of_eq hR) _⟩
      rw [hfin, ← HER.out, hpar, ethRest_long hL]
      show _ = Ending.returned (.tuple #[.agg zeroEth.toArray, .int .i64 3])
      rw [zeroEth_eq]
      rfl
     have hLI : ¬ (1514 : Int) < (l.length : Int) := by omega
     have HNk := Lib.hid (HN.out 12 (by omega))
     have hnk : numN ((l.drop 12).take 2) = n := hn
     rw [hnk] at HNk
     clear hnk
     go_wp2_with fail
     (with_reducible refine (HNk.out _).mono ?_)
     rintro e w8 ⟨rfl, b8⟩
     have z8 := b8.size
     have B8 := B7.trans (b8.mono B7.size)
     have rR8 := (row_below b8 (by omega)).trans rR7
     have rX8 := (row_below b8 (by omega)).trans rX7
     have zR8 : R + 1 < w8.heap.size := by omega
     have zw8 : w.heap.size ≤ R := by omega
     clear b8 rR7 rX7 HNk
     by_cases n15 : n ≤ 1500
     ·
      have n15I : (n : Int) ≤ 1500 := by omega
      by_cases hsh : l.length < 14 + n
      ·
       have hshI : (l.length : Int) < 14 + (n : Int) := by omega
       go_wp2_with fail
       (try simp only [Exit.inBlock, Exit.then])
       have hfin := row_setRow_same (w := w8) (g := R) (c := ((u8v mac0 ++ (u8v mac0 ++ [Value.int .i64 0, .string ⟨#[]⟩, .int .i64 0, .int .i64 0]))).toArray) (by simp [rR8]) (by simp [rR8])
       refine bodyPost_ret (results_2 rfl (resOk_row rfl ?_) resOk_tmp) rfl ?_
       ·
        rw [hfin]; simp
       refine ⟨?_, Below.setRow B8 (Nat.le_of_eq hR) _⟩
       rw [hfin, ← HER.out, hpar, ethRest_short hL n15 hsh]
       show _ = Ending.returned (.tuple #[.agg zeroEth.toArray, .int .i64 2])
       rw [zeroEth_eq]
       rfl
      have hshI : ¬ (l.length : Int) < 14 + (n : Int) := by omega
      have hs1 : (14 : Int) ≤ 14 + (n : Int) := by omega
      have hs2 : (14 : Int) + (n : Int) ≤ (l.length : Int) := by omega
      obtain ⟨w9, hw9⟩ : ∃ x, w8.setRow (R + 1) ((u8v (vecAt l 0 6) ++ (u8v (vecAt l 6 6) ++ [Value.int .i64 0, .string ⟨((l.drop 14).take n).toArray⟩, .int .i64 (-1), .int .i64 0]))).toArray = x := ⟨_, rfl⟩
      have rR9 : row w9 R = ((u8v mac0 ++ (u8v mac0 ++ [Value.int .i64 0, .string ⟨#[]⟩, .int .i64 0, .int .i64 0]))).toArray := by rw [← hw9, row_setRow_other _ _ _ (by omega)]; exact rR8
      have rX9 : row w9 (R + 1) = ((u8v (vecAt l 0 6) ++ (u8v (vecAt l 6 6) ++ [Value.int .i64 0, .string ⟨((l.drop 14).take n).toArray⟩, .int .i64 (-1), .int .i64 0]))).toArray := by rw [← hw9]; exact row_setRow_same (by rw [rX8]; simp) (by rw [rX8]; simp)
      have B9 : Below w.heap.size w w9 := by rw [← hw9]; exact Below.setRow B8 (by omega) _
      have zR9 : R + 1 < w9.heap.size := by rw [← hw9, setRow_size]; exact zR8
      go_wp2_with fail
      (try rw [hw9])
      (try clear hw9)
      go_wp2_with fail
      (try simp only [Exit.inBlock, Exit.then])
      have hfin := row_setRow_same (w := w9) (g := R) (c := ((u8v (vecAt l 0 6) ++ (u8v (vecAt l 6 6) ++ [Value.int .i64 0, .string ⟨((l.drop 14).take n).toArray⟩, .int .i64 (-1), .int .i64 0]))).toArray) (by simp [rR9]) (by simp [rR9])
      refine bodyPost_ret (results_2 rfl (resOk_row rfl ?_) resOk_tmp) rfl ?_
      ·
       rw [hfin]; simp
      refine ⟨?_, Below.setRow B9 (Nat.le_of_eq hR) _⟩
      rw [hfin, ← HER.out, hpar, ethRest_len hL n15 hsh (by decide)]
      rfl
     have n15I : ¬ (n : Int) ≤ 1500 := by omega
     have n15b := decide_eq_false n15I
     by_cases hb1 : n < 1536
     ·
      have hb1b := decide_eq_true (show (n : Int) < 1536 by omega)
      go_wp2_with fail
      (try simp only [Exit.inBlock, Exit.then])
      have hfin := row_setRow_same (w := w8) (g := R) (c := ((u8v mac0 ++ (u8v mac0 ++ [Value.int .i64 0, .string ⟨#[]⟩, .int .i64 0, .int .i64 0]))).toArray) (by simp [rR8]) (by simp [rR8])
      refine bodyPost_ret (results_2 rfl (resOk_row rfl ?_) resOk_tmp) rfl ?_
      ·
       rw [hfin]; simp
      refine ⟨?_, Below.setRow B8 (Nat.le_of_eq hR) _⟩
      rw [hfin, ← HER.out, hpar, ethRest_bad hL n15 (.inl hb1)]
      show _ = Ending.returned (.tuple #[.agg zeroEth.toArray, .int .i64 3])
      rw [zeroEth_eq]
      rfl
     have hb1b := decide_eq_false (show ¬ (n : Int) < 1536 by omega)
     by_cases hb2 : n = 33024
     ·
      have hb2b : ((n : Int) == 33024) = true := beq_iff_eq.2 (by omega)
      go_wp2_with fail
      (try simp only [Exit.inBlock, Exit.then])
      have hfin := row_setRow_same (w := w8) (g := R) (c := ((u8v mac0 ++ (u8v mac0 ++ [Value.int .i64 0, .string ⟨#[]⟩, .int .i64 0, .int .i64 0]))).toArray) (by simp [rR8]) (by simp [rR8])
      refine bodyPost_ret (results_2 rfl (resOk_row rfl ?_) resOk_tmp) rfl ?_
      ·
       rw [hfin]; simp
      refine ⟨?_, Below.setRow B8 (Nat.le_of_eq hR) _⟩
      rw [hfin, ← HER.out, hpar, ethRest_bad hL n15 (.inr hb2)]
      show _ = Ending.returned (.tuple #[.agg zeroEth.toArray, .int .i64 3])
      rw [zeroEth_eq]
      rfl
     have hb2b : ((n : Int) == 33024) = false := beq_eq_false_iff_ne.2 (by omega)
     have hbad : ¬ (n < 1536 ∨ n = 33024) := by omega
     have hs2 : (14 : Int) ≤ (l.length : Int) := by omega
     obtain ⟨w9, hw9⟩ : ∃ x, w8.setRow (R + 1) ((u8v (vecAt l 0 6) ++ (u8v (vecAt l 6 6) ++ [Value.int .i64 (n : Int), .string ⟨(l.drop 14).toArray⟩, .int .i64 (-1), .int .i64 0]))).toArray = x := ⟨_, rfl⟩
     have rR9 : row w9 R = ((u8v mac0 ++ (u8v mac0 ++ [Value.int .i64 0, .string ⟨#[]⟩, .int .i64 0, .int .i64 0]))).toArray := by rw [← hw9, row_setRow_other _ _ _ (by omega)]; exact rR8
     have rX9 : row w9 (R + 1) = ((u8v (vecAt l 0 6) ++ (u8v (vecAt l 6 6) ++ [Value.int .i64 (n : Int), .string ⟨(l.drop 14).toArray⟩, .int .i64 (-1), .int .i64 0]))).toArray := by rw [← hw9]; exact row_setRow_same (by rw [rX8]; simp) (by rw [rX8]; simp)
     have B9 : Below w.heap.size w w9 := by rw [← hw9]; exact Below.setRow B8 (by omega) _
     have zR9 : R + 1 < w9.heap.size := by rw [← hw9, setRow_size]; exact zR8
     go_wp2_with fail
     (try rw [hw9])
     (try clear hw9)
     go_wp2_with fail
     (try simp only [Exit.inBlock, Exit.then])
     have hfin := row_setRow_same (w := w9) (g := R) (c := ((u8v (vecAt l 0 6) ++ (u8v (vecAt l 6 6) ++ [Value.int .i64 (n : Int), .string ⟨(l.drop 14).toArray⟩, .int .i64 (-1), .int .i64 0]))).toArray) (by simp [rR9]) (by simp [rR9])
     refine bodyPost_ret (results_2 rfl (resOk_row rfl ?_) resOk_tmp) rfl ?_
     ·
      rw [hfin]; simp
     refine ⟨?_, Below.setRow B9 (Nat.le_of_eq hR) _⟩
     rw [hfin, ← HER.out, hpar, ethRest_ty hL n15 hbad (by decide)]
     rfl
end Go.Proofs.YtckckabedgpbiaaGreat
