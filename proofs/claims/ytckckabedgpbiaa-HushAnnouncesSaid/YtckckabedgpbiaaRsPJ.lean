/- Contracts of the reference of chapter 10: what any bytes are parsed as. -/
import Derived.Test.YtckckabedgpbiaaRsMJ
import Derived.Test.YtckckabedgpbiaaNdZJ
import Derived.Test.YtckckabedgpbiaaArpRJ
set_option linter.unusedSimpArgs false
set_option linter.unusedVariables false
set_option maxRecDepth 4000
namespace Go.Proofs.Ytckckabedgpbiaa
open Go.RowKit
def ParsesR (l : List UInt8) (cs : List Value) (n : Int) : Prop := ∀ w, Calls Try.prog 52 #[.string ⟨l.toArray⟩] w fun e w' => e = .returned (.tuple #[.agg cs.toArray, .int .i64 n]) ∧ Below w.heap.size w w'
theorem zeroNd_eq : zeroNd = Value.int .i64 0 :: (zeros 54 (Value.int .u8 0) ++ Value.bool false :: zeros 4 (Value.int .u8 0)) := rfl
theorem put16 (x : Value) (Q : List Value) (l : List UInt8) (k : Nat) (h : 64 ≤ l.length) (hk : k < 16) :
  (((x :: (u8s (gone l 8 16 k) ++ (u8s (gone l 24 16 k) ++ (u8s (gone l 48 16 k) ++ Q)))).set (1 + k) (.int .u8 ((l[8 + k]'(by omega)).toNat : Int))).set (17 + k) (.int .u8 ((l[24 + k]'(by omega)).toNat : Int))).set (33 + k) (.int .u8 ((l[48 + k]'(by omega)).toNat : Int)) = x :: (u8s (gone l 8 16 (k + 1)) ++ (u8s (gone l 24 16 (k + 1)) ++ (u8s (gone l 48 16 (k + 1)) ++ Q))) := by
 have a := put1 [x] (u8s (gone l 24 16 k) ++ (u8s (gone l 48 16 k) ++ Q)) l 8 16 k (1 + k) (by simp) (by omega) hk
 have b := put1 ([x] ++ u8s (gone l 8 16 (k + 1))) (u8s (gone l 48 16 k) ++ Q) l 24 16 k (17 + k) (by simp [u8s, gone_length l 8 16 (k + 1) (by omega) (by omega)]) (by omega) hk
 have c := put1 ([x] ++ (u8s (gone l 8 16 (k + 1)) ++ u8s (gone l 24 16 (k + 1)))) Q l 48 16 k (33 + k) (by simp [u8s, gone_length l 8 16 (k + 1) (by omega) (by omega), gone_length l 24 16 (k + 1) (by omega) (by omega)]) (by omega) hk
 simp only [List.cons_append, List.nil_append, List.append_assoc] at a b c
 rw [a, b, c]
set_option maxRecDepth 20000 in
set_option maxHeartbeats 2000000 in
theorem rparse_short (l : List UInt8) (hl : l.length < 64) : ParsesR l zeroNd 2 := by
 intro w
 have h1 : (l.length : Int) < 64 := by omega
 rw [zeroNd_eq]
 go_enter Try.func52, Try.ntmps52
 go_wp2_with fail
 ((try simp only [Exit.inBlock, Exit.then]); refine bodyPost_ret (results_2 rfl (resOk_row rfl ?_) resOk_tmp) rfl ?_; (simp [go_sem]))
 refine ⟨by simp [go_sem], ?_⟩
 (repeat (first | exact Below.refl _ _ | refine Below.al ?_ _ | refine Below.drew ?_ | refine Below.sr ?_ _ | refine Below.sc ?_ _))
set_option maxRecDepth 20000 in
set_option maxHeartbeats 2000000 in
theorem rparse_form (l : List UInt8) (hl : 64 ≤ l.length) (hl2 : l.length ≤ 10000) (h : headOk l = false) : ParsesR l zeroNd 3 := by
 intro w
 have h1 : (64 : Int) ≤ l.length := by omega
 have h2 : (l.length : Int) ≤ 10000 := by omega
 obtain ⟨sz, hsz⟩ : ∃ s, numAt l 4 = s := ⟨_, rfl⟩
 unfold headOk at h
 rw [hsz] at h
 have HN := Lib.hid (fun w => rnumber_any ((l.drop 4).take 2) w (by simp; omega))
 have hnn : numN ((l.drop 4).take 2) = sz := hsz
 rw [hnn] at HN
 have g0 : l.getD 0 0 = l[0] := by simp [List.getD_eq_getElem?_getD, show 0 < l.length by omega]
 have g6 : l.getD 6 0 = l[6] := by simp [List.getD_eq_getElem?_getD, show 6 < l.length by omega]
 have g7 : l.getD 7 0 = l[7] := by simp [List.getD_eq_getElem?_getD, show 7 < l.length by omega]
 rw [g0, g6, g7] at h
 have szI : ((sz : Int) == 24) = (sz == 24) := by rw [Bool.eq_iff_iff]; simp only [beq_iff_eq]; omega
 have szJ : ((sz : Int) == 32) = (sz == 32) := by rw [Bool.eq_iff_iff]; simp only [beq_iff_eq]; omega
 rw [← szI, ← szJ] at h
 clear szI szJ g0 g6 g7 hnn hsz
 rw [zeroNd_eq]
 go_enter Try.func52, Try.ntmps52
 go_wp2_with fail
 refine (HN.out _).mono ?_
 rintro e w1 ⟨rfl, b1⟩
 have z1 := b1.size
 simp only [alloc_sizeW] at z1
 have rR : row w1 w.heap.size = (Value.int .i64 0 :: (zeros 54 (Value.int .u8 0) ++ Value.bool false :: zeros 4 (Value.int .u8 0))).toArray := by rw [row_below b1 (by simp)]; simp [go_sem]
 have bb : Below w.heap.size w w1 := below_of b1 (by (repeat (first | exact Below.refl _ _ | refine Below.al ?_ _ | refine Below.drew ?_ | refine Below.sr ?_ _ | refine Below.sc ?_ _))) (by first | (simp; done) | (simp; omega) | omega)
 clear b1
 by_cases c0 : ((l[0].toNat : Int) == 96) = true
 ·
  have c0' : ((l[0].toNat : Int) != 96) = false := by rw [bne, c0]; rfl
  by_cases c6 : ((l[6].toNat : Int) == 58) = true
  ·
   have c6' : ((l[6].toNat : Int) != 58) = false := by rw [bne, c6]; rfl
   by_cases c7 : ((l[7].toNat : Int) == 255) = true
   ·
    have c7' : ((l[7].toNat : Int) != 255) = false := by rw [bne, c7]; rfl
    rw [c0, c6, c7] at h
    simp only [Bool.true_and, Bool.or_eq_false_iff] at h
    obtain ⟨h24, h32⟩ := h
    have h24' : ((sz : Int) != 24) = true := by rw [bne, h24]; rfl
    have h32' : ((sz : Int) != 32) = true := by rw [bne, h32]; rfl
    clear h24 h32 c0 c6 c7
    go_wp2_with fail
    have hfin := row_setRow_same (w := w1) (g := w.heap.size) (c := (Value.int .i64 0 :: (zeros 54 (Value.int .u8 0) ++ Value.bool false :: zeros 4 (Value.int .u8 0))).toArray) (by rw [rR]; simp) (by rw [rR])
    (try simp only [Exit.inBlock, Exit.then])
    refine bodyPost_ret (results_2 rfl (resOk_row rfl ?_) resOk_tmp) rfl ?_
    ·
     first | (rw [hfin]; simp; done) | (rw [row_alloc_past _ _ (by rw [setRow_size]; omega), hfin]; simp)
    ·
     first | exact ⟨by rw [hfin]; rfl, Below.setRow bb (Nat.le_refl _) _⟩ | exact ⟨by rw [row_alloc_past _ _ (by rw [setRow_size]; omega), hfin]; rfl, Below.alloc (Below.setRow bb (Nat.le_refl _) _) (by rw [setRow_size]; omega) _⟩
   ·
    have c7' : ((l[7].toNat : Int) != 255) = true := by rw [bne, Bool.eq_false_iff.2 c7]; rfl
    clear h c7 c0 c6
    go_wp2_with fail
    have hfin := row_setRow_same (w := w1) (g := w.heap.size) (c := (Value.int .i64 0 :: (zeros 54 (Value.int .u8 0) ++ Value.bool false :: zeros 4 (Value.int .u8 0))).toArray) (by rw [rR]; simp) (by rw [rR])
    (try simp only [Exit.inBlock, Exit.then])
    refine bodyPost_ret (results_2 rfl (resOk_row rfl ?_) resOk_tmp) rfl ?_
    ·
     first | (rw [hfin]; simp; done) | (rw [row_alloc_past _ _ (by rw [setRow_size]; omega), hfin]; simp)
    ·
     first | exact ⟨by rw [hfin]; rfl, Below.setRow bb (Nat.le_refl _) _⟩ | exact ⟨by rw [row_alloc_past _ _ (by rw [setRow_size]; omega), hfin]; rfl, Below.alloc (Below.setRow bb (Nat.le_refl _) _) (by rw [setRow_size]; omega) _⟩
  ·
   have c6' : ((l[6].toNat : Int) != 58) = true := by rw [bne, Bool.eq_false_iff.2 c6]; rfl
   clear h c6 c0
   go_wp2_with fail
   have hfin := row_setRow_same (w := w1) (g := w.heap.size) (c := (Value.int .i64 0 :: (zeros 54 (Value.int .u8 0) ++ Value.bool false :: zeros 4 (Value.int .u8 0))).toArray) (by rw [rR]; simp) (by rw [rR])
   (try simp only [Exit.inBlock, Exit.then])
   refine bodyPost_ret (results_2 rfl (resOk_row rfl ?_) resOk_tmp) rfl ?_
   ·
    first | (rw [hfin]; simp; done) | (rw [row_alloc_past _ _ (by rw [setRow_size]; omega), hfin]; simp)
   ·
    first | exact ⟨by rw [hfin]; rfl, Below.setRow bb (Nat.le_refl _) _⟩ | exact ⟨by rw [row_alloc_past _ _ (by rw [setRow_size]; omega), hfin]; rfl, Below.alloc (Below.setRow bb (Nat.le_refl _) _) (by rw [setRow_size]; omega) _⟩
 ·
  have c0' : ((l[0].toNat : Int) != 96) = true := by rw [bne, Bool.eq_false_iff.2 c0]; rfl
  clear h c0
  go_wp2_with fail
  have hfin := row_setRow_same (w := w1) (g := w.heap.size) (c := (Value.int .i64 0 :: (zeros 54 (Value.int .u8 0) ++ Value.bool false :: zeros 4 (Value.int .u8 0))).toArray) (by rw [rR]; simp) (by rw [rR])
  (try simp only [Exit.inBlock, Exit.then])
  refine bodyPost_ret (results_2 rfl (resOk_row rfl ?_) resOk_tmp) rfl ?_
  ·
   first | (rw [hfin]; simp; done) | (rw [row_alloc_past _ _ (by rw [setRow_size]; omega), hfin]; simp)
  ·
   first | exact ⟨by rw [hfin]; rfl, Below.setRow bb (Nat.le_refl _) _⟩ | exact ⟨by rw [row_alloc_past _ _ (by rw [setRow_size]; omega), hfin]; rfl, Below.alloc (Below.setRow bb (Nat.le_refl _) _) (by rw [setRow_size]; omega) _⟩
set_option maxRecDepth 20000 in
set_option maxHeartbeats 2000000 in
theorem rparse_cut (l : List UInt8) (hl : 64 ≤ l.length) (hsz : numAt l 4 = 32) (h0 : l[0] = 96) (h6 : l[6] = 58) (h7 : l[7] = 255) (hls : l.length < 72) : ParsesR l zeroNd 2 := by
 intro w
 have h1 : (64 : Int) ≤ l.length := by omega
 have h2 : (l.length : Int) < 72 := by omega
 have HN := Lib.hid (fun w => rnumber_any ((l.drop 4).take 2) w (by simp; omega))
 have hnn : numN ((l.drop 4).take 2) = 32 := hsz
 rw [hnn] at HN
 have c0' : ((l[0].toNat : Int) != 96) = false := by rw [h0]; rfl
 have c6' : ((l[6].toNat : Int) != 58) = false := by rw [h6]; rfl
 have c7' : ((l[7].toNat : Int) != 255) = false := by rw [h7]; rfl
 rw [show ((32 : Nat) : Int) = 32 from rfl] at HN
 clear h0 h6 h7 hnn hsz
 rw [zeroNd_eq]
 go_enter Try.func52, Try.ntmps52
 go_wp2_with fail
 refine (HN.out _).mono ?_
 rintro e w1 ⟨rfl, b1⟩
 have z1 := b1.size
 simp only [alloc_sizeW] at z1
 have rR : row w1 w.heap.size = (Value.int .i64 0 :: (zeros 54 (Value.int .u8 0) ++ Value.bool false :: zeros 4 (Value.int .u8 0))).toArray := by rw [row_below b1 (by simp)]; simp [go_sem]
 have bb : Below w.heap.size w w1 := below_of b1 (by (repeat (first | exact Below.refl _ _ | refine Below.al ?_ _ | refine Below.drew ?_ | refine Below.sr ?_ _ | refine Below.sc ?_ _))) (by first | (simp; done) | (simp; omega) | omega)
 clear b1
 go_wp2_with fail
 have hfin := row_setRow_same (w := w1) (g := w.heap.size) (c := (Value.int .i64 0 :: (zeros 54 (Value.int .u8 0) ++ Value.bool false :: zeros 4 (Value.int .u8 0))).toArray) (by rw [rR]; simp) (by rw [rR])
 (try simp only [Exit.inBlock, Exit.then])
 refine bodyPost_ret (results_2 rfl (resOk_row rfl ?_) resOk_tmp) rfl ?_
 ·
  first | (rw [hfin]; simp; done) | (rw [row_alloc_past _ _ (by rw [setRow_size]; omega), hfin]; simp)
 ·
  first | exact ⟨by rw [hfin]; rfl, Below.setRow bb (Nat.le_refl _) _⟩ | exact ⟨by rw [row_alloc_past _ _ (by rw [setRow_size]; omega), hfin]; rfl, Below.alloc (Below.setRow bb (Nat.le_refl _) _) (by rw [setRow_size]; omega) _⟩
end Go.Proofs.Ytckckabedgpbiaa
