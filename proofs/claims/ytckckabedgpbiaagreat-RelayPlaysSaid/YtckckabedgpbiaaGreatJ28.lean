/- Texts of this proof, merged: RsP, RsQ, RsR, NdB. -/
import Derived.Test.YtckckabedgpbiaaGreatRsMJ
import Derived.Test.YtckckabedgpbiaaGreatJ26
import Derived.Test.YtckckabedgpbiaaGreatJ27
set_option linter.unusedSimpArgs false
set_option linter.unusedVariables false
set_option maxRecDepth 4000
namespace Go.Proofs.YtckckabedgpbiaaGreat
section
open Go.RowKit
def ParsesR (l : List UInt8) (cs : List Value) (n : Int) : Prop := ∀ w, Calls Tryz.prog 80 #[.string ⟨l.toArray⟩] w fun e w' => e = .returned (.tuple #[.agg cs.toArray, .int .i64 n]) ∧ Below w.heap.size w w'
theorem zeroNd_eq : zeroNd = Value.int .i64 0 :: (zeros 54 (Value.int .u8 0) ++ Value.bool false :: zeros 4 (Value.int .u8 0)) := rfl
theorem put16 (x : Value) (Q : List Value) (l : List UInt8) (k : Nat) (h : 64 ≤ l.length) (hk : k < 16) :
  (((x :: (u8s (gone l 8 16 k) ++ (u8s (gone l 24 16 k) ++ (u8s (gone l 48 16 k) ++ Q)))).set (1 + k) (.int .u8 ((l[8 + k]'(by omega)).toNat : Int))).set (17 + k) (.int .u8 ((l[24 + k]'(by omega)).toNat : Int))).set (33 + k) (.int .u8 ((l[48 + k]'(by omega)).toNat : Int)) = x :: (u8s (gone l 8 16 (k + 1)) ++ (u8s (gone l 24 16 (k + 1)) ++ (u8s (gone l 48 16 (k + 1)) ++ Q))) := by
 have a := put1 [x] (u8s (gone l 24 16 k) ++ (u8s (gone l 48 16 k) ++ Q)) l 8 16 k (1 + k) (by simp) (by omega) hk
 have b := put1 ([x] ++ u8s (gone l 8 16 (k + 1))) (u8s (gone l 48 16 k) ++ Q) l 24 16 k (17 + k) (by simp [u8s, gone_length l 8 16 (k + 1) (by omega) (by omega)]) (by omega) hk
 have c := put1 ([x] ++ (u8s (gone l 8 16 (k + 1)) ++ u8s (gone l 24 16 (k + 1)))) Q l 48 16 k (33 + k) (by simp [u8s, gone_length l 8 16 (k + 1) (by omega) (by omega), gone_length l 24 16 (k + 1) (by omega) (by omega)]) (by omega) hk
 simp only [List.cons_append, List.nil_append, List.append_assoc] at a b c
 rw [a, b, c]
set_option maxRecDepth 20000 in
set_option maxHeartbeats 2000000 in
theorem rparse_short (l : List UInt8) (hl : l.length < 64) : ParsesR l zeroNd 2 := by
 intro w
 have h1 : (l.length : Int) < 64 := by omega
 rw [zeroNd_eq]
 go_enter Tryz.func80, Tryz.ntmps80
 go_wp2_with fail
 ((try simp only [Exit.inBlock, Exit.then]); refine bodyPost_ret (results_2 rfl (resOk_row rfl ?_) resOk_tmp) rfl ?_; (simp [go_sem]))
 refine ⟨by simp [go_sem], ?_⟩
 (repeat (first | exact Below.refl _ _ | refine Below.al ?_ _ | refine Below.drew ?_ | refine Below.sr ?_ _ | refine Below.sc ?_ _))
set_option maxRecDepth 20000 in
set_option maxHeartbeats 2000000 in
theorem rparse_form (l : List UInt8) (hl : 64 ≤ l.length) (hl2 : l.length ≤ 10000) (h : headOk l = false) : ParsesR l zeroNd 3 := by
 intro w
 have h1 : (64 : Int) ≤ l.length := by omega
 have h2 : (l.length : Int) ≤ 10000 := by omega
 obtain ⟨sz, hsz⟩ : ∃ s, numAt l 4 = s := ⟨_, rfl⟩
 unfold headOk at h
 rw [hsz] at h
 have HN := Lib.hid (fun w => rnumber_any ((l.drop 4).take 2) w (by simp; omega))
 have hnn : numN ((l.drop 4).take 2) = sz := hsz
 rw [hnn] at HN
 have g0 : l.getD 0 0 = l[0] := by simp [List.getD_eq_getElem?_getD, show 0 < l.length by omega]
 have g6 : l.getD 6 0 = l[6] := by simp [List.getD_eq_getElem?_getD, show 6 < l.length by omega]
 have g7 : l.getD 7 0 = l[7] := by simp [List.getD_eq_getElem?_getD, show 7 < l.length by omega]
 rw [g0, g6, g7] at h
 have szI : ((sz : Int) == 24) = (sz == 24) := by rw [Bool.eq_iff_iff]; simp only [beq_iff_eq]; omega
 have szJ : ((sz : Int) == 32) = (sz == 32) := by rw [Bool.eq_iff_iff]; simp only [beq_iff_eq]; omega
 rw [← szI, ← szJ] at h
 clear szI szJ g0 g6 g7 hnn hsz
 rw [zeroNd_eq]
 go_enter Tryz.func80, Tryz.ntmps80
 go_wp2_with fail
 refine (HN.out _).mono ?_
 rintro e w1 ⟨rfl, b1⟩
 have z1 := b1.size
 simp only [alloc_sizeW] at z1
 have rR : row w1 w.heap.size = (Value.int .i64 0 :: (zeros 54 (Value.int .u8 0) ++ Value.bool false :: zeros 4 (Value.int .u8 0))).toArray := by rw [row_below b1 (by simp)]; simp [go_sem]
 have bb : Below w.heap.size w w1 := below_of b1 (by (repeat (first | exact Below.refl _ _ | refine Below.al ?_ _ | refine Below.drew ?_ | refine Below.sr ?_ _ | refine Below.sc ?_ _))) (by first | (simp; done) | (simp; omega) | omega)
 clear b1
 by_cases c0 : ((l[0].toNat : Int) == 96) = true
 ·
  have c0' : ((l[0].toNat : Int) != 96) = false := by rw [bne, c0]; rfl
  by_cases c6 : ((l[6].toNat : Int) == 58) = true
  ·
   have c6' : ((l[6].toNat : Int) != 58) = false := by rw [bne, c6]; rfl
   by_cases c7 : ((l[7].toNat : Int) == 255) = true
   ·
    have c7' : ((l[7].toNat : Int) != 255) = false := by rw [bne, c7]; rfl
    rw [c0, c6, c7] at h
    simp only [Bool.true_and, Bool.or_eq_false_iff] at h
    obtain ⟨h24, h32⟩ := h
    have h24' : ((sz : Int) != 24) = true := by rw [bne, h24]; rfl
    have h32' : ((sz : Int) != 32) = true := by rw [bne, h32]; rfl
    clear h24 h32 c0 c6 c7
    go_wp2_with fail
    have hfin := row_setRow_same (w := w1) (g := w.heap.size) (c := (Value.int .i64 0 :: (zeros 54 (Value.int .u8 0) ++ Value.bool false :: zeros 4 (Value.int .u8 0))).toArray) (by rw [rR]; simp) (by rw [rR])
    (try simp only [Exit.inBlock, Exit.then])
    refine bodyPost_ret (results_2 rfl (resOk_row rfl ?_) resOk_tmp) rfl ?_
    ·
     first | (rw [hfin]; simp; done) | (rw [row_alloc_past _ _ (by rw [setRow_size]; omega), hfin]; simp)
    ·
     first | exact ⟨by rw [hfin]; rfl, Below.setRow bb (Nat.le_refl _) _⟩ | exact ⟨by rw [row_alloc_past _ _ (by rw [setRow_size]; omega), hfin]; rfl, Below.alloc (Below.setRow bb (Nat.le_refl _) _) (by rw [setRow_size]; omega) _⟩
   ·
    have c7' : ((l[7].toNat : Int) != 255) = true := by rw [bne, Bool.eq_false_iff.2 c7]; rfl
    clear h c7 c0 c6
    go_wp2_with fail
    have hfin := row_setRow_same (w := w1) (g := w.heap.size) (c := (Value.int .i64 0 :: (zeros 54 (Value.int .u8 0) ++ Value.bool false :: zeros 4 (Value.int .u8 0))).toArray) (by rw [rR]; simp) (by rw [rR])
    (try simp only [Exit.inBlock, Exit.then])
    refine bodyPost_ret (results_2 rfl (resOk_row rfl ?_) resOk_tmp) rfl ?_
    ·
     first | (rw [hfin]; simp; done) | (rw [row_alloc_past _ _ (by rw [setRow_size]; omega), hfin]; simp)
    ·
     first | exact ⟨by rw [hfin]; rfl, Below.setRow bb (Nat.le_refl _) _⟩ | exact ⟨by rw [row_alloc_past _ _ (by rw [setRow_size]; omega), hfin]; rfl, Below.alloc (Below.setRow bb (Nat.le_refl _) _) (by rw [setRow_size]; omega) _⟩
  ·
   have c6' : ((l[6].toNat : Int) != 58) = true := by rw [bne, Bool.eq_false_iff.2 c6]; rfl
   clear h c6 c0
   go_wp2_with fail
   have hfin := row_setRow_same (w := w1) (g := w.heap.size) (c := (Value.int .i64 0 :: (zeros 54 (Value.int .u8 0) ++ Value.bool false :: zeros 4 (Value.int .u8 0))).toArray) (by rw [rR]; simp) (by rw [rR])
   (try simp only [Exit.inBlock, Exit.then])
   refine bodyPost_ret (results_2 rfl (resOk_row rfl ?_) resOk_tmp) rfl ?_
   ·
    first | (rw [hfin]; simp; done) | (rw [row_alloc_past _ _ (by rw [setRow_size]; omega), hfin]; simp)
   ·
    first | exact ⟨by rw [hfin]; rfl, Below.setRow bb (Nat.le_refl _) _⟩ | exact ⟨by rw [row_alloc_past _ _ (by rw [setRow_size]; omega), hfin]; rfl, Below.alloc (Below.setRow bb (Nat.le_refl _) _) (by rw [setRow_size]; omega) _⟩
 ·
  have c0' : ((l[0].toNat : Int) != 96) = true := by rw [bne, Bool.eq_false_iff.2 c0]; rfl
  clear h c0
  go_wp2_with fail
  have hfin := row_setRow_same (w := w1) (g := w.heap.size) (c := (Value.int .i64 0 :: (zeros 54 (Value.int .u8 0) ++ Value.bool false :: zeros 4 (Value.int .u8 0))).toArray) (by rw [rR]; simp) (by rw [rR])
  (try simp only [Exit.inBlock, Exit.then])
  refine bodyPost_ret (results_2 rfl (resOk_row rfl ?_) resOk_tmp) rfl ?_
  ·
   first | (rw [hfin]; simp; done) | (rw [row_alloc_past _ _ (by rw [setRow_size]; omega), hfin]; simp)
  ·
   first | exact ⟨by rw [hfin]; rfl, Below.setRow bb (Nat.le_refl _) _⟩ | exact ⟨by rw [row_alloc_past _ _ (by rw [setRow_size]; omega), hfin]; rfl, Below.alloc (Below.setRow bb (Nat.le_refl _) _) (by rw [setRow_size]; omega) _⟩
set_option maxRecDepth 20000 in
set_option maxHeartbeats 2000000 in
theorem rparse_cut (l : List UInt8) (hl : 64 ≤ l.length) (hsz : numAt l 4 = 32) (h0 : l[0] = 96) (h6 : l[6] = 58) (h7 : l[7] = 255) (hls : l.length < 72) : ParsesR l zeroNd 2 := by
 intro w
 have h1 : (64 : Int) ≤ l.length := by omega
 have h2 : (l.length : Int) < 72 := by omega
 have HN := Lib.hid (fun w => rnumber_any ((l.drop 4).take 2) w (by simp; omega))
 have hnn : numN ((l.drop 4).take 2) = 32 := hsz
 rw [hnn] at HN
 have c0' : ((l[0].toNat : Int) != 96) = false := by rw [h0]; rfl
 have c6' : ((l[6].toNat : Int) != 58) = false := by rw [h6]; rfl
 have c7' : ((l[7].toNat : Int) != 255) = false := by rw [h7]; rfl
 rw [show ((32 : Nat) : Int) = 32 from rfl] at HN
 clear h0 h6 h7 hnn hsz
 rw [zeroNd_eq]
 go_enter Tryz.func80, Tryz.ntmps80
 go_wp2_with fail
 refine (HN.out _).mono ?_
 rintro e w1 ⟨rfl, b1⟩
 have z1 := b1.size
 simp only [alloc_sizeW] at z1
 have rR : row w1 w.heap.size = (Value.int .i64 0 :: (zeros 54 (Value.int .u8 0) ++ Value.bool false :: zeros 4 (Value.int .u8 0))).toArray := by rw [row_below b1 (by simp)]; simp [go_sem]
 have bb : Below w.heap.size w w1 := below_of b1 (by (repeat (first | exact Below.refl _ _ | refine Below.al ?_ _ | refine Below.drew ?_ | refine Below.sr ?_ _ | refine Below.sc ?_ _))) (by first | (simp; done) | (simp; omega) | omega)
 clear b1
 go_wp2_with fail
 have hfin := row_setRow_same (w := w1) (g := w.heap.size) (c := (Value.int .i64 0 :: (zeros 54 (Value.int .u8 0) ++ Value.bool false :: zeros 4 (Value.int .u8 0))).toArray) (by rw [rR]; simp) (by rw [rR])
 (try simp only [Exit.inBlock, Exit.then])
 refine bodyPost_ret (results_2 rfl (resOk_row rfl ?_) resOk_tmp) rfl ?_
 ·
  first | (rw [hfin]; simp; done) | (rw [row_alloc_past _ _ (by rw [setRow_size]; omega), hfin]; simp)
 ·
  first | exact ⟨by rw [hfin]; rfl, Below.setRow bb (Nat.le_refl _) _⟩ | exact ⟨by rw [row_alloc_past _ _ (by rw [setRow_size]; omega), hfin]; rfl, Below.alloc (Below.setRow bb (Nat.le_refl _) _) (by rw [setRow_size]; omega) _⟩
end
section
open Go.RowKit
theorem getD_elem (l : List UInt8) (k : Nat) (d : UInt8) (h : k < l.length) : l.getD k d = l[k] := by simp [List.getD_eq_getElem?_getD, h]
theorem ndS_sum (op : Nat) (fr to ab : Vector UInt8 16) (mac : Vector UInt8 6) (has : Bool) (fl : Vector UInt8 4) : List.take 2 (List.drop 42 (ndS op fr to ab mac has fl)) = bytesN (sumN op fr to ab mac has fl) 2 := by
 have h := nd_msg op fr to ab mac has fl []
 rw [List.append_nil] at h
 have h2 : List.take 2 (List.drop 2 ((List.drop 40 (ndS op fr to ab mac has fl)).take (szN has))) = bytesN (sumN op fr to ab mac has fl) 2 := by
  rw [h]
  unfold msgS
  simp only [List.cons_append, List.nil_append, List.drop_succ_cons, List.drop_zero]
  rw [List.take_append_of_le_length (by simp)]
  exact List.take_of_length_le (by simp)
 rw [List.drop_take, List.take_take, List.drop_drop] at h2
 rw [← h2]
 congr 1
 cases has <;> rfl
def ndRest1 (op : Nat) (l : List UInt8) (sz : Nat) : List Value × Int :=
 if l.getD 41 0 ≠ 0 then (zeroNd, 3) else
 if sz = 24 then
  (if bytesN (sumN op (vecAt l 8 16) (vecAt l 24 16) (vecAt l 48 16) mac0 false (vecAt l 44 4)) 2 = List.take 2 (List.drop 42 l) then (ndV op (vecAt l 8 16) (vecAt l 24 16) (vecAt l 48 16) mac0 false (vecAt l 44 4), 0) else (zeroNd, 4))
 else if l.getD 64 0 ≠ UInt8.ofNat op then (zeroNd, 3) else if l.getD 65 0 ≠ 1 then (zeroNd, 3) else
  (if bytesN (sumN op (vecAt l 8 16) (vecAt l 24 16) (vecAt l 48 16) (vecAt l 66 6) true (vecAt l 44 4)) 2 = List.take 2 (List.drop 42 l) then (ndV op (vecAt l 8 16) (vecAt l 24 16) (vecAt l 48 16) (vecAt l 66 6) true (vecAt l 44 4), 0) else (zeroNd, 4))
def ndRest (l : List UInt8) (sz : Nat) : List Value × Int := if l.getD 40 0 = 135 then ndRest1 1 l sz else if l.getD 40 0 = 136 then ndRest1 2 l sz else (zeroNd, 3)
theorem ndRest_op1 (l : List UInt8) (sz : Nat) (h : l.getD 40 0 = 135) : ndRest l sz = ndRest1 1 l sz := by rw [ndRest, if_pos h]
theorem ndRest_op2 (l : List UInt8) (sz : Nat) (h : l.getD 40 0 = 136) : ndRest l sz = ndRest1 2 l sz := by rw [ndRest, if_neg (by rw [h]; decide), if_pos h]
theorem ndRest_no (l : List UInt8) (sz : Nat) (h1 : l.getD 40 0 ≠ 135) (h2 : l.getD 40 0 ≠ 136) : ndRest l sz = (zeroNd, 3) := by rw [ndRest, if_neg h1, if_neg h2]
theorem put4b (x bv : Value) (fr to ab : Vector UInt8 16) (mac : Vector UInt8 6) (l : List UInt8) (k : Nat) (h : 64 ≤ l.length) (hk : k < 4) :
  (x :: (u8v fr ++ (u8v to ++ (u8v ab ++ (u8v mac ++ (bv :: u8s (gone l 44 4 k))))))).set (56 + k) (.int .u8 ((l[44 + k]'(by omega)).toNat : Int)) = x :: (u8v fr ++ (u8v to ++ (u8v ab ++ (u8v mac ++ (bv :: u8s (gone l 44 4 (k + 1))))))) := by
 have a := put1 (x :: (u8v fr ++ (u8v to ++ (u8v ab ++ (u8v mac ++ [bv]))))) [] l 44 4 k (56 + k) (by simp) (by omega) hk
 simp only [List.cons_append, List.append_nil, List.append_assoc, List.nil_append] at a
 exact a
theorem put6b (x bv : Value) (fr to ab : Vector UInt8 16) (fl : Vector UInt8 4) (l : List UInt8) (k : Nat) (h : 72 ≤ l.length) (hk : k < 6) :
  (x :: (u8v fr ++ (u8v to ++ (u8v ab ++ (u8s (gone l 66 6 k) ++ (bv :: u8v fl)))))).set (49 + k) (.int .u8 ((l[66 + k]'(by omega)).toNat : Int)) = x :: (u8v fr ++ (u8v to ++ (u8v ab ++ (u8s (gone l 66 6 (k + 1)) ++ (bv :: u8v fl))))) := by
 have a := put1 (x :: (u8v fr ++ (u8v to ++ u8v ab))) (bv :: u8v fl) l 66 6 k (49 + k) (by simp) (by omega) hk
 simp only [List.cons_append, List.append_nil, List.append_assoc, List.nil_append] at a
 exact a
theorem start16 (l : List UInt8) : (Value.int .i64 0 :: (zeros 54 (Value.int .u8 0) ++ Value.bool false :: zeros 4 (Value.int .u8 0))) = Value.int .i64 0 :: (u8s (gone l 8 16 0) ++ (u8s (gone l 24 16 0) ++ (u8s (gone l 48 16 0) ++ (u8v mac0 ++ (Value.bool false :: u8s (gone l 44 4 0)))))) := by
 simp only [gone_zero]
 rfl
attribute [local irreducible] ndS sumN bytesN
set_option maxRecDepth 20000 in
set_option maxHeartbeats 4000000 in
theorem rparse_body24 (l : List UInt8) (hl : 64 ≤ l.length) (hl2 : l.length ≤ 10000) (hsz : numAt l 4 = 24) (h0 : l[0] = 96) (h6 : l[6] = 58) (h7 : l[7] = 255) (hls : 64 ≤ l.length) (cs : List Value) (n : Int) (hout : ndRest l 24 = (cs, n)) : ParsesR l cs n := by
 intro w
 have h1 : (64 : Int) ≤ l.length := by omega
 have h1b : (64 : Int) ≤ l.length := by omega
 have h44 : (44 : Int) ≤ l.length := by omega
 have h2 : (l.length : Int) ≤ 10000 := by omega
 have HN := Lib.hid (fun w => rnumber_any ((l.drop 4).take 2) w (by simp; omega))
 have hnn : numN ((l.drop 4).take 2) = 24 := hsz
 rw [hnn, show ((24 : Nat) : Int) = 24 from rfl] at HN
 have c0' : ((l[0].toNat : Int) != 96) = false := by rw [h0]; rfl
 have c6' : ((l[6].toNat : Int) != 58) = false := by rw [h6]; rfl
 have c7' : ((l[7].toNat : Int) != 255) = false := by rw [h7]; rfl
 clear h0 h6 h7 hnn hsz
 go_enter Tryz.func80, Tryz.ntmps80
 go_wp2_with fail
 refine (HN.out _).mono ?_
 rintro e w1 ⟨rfl, b1⟩
 have z1 := b1.size
 simp only [alloc_sizeW] at z1
 have rR : row w1 w.heap.size = (Value.int .i64 0 :: (zeros 54 (Value.int .u8 0) ++ Value.bool false :: zeros 4 (Value.int .u8 0))).toArray := by rw [row_below b1 (by simp)]; simp [go_sem]
 have bb : Below w.heap.size w w1 := below_of b1 (by (repeat (first | exact Below.refl _ _ | refine Below.al ?_ _ | refine Below.drew ?_ | refine Below.sr ?_ _ | refine Below.sc ?_ _))) (by first | (simp; done) | (simp; omega) | omega)
 clear b1
 obtain ⟨D, hD⟩ : ∃ v, w1.heap.size = v := ⟨_, rfl⟩
 obtain ⟨W0, hW0⟩ : ∃ v, w1.alloc (.cells (Value.int .i64 0 :: (zeros 54 (Value.int .u8 0) ++ Value.bool false :: zeros 4 (Value.int .u8 0))).toArray 181) = v := ⟨_, rfl⟩
 have rX0 : row W0 D = (Value.int .i64 0 :: (u8s (gone l 8 16 0) ++ (u8s (gone l 24 16 0) ++ (u8s (gone l 48 16 0) ++ (u8v mac0 ++ (Value.bool false :: u8s (gone l 44 4 0))))))).toArray := by rw [← hW0, ← hD, row_alloc_at _ _ _ rfl, start16 l]
 have rR0 : row W0 w.heap.size = (Value.int .i64 0 :: (zeros 54 (Value.int .u8 0) ++ Value.bool false :: zeros 4 (Value.int .u8 0))).toArray := by rw [← hW0, row_alloc_past _ _ (by omega)]; exact rR
 have z0 : W0.heap.size = D + 1 := by rw [← hW0, alloc_sizeW, hD]
 have b0 : Below w.heap.size w W0 := by rw [← hW0]; exact Below.alloc bb (by omega) _
 have zD : w.heap.size < D := by omega
 go_wp2_with fail
 try rw [hW0, hD]
 clear hW0 rR bb z1
 go_loopw [6] (fun i wr => ∃ k : Nat, k ≤ 16 ∧ i = .int .i64 k ∧ row wr w.heap.size = (Value.int .i64 0 :: (zeros 54 (Value.int .u8 0) ++ Value.bool false :: zeros 4 (Value.int .u8 0))).toArray ∧ row wr D = (Value.int .i64 0 :: (u8s (gone l 8 16 k) ++ (u8s (gone l 24 16 k) ++ (u8s (gone l 48 16 k) ++ (u8v mac0 ++ (Value.bool false :: u8s (gone l 44 4 0))))))).toArray ∧ Below w.heap.size w wr ∧ D < wr.heap.size) (fun i _ => 16 - (intOf i).toNat)
 case atStart => exact ⟨0, by omega, rfl, rR0, rX0, b0, by omega⟩
 case round =>
  clear rR0 rX0 b0 z0
  obtain ⟨k, hk, rfl, rR, rX, hbel, zr⟩ := hrel
  by_cases hlt : k < 16
  ·
   have g1 := gone_length l 8 16 k (by omega) (by omega)
   have g2 := gone_length l 24 16 k (by omega) (by omega)
   have g3 := gone_length l 48 16 k (by omega) (by omega)
   have g4 := gone_length l 44 4 0 (by omega) (by omega)
   have c1 : (k : Int) < 16 := by omega
   have f5 : 1 + k < (row wr D).size := by rw [rX]; simp [g1, g2, g3, g4]; omega
   have f1 : 1 + k < 60 := by omega
   have f2 : 17 + k < 60 := by omega
   have f3 : 33 + k < 60 := by omega
   have f6 : k < 59 := by omega
   have f7 : k < 43 := by omega
   have f8 : k < 27 := by omega
   go_wp2_with fail
   rw [put16 _ _ _ _ hl hlt]
   go_roundw
   case rel =>
    refine ⟨k + 1, by omega, rfl, by rw [row_setRow_other _ _ _ (by omega)]; exact rR, row_setRow_same (by rw [rX]; simp) (by rw [rX]; simp [gone_length l _ 16 _ (show 8 + 16 ≤ l.length by omega), gone_length l _ 16 _ (show 24 + 16 ≤ l.length by omega), gone_length l _ 16 _ (show 48 + 16 ≤ l.length by omega), hlt, hk, Nat.succ_le_of_lt hlt]), Below.setRow hbel (by omega) _, by simpa using zr⟩
   case measure => simp [intOf]; omega
  ·
   obtain rfl : k = 16 := by omega
   rw [gone_full l 8 16 (by omega), gone_full l 24 16 (by omega), gone_full l 48 16 (by omega)] at rX
   replace rX : row wr D = (Value.int .i64 0 :: (u8v (vecAt l 8 16) ++ (u8v (vecAt l 24 16) ++ (u8v (vecAt l 48 16) ++ (u8v mac0 ++ (Value.bool false :: u8s (gone l 44 4 0))))))).toArray := rX
   rw [show ((16 : Nat) : Int) = 16 from rfl]
   go_wp2_with fail
   go_loopw [7] (fun i wr => ∃ k : Nat, k ≤ 4 ∧ i = .int .i64 k ∧ row wr w.heap.size = (Value.int .i64 0 :: (zeros 54 (Value.int .u8 0) ++ Value.bool false :: zeros 4 (Value.int .u8 0))).toArray ∧ row wr D = (Value.int .i64 0 :: (u8v (vecAt l 8 16) ++ (u8v (vecAt l 24 16) ++ (u8v (vecAt l 48 16) ++ (u8v mac0 ++ (Value.bool false :: u8s (gone l 44 4 k))))))).toArray ∧ Below w.heap.size w wr ∧ D < wr.heap.size) (fun i _ => 4 - (intOf i).toNat)
   case atStart => exact ⟨0, by omega, rfl, rR, rX, hbel, zr⟩
   case round =>
    clear rR rX hbel zr hk
    obtain ⟨k, hk, rfl, rR, rX, hbel, zr⟩ := hrel
    by_cases hlt : k < 4
    ·
     have g1 := gone_length l 44 4 k (by omega) (by omega)
     have c1 : (k : Int) < 4 := by omega
     have f5 : 56 + k < (row wr D).size := by rw [rX]; simp [g1]; omega
     have f1 : 56 + k < 60 := by omega
     have f6 : k < 4 := by omega
     go_wp2_with fail
     rw [put4b _ _ _ _ _ _ _ _ hl hlt]
     go_roundw
     case rel =>
      refine ⟨k + 1, by omega, rfl, by rw [row_setRow_other _ _ _ (by omega)]; exact rR, row_setRow_same (by rw [rX]; simp) (by rw [rX]; simp [gone_length l _ 4 _ (show 44 + 4 ≤ l.length by omega), hlt, hk, Nat.succ_le_of_lt hlt]), Below.setRow hbel (by omega) _, by simpa using zr⟩
     case measure => simp [intOf]; omega
    ·
     obtain rfl : k = 4 := by omega
     rw [gone_full l 44 4 (by omega)] at rX
     replace rX : row wr D = (Value.int .i64 0 :: (u8v (vecAt l 8 16) ++ (u8v (vecAt l 24 16) ++ (u8v (vecAt l 48 16) ++ (u8v mac0 ++ (Value.bool false :: u8v (vecAt l 44 4))))))).toArray := rX
     rw [show ((4 : Nat) : Int) = 4 from rfl]
     by_cases a : l[40] = 135
     ·
      skip
      have e40 : ((l[40].toNat : Int) != 135) = false := by rw [a]; rfl
      have g40 : l[40].toNat = 135 := by rw [a]; rfl
      have g40d : l.getD 40 0 = 135 := by rw [getD_elem _ _ _ (by omega), a]
      by_cases b : l[41] = 0
      ·
       have d41 : ((l[41].toNat : Int) != 0) = false := by rw [b]; rfl
       have g41 : l[41].toNat = 0 := by rw [b]; rfl
       have g41d : l.getD 41 0 = 0 := by rw [getD_elem _ _ _ (by omega), b]
       rw [ndRest_op1 l 24 g40d, ndRest1, if_neg (by rw [g41d]; simp)] at hout
       clear a b g40d g41d
       rw [if_pos rfl] at hout
       obtain ⟨W1, hW1⟩ : ∃ v, wr.setRow D (Value.int .i64 1 :: (u8v (vecAt l 8 16) ++ (u8v (vecAt l 24 16) ++ (u8v (vecAt l 48 16) ++ (u8v mac0 ++ (Value.bool false :: u8v (vecAt l 44 4))))))).toArray = v := ⟨_, rfl⟩
       have rX' : row W1 D = (Value.int .i64 1 :: (u8v (vecAt l 8 16) ++ (u8v (vecAt l 24 16) ++ (u8v (vecAt l 48 16) ++ (u8v mac0 ++ (Value.bool false :: u8v (vecAt l 44 4))))))).toArray := by rw [← hW1]; exact row_setRow_same (by rw [rX]; simp) (by rw [rX]; simp)
       have rR' : row W1 w.heap.size = (Value.int .i64 0 :: (zeros 54 (Value.int .u8 0) ++ Value.bool false :: zeros 4 (Value.int .u8 0))).toArray := by rw [← hW1, row_setRow_other _ _ _ (by omega)]; exact rR
       have zW1 : W1.heap.size = wr.heap.size := by rw [← hW1, setRow_size]
       have hbel' : Below w.heap.size w W1 := by rw [← hW1]; exact Below.setRow hbel (by omega) _
       go_wp2_with fail
       clear hW1 rX rR hbel
       have rX := rX'
       have rR := rR'
       have hbel := hbel'
       clear rX' rR' hbel'
       have lS : (ndS 1 (vecAt l 8 16) (vecAt l 24 16) (vecAt l 48 16) (mac0) false (vecAt l 44 4)).length = 64 := ndS_length _ _ _ _ _ _ _
       have hS42 : List.take 2 (List.drop 42 (ndS 1 (vecAt l 8 16) (vecAt l 24 16) (vecAt l 48 16) (mac0) false (vecAt l 44 4))) = bytesN (sumN 1 (vecAt l 8 16) (vecAt l 24 16) (vecAt l 48 16) (mac0) false (vecAt l 44 4)) 2 := ndS_sum _ _ _ _ _ _ _
       have HPr := fun w => rprint_op1 (vecAt l 8 16) (vecAt l 24 16) (vecAt l 48 16) (mac0) false (vecAt l 44 4) w
       unfold ndV at HPr
       rw [← hS42] at hout
       obtain ⟨S, hSS⟩ : ∃ v, ndS 1 (vecAt l 8 16) (vecAt l 24 16) (vecAt l 48 16) (mac0) false (vecAt l 44 4) = v := ⟨_, rfl⟩
       rw [hSS] at lS hout
       simp only [hSS] at HPr
       have KPr := Lib.hid HPr
       have lSI : (S.length : Int) = 64 := by omega
       have LS := Lib.hid lS
       clear HPr hSS hS42 lS
       go_wp2_with fail
       refine wp_region_beginR [(D, (Value.int .i64 1 :: (u8v (vecAt l 8 16) ++ (u8v (vecAt l 24 16) ++ (u8v (vecAt l 48 16) ++ (u8v mac0 ++ (Value.bool false :: u8v (vecAt l 44 4))))))).toArray)] rfl (by simp only [Rws]; (repeat (first | exact trivial | refine ⟨(by first | assumption | (simp [go_sem, *]; done)), (by first | omega | (simp; done) | (simp; omega)), ?_⟩))) (fun hS => ?_)
       refine qp 0 hS ?_
       refine qc 1 (v := ?_) hS ?_ ?_
       rotate_left
       ·
        intro w' hS'
        simp only [Rws] at hS'
        go_simp
        with_reducible refine (KPr.out _).mono ?_
        rintro e w'' ⟨rfl, hb⟩
        exact ⟨_, rfl, by rfl, hb⟩
       refine qp 2 hS ?_
       refine qp 3 hS ?_
       refine qp 4 hS ?_
       by_cases he : List.take 2 (List.drop 42 S) = List.take 2 (List.drop 42 l)
       ·
        rw [if_pos he] at hout
        obtain ⟨rfl, rfl⟩ := Prod.mk.inj hout
        have he1 : (List.take 2 (List.drop 42 S) == List.take 2 (List.drop 42 l)) = true := by rw [he]; simp
        have he2 : (List.take 2 (List.drop 42 S) != List.take 2 (List.drop 42 l)) = false := by rw [bne, he1]; rfl
        clear he hout
        refine qp 5 hS ?_
        refine wpAnyR_done (by kernel_rfl) (fun w7 h7 => ?_) _
        have b7 := below_step (Below.drew (Below.refl _ _)) h7
        have z7 := b7.size
        have rR7 := (row_below b7 (by omega)).trans rR
        have rX7 := (row_below b7 (by omega)).trans rX
        have bb7 := hbel.trans (b7.mono (by omega))
        clear hS h7 b7 rR rX hbel
        go_wp2_with fail
        have hfin := row_setRow_same (w := w7) (g := w.heap.size) (c := (Value.int .i64 1 :: (u8v (vecAt l 8 16) ++ (u8v (vecAt l 24 16) ++ (u8v (vecAt l 48 16) ++ (u8v mac0 ++ (Value.bool false :: u8v (vecAt l 44 4))))))).toArray) (by rw [rR7]; simp) (by rw [rR7]; simp)
        (try simp only [Exit.inBlock, Exit.then])
        refine bodyPost_ret (results_2 rfl (resOk_row rfl ?_) resOk_tmp) rfl ?_
        ·
         rw [hfin]; simp
        ·
         exact ⟨by rw [hfin]; rfl, Below.setRow bb7 (Nat.le_refl _) _⟩
       ·
        rw [if_neg he] at hout
        obtain ⟨rfl, rfl⟩ := Prod.mk.inj hout
        have he1 : (List.take 2 (List.drop 42 S) == List.take 2 (List.drop 42 l)) = false := by simpa using he
        have he2 : (List.take 2 (List.drop 42 S) != List.take 2 (List.drop 42 l)) = true := by rw [bne, he1]; rfl
        clear he hout
        refine qp 5 hS ?_
        refine wpAnyR_done (by kernel_rfl) (fun w7 h7 => ?_) _
        have b7 := below_step (Below.drew (Below.refl _ _)) h7
        have z7 := b7.size
        have rR7 := (row_below b7 (by omega)).trans rR
        have bb7 := hbel.trans (b7.mono (by omega))
        clear hS h7 b7 rR rX hbel
        go_wp2_with fail
        have hfin := row_setRow_same (w := w7) (g := w.heap.size) (c := (Value.int .i64 0 :: (zeros 54 (Value.int .u8 0) ++ Value.bool false :: zeros 4 (Value.int .u8 0))).toArray) (by rw [rR7]; simp) (by rw [rR7])
        (try simp only [Exit.inBlock, Exit.then])
        refine bodyPost_ret (results_2 rfl (resOk_row rfl ?_) resOk_tmp) rfl ?_
        ·
         first | (rw [hfin]; simp; done) | (rw [row_alloc_past _ _ (by rw [setRow_size]; omega), hfin]; simp)
        ·
         first | exact ⟨by rw [hfin]; rfl, Below.setRow bb7 (Nat.le_refl _) _⟩ | exact ⟨by rw [row_alloc_past _ _ (by rw [setRow_size]; omega), hfin]; rfl, Below.alloc (Below.setRow bb7 (Nat.le_refl _) _) (by rw [setRow_size]; omega) _⟩
      ·
       have d41 : ((l[41].toNat : Int) != 0) = true := by simp only [bne_iff_ne, ne_eq]; intro hh; exact b (UInt8.toNat_inj.1 (by show l[41].toNat = 0; omega))
       have g41d : l.getD 41 0 ≠ 0 := by rw [getD_elem _ _ _ (by omega)]; exact b
       rw [ndRest_op1 l 24 g40d, ndRest1, if_pos g41d] at hout
       clear a b g40d g41d
       obtain ⟨rfl, rfl⟩ := Prod.mk.inj hout
       clear hout
       go_wp2_with fail
       have hfin := row_setRow_same (w := wr) (g := w.heap.size) (c := (Value.int .i64 0 :: (zeros 54 (Value.int .u8 0) ++ Value.bool false :: zeros 4 (Value.int .u8 0))).toArray) (by rw [rR]; simp) (by rw [rR])
       (try simp only [Exit.inBlock, Exit.then])
       refine bodyPost_ret (results_2 rfl (resOk_row rfl ?_) resOk_tmp) rfl ?_
       ·
        first | (rw [hfin]; simp; done) | (rw [row_alloc_past _ _ (by rw [setRow_size]; omega), hfin]; simp)
       ·
        first | exact ⟨by rw [hfin]; rfl, Below.setRow hbel (Nat.le_refl _) _⟩ | exact ⟨by rw [row_alloc_past _ _ (by rw [setRow_size]; omega), hfin]; rfl, Below.alloc (Below.setRow hbel (Nat.le_refl _) _) (by rw [setRow_size]; omega) _⟩
     by_cases a2 : l[40] = 136
     ·
      have a := a2
      clear a2
      have e40 : ((l[40].toNat : Int) != 136) = false := by rw [a]; rfl
      have g40 : l[40].toNat = 136 := by rw [a]; rfl
      have g40d : l.getD 40 0 = 136 := by rw [getD_elem _ _ _ (by omega), a]
      have e40b : ((l[40].toNat : Int) != 135) = true := by rw [a]; rfl
      by_cases b : l[41] = 0
      ·
       have d41 : ((l[41].toNat : Int) != 0) = false := by rw [b]; rfl
       have g41 : l[41].toNat = 0 := by rw [b]; rfl
       have g41d : l.getD 41 0 = 0 := by rw [getD_elem _ _ _ (by omega), b]
       rw [ndRest_op2 l 24 g40d, ndRest1, if_neg (by rw [g41d]; simp)] at hout
       clear a b g40d g41d
       rw [if_pos rfl] at hout
       obtain ⟨W1, hW1⟩ : ∃ v, wr.setRow D (Value.int .i64 2 :: (u8v (vecAt l 8 16) ++ (u8v (vecAt l 24 16) ++ (u8v (vecAt l 48 16) ++ (u8v mac0 ++ (Value.bool false :: u8v (vecAt l 44 4))))))).toArray = v := ⟨_, rfl⟩
       have rX' : row W1 D = (Value.int .i64 2 :: (u8v (vecAt l 8 16) ++ (u8v (vecAt l 24 16) ++ (u8v (vecAt l 48 16) ++ (u8v mac0 ++ (Value.bool false :: u8v (vecAt l 44 4))))))).toArray := by rw [← hW1]; exact row_setRow_same (by rw [rX]; simp) (by rw [rX]; simp)
       have rR' : row W1 w.heap.size = (Value.int .i64 0 :: (zeros 54 (Value.int .u8 0) ++ Value.bool false :: zeros 4 (Value.int .u8 0))).toArray := by rw [← hW1, row_setRow_other _ _ _ (by omega)]; exact rR
       have zW1 : W1.heap.size = wr.heap.size := by rw [← hW1, setRow_size]
       have hbel' : Below w.heap.size w W1 := by rw [← hW1]; exact Below.setRow hbel (by omega) _
       go_wp2_with fail
       clear hW1 rX rR hbel
       have rX := rX'
       have rR := rR'
       have hbel := hbel'
       clear rX' rR' hbel'
       have lS : (ndS 2 (vecAt l 8 16) (vecAt l 24 16) (vecAt l 48 16) (mac0) false (vecAt l 44 4)).length = 64 := ndS_length _ _ _ _ _ _ _
       have hS42 : List.take 2 (List.drop 42 (ndS 2 (vecAt l 8 16) (vecAt l 24 16) (vecAt l 48 16) (mac0) false (vecAt l 44 4))) = bytesN (sumN 2 (vecAt l 8 16) (vecAt l 24 16) (vecAt l 48 16) (mac0) false (vecAt l 44 4)) 2 := ndS_sum _ _ _ _ _ _ _
       have HPr := fun w => rprint_op2 (vecAt l 8 16) (vecAt l 24 16) (vecAt l 48 16) (mac0) false (vecAt l 44 4) w
       unfold ndV at HPr
       rw [← hS42] at hout
       obtain ⟨S, hSS⟩ : ∃ v, ndS 2 (vecAt l 8 16) (vecAt l 24 16) (vecAt l 48 16) (mac0) false (vecAt l 44 4) = v := ⟨_, rfl⟩
       rw [hSS] at lS hout
       simp only [hSS] at HPr
       have KPr := Lib.hid HPr
       have lSI : (S.length : Int) = 64 := by omega
       have LS := Lib.hid lS
       clear HPr hSS hS42 lS
       go_wp2_with fail
       refine wp_region_beginR [(D, (Value.int .i64 2 :: (u8v (vecAt l 8 16) ++ (u8v (vecAt l 24 16) ++ (u8v (vecAt l 48 16) ++ (u8v mac0 ++ (Value.bool false :: u8v (vecAt l 44 4))))))).toArray)] rfl (by simp only [Rws]; (repeat (first | exact trivial | refine ⟨(by first | assumption | (simp [go_sem, *]; done)), (by first | omega | (simp; done) | (simp; omega)), ?_⟩))) (fun hS => ?_)
       refine qp 0 hS ?_
       refine qc 1 (v := ?_) hS ?_ ?_
       rotate_left
       ·
        intro w' hS'
        simp only [Rws] at hS'
        go_simp
        with_reducible refine (KPr.out _).mono ?_
        rintro e w'' ⟨rfl, hb⟩
        exact ⟨_, rfl, by rfl, hb⟩
       refine qp 2 hS ?_
       refine qp 3 hS ?_
       refine qp 4 hS ?_
       by_cases he : List.take 2 (List.drop 42 S) = List.take 2 (List.drop 42 l)
       ·
        rw [if_pos he] at hout
        obtain ⟨rfl, rfl⟩ := Prod.mk.inj hout
        have he1 : (List.take 2 (List.drop 42 S) == List.take 2 (List.drop 42 l)) = true := by rw [he]; simp
        have he2 : (List.take 2 (List.drop 42 S) != List.take 2 (List.drop 42 l)) = false := by rw [bne, he1]; rfl
        clear he hout
        refine qp 5 hS ?_
        refine wpAnyR_done (by kernel_rfl) (fun w7 h7 => ?_) _
        have b7 := below_step (Below.drew (Below.refl _ _)) h7
        have z7 := b7.size
        have rR7 := (row_below b7 (by omega)).trans rR
        have rX7 := (row_below b7 (by omega)).trans rX
        have bb7 := hbel.trans (b7.mono (by omega))
        clear hS h7 b7 rR rX hbel
        go_wp2_with fail
        have hfin := row_setRow_same (w := w7) (g := w.heap.size) (c := (Value.int .i64 2 :: (u8v (vecAt l 8 16) ++ (u8v (vecAt l 24 16) ++ (u8v (vecAt l 48 16) ++ (u8v mac0 ++ (Value.bool false :: u8v (vecAt l 44 4))))))).toArray) (by rw [rR7]; simp) (by rw [rR7]; simp)
        (try simp only [Exit.inBlock, Exit.then])
        refine bodyPost_ret (results_2 rfl (resOk_row rfl ?_) resOk_tmp) rfl ?_
        ·
         rw [hfin]; simp
        ·
         exact ⟨by rw [hfin]; rfl, Below.setRow bb7 (Nat.le_refl _) _⟩
       ·
        rw [if_neg he] at hout
        obtain ⟨rfl, rfl⟩ := Prod.mk.inj hout
        have he1 : (List.take 2 (List.drop 42 S) == List.take 2 (List.drop 42 l)) = false := by simpa using he
        have he2 : (List.take 2 (List.drop 42 S) != List.take 2 (List.drop 42 l)) = true := by rw [bne, he1]; rfl
        clear he hout
        refine qp 5 hS ?_
        refine wpAnyR_done (by kernel_rfl) (fun w7 h7 => ?_) _
        have b7 := below_step (Below.drew (Below.refl _ _)) h7
        have z7 := b7.size
        have rR7 := (row_below b7 (by omega)).trans rR
        have bb7 := hbel.trans (b7.mono (by omega))
        clear hS h7 b7 rR rX hbel
        go_wp2_with fail
        have hfin := row_setRow_same (w := w7) (g := w.heap.size) (c := (Value.int .i64 0 :: (zeros 54 (Value.int .u8 0) ++ Value.bool false :: zeros 4 (Value.int .u8 0))).toArray) (by rw [rR7]; simp) (by rw [rR7])
        (try simp only [Exit.inBlock, Exit.then])
        refine bodyPost_ret (results_2 rfl (resOk_row rfl ?_) resOk_tmp) rfl ?_
        ·
         first | (rw [hfin]; simp; done) | (rw [row_alloc_past _ _ (by rw [setRow_size]; omega), hfin]; simp)
        ·
         first | exact ⟨by rw [hfin]; rfl, Below.setRow bb7 (Nat.le_refl _) _⟩ | exact ⟨by rw [row_alloc_past _ _ (by rw [setRow_size]; omega), hfin]; rfl, Below.alloc (Below.setRow bb7 (Nat.le_refl _) _) (by rw [setRow_size]; omega) _⟩
      ·
       have d41 : ((l[41].toNat : Int) != 0) = true := by simp only [bne_iff_ne, ne_eq]; intro hh; exact b (UInt8.toNat_inj.1 (by show l[41].toNat = 0; omega))
       have g41d : l.getD 41 0 ≠ 0 := by rw [getD_elem _ _ _ (by omega)]; exact b
       rw [ndRest_op2 l 24 g40d, ndRest1, if_pos g41d] at hout
       clear a b g40d g41d
       obtain ⟨rfl, rfl⟩ := Prod.mk.inj hout
       clear hout
       go_wp2_with fail
       have hfin := row_setRow_same (w := wr) (g := w.heap.size) (c := (Value.int .i64 0 :: (zeros 54 (Value.int .u8 0) ++ Value.bool false :: zeros 4 (Value.int .u8 0))).toArray) (by rw [rR]; simp) (by rw [rR])
       (try simp only [Exit.inBlock, Exit.then])
       refine bodyPost_ret (results_2 rfl (resOk_row rfl ?_) resOk_tmp) rfl ?_
       ·
        first | (rw [hfin]; simp; done) | (rw [row_alloc_past _ _ (by rw [setRow_size]; omega), hfin]; simp)
       ·
        first | exact ⟨by rw [hfin]; rfl, Below.setRow hbel (Nat.le_refl _) _⟩ | exact ⟨by rw [row_alloc_past _ _ (by rw [setRow_size]; omega), hfin]; rfl, Below.alloc (Below.setRow hbel (Nat.le_refl _) _) (by rw [setRow_size]; omega) _⟩
     have e1 : ((l[40].toNat : Int) != 135) = true := by simp only [bne_iff_ne, ne_eq]; intro hh; exact a (UInt8.toNat_inj.1 (by show l[40].toNat = 135; omega))
     have e2 : ((l[40].toNat : Int) != 136) = true := by simp only [bne_iff_ne, ne_eq]; intro hh; exact a2 (UInt8.toNat_inj.1 (by show l[40].toNat = 136; omega))
     rw [ndRest_no l 24 (by rw [getD_elem _ _ _ (by omega)]; exact a) (by rw [getD_elem _ _ _ (by omega)]; exact a2)] at hout
     clear a a2
     obtain ⟨rfl, rfl⟩ := Prod.mk.inj hout
     clear hout
     go_wp2_with fail
     have hfin := row_setRow_same (w := wr) (g := w.heap.size) (c := (Value.int .i64 0 :: (zeros 54 (Value.int .u8 0) ++ Value.bool false :: zeros 4 (Value.int .u8 0))).toArray) (by rw [rR]; simp) (by rw [rR])
     (try simp only [Exit.inBlock, Exit.then])
     refine bodyPost_ret (results_2 rfl (resOk_row rfl ?_) resOk_tmp) rfl ?_
     ·
      first | (rw [hfin]; simp; done) | (rw [row_alloc_past _ _ (by rw [setRow_size]; omega), hfin]; simp)
     ·
      first | exact ⟨by rw [hfin]; rfl, Below.setRow hbel (Nat.le_refl _) _⟩ | exact ⟨by rw [row_alloc_past _ _ (by rw [setRow_size]; omega), hfin]; rfl, Below.alloc (Below.setRow hbel (Nat.le_refl _) _) (by rw [setRow_size]; omega) _⟩
end
section
open Go.RowKit
attribute [local irreducible] ndS sumN bytesN
set_option maxRecDepth 20000 in
set_option maxHeartbeats 4000000 in
theorem rparse_body32 (l : List UInt8) (hl : 64 ≤ l.length) (hl2 : l.length ≤ 10000) (hsz : numAt l 4 = 32) (h0 : l[0] = 96) (h6 : l[6] = 58) (h7 : l[7] = 255) (hls : 72 ≤ l.length) (cs : List Value) (n : Int) (hout : ndRest l 32 = (cs, n)) : ParsesR l cs n := by
 intro w
 have h1 : (64 : Int) ≤ l.length := by omega
 have h1b : (72 : Int) ≤ l.length := by omega
 have h44 : (44 : Int) ≤ l.length := by omega
 have h2 : (l.length : Int) ≤ 10000 := by omega
 have HN := Lib.hid (fun w => rnumber_any ((l.drop 4).take 2) w (by simp; omega))
 have hnn : numN ((l.drop 4).take 2) = 32 := hsz
 rw [hnn, show ((32 : Nat) : Int) = 32 from rfl] at HN
 have c0' : ((l[0].toNat : Int) != 96) = false := by rw [h0]; rfl
 have c6' : ((l[6].toNat : Int) != 58) = false := by rw [h6]; rfl
 have c7' : ((l[7].toNat : Int) != 255) = false := by rw [h7]; rfl
 clear h0 h6 h7 hnn hsz
 go_enter Tryz.func80, Tryz.ntmps80
 go_wp2_with fail
 refine (HN.out _).mono ?_
 rintro e w1 ⟨rfl, b1⟩
 have z1 := b1.size
 simp only [alloc_sizeW] at z1
 have rR : row w1 w.heap.size = (Value.int .i64 0 :: (zeros 54 (Value.int .u8 0) ++ Value.bool false :: zeros 4 (Value.int .u8 0))).toArray := by rw [row_below b1 (by simp)]; simp [go_sem]
 have bb : Below w.heap.size w w1 := below_of b1 (by (repeat (first | exact Below.refl _ _ | refine Below.al ?_ _ | refine Below.drew ?_ | refine Below.sr ?_ _ | refine Below.sc ?_ _))) (by first | (simp; done) | (simp; omega) | omega)
 clear b1
 obtain ⟨D, hD⟩ : ∃ v, w1.heap.size = v := ⟨_, rfl⟩
 obtain ⟨W0, hW0⟩ : ∃ v, w1.alloc (.cells (Value.int .i64 0 :: (zeros 54 (Value.int .u8 0) ++ Value.bool false :: zeros 4 (Value.int .u8 0))).toArray 181) = v := ⟨_, rfl⟩
 have rX0 : row W0 D = (Value.int .i64 0 :: (u8s (gone l 8 16 0) ++ (u8s (gone l 24 16 0) ++ (u8s (gone l 48 16 0) ++ (u8v mac0 ++ (Value.bool false :: u8s (gone l 44 4 0))))))).toArray := by rw [← hW0, ← hD, row_alloc_at _ _ _ rfl, start16 l]
 have rR0 : row W0 w.heap.size = (Value.int .i64 0 :: (zeros 54 (Value.int .u8 0) ++ Value.bool false :: zeros 4 (Value.int .u8 0))).toArray := by rw [← hW0, row_alloc_past _ _ (by omega)]; exact rR
 have z0 : W0.heap.size = D + 1 := by rw [← hW0, alloc_sizeW, hD]
 have b0 : Below w.heap.size w W0 := by rw [← hW0]; exact Below.alloc bb (by omega) _
 have zD : w.heap.size < D := by omega
 go_wp2_with fail
 try rw [hW0, hD]
 clear hW0 rR bb z1
 go_loopw [6] (fun i wr => ∃ k : Nat, k ≤ 16 ∧ i = .int .i64 k ∧ row wr w.heap.size = (Value.int .i64 0 :: (zeros 54 (Value.int .u8 0) ++ Value.bool false :: zeros 4 (Value.int .u8 0))).toArray ∧ row wr D = (Value.int .i64 0 :: (u8s (gone l 8 16 k) ++ (u8s (gone l 24 16 k) ++ (u8s (gone l 48 16 k) ++ (u8v mac0 ++ (Value.bool false :: u8s (gone l 44 4 0))))))).toArray ∧ Below w.heap.size w wr ∧ D < wr.heap.size) (fun i _ => 16 - (intOf i).toNat)
 case atStart => exact ⟨0, by omega, rfl, rR0, rX0, b0, by omega⟩
 case round =>
  clear rR0 rX0 b0 z0
  obtain ⟨k, hk, rfl, rR, rX, hbel, zr⟩ := hrel
  by_cases hlt : k < 16
  ·
   have g1 := gone_length l 8 16 k (by omega) (by omega)
   have g2 := gone_length l 24 16 k (by omega) (by omega)
   have g3 := gone_length l 48 16 k (by omega) (by omega)
   have g4 := gone_length l 44 4 0 (by omega) (by omega)
   have c1 : (k : Int) < 16 := by omega
   have f5 : 1 + k < (row wr D).size := by rw [rX]; simp [g1, g2, g3, g4]; omega
   have f1 : 1 + k < 60 := by omega
   have f2 : 17 + k < 60 := by omega
   have f3 : 33 + k < 60 := by omega
   have f6 : k < 59 := by omega
   have f7 : k < 43 := by omega
   have f8 : k < 27 := by omega
   go_wp2_with fail
   rw [put16 _ _ _ _ hl hlt]
   go_roundw
   case rel =>
    refine ⟨k + 1, by omega, rfl, by rw [row_setRow_other _ _ _ (by omega)]; exact rR, row_setRow_same (by rw [rX]; simp) (by rw [rX]; simp [gone_length l _ 16 _ (show 8 + 16 ≤ l.length by omega), gone_length l _ 16 _ (show 24 + 16 ≤ l.length by omega), gone_length l _ 16 _ (show 48 + 16 ≤ l.length by omega), hlt, hk, Nat.succ_le_of_lt hlt]), Below.setRow hbel (by omega) _, by simpa using zr⟩
   case measure => simp [intOf]; omega
  ·
   obtain rfl : k = 16 := by omega
   rw [gone_full l 8 16 (by omega), gone_full l 24 16 (by omega), gone_full l 48 16 (by omega)] at rX
   replace rX : row wr D = (Value.int .i64 0 :: (u8v (vecAt l 8 16) ++ (u8v (vecAt l 24 16) ++ (u8v (vecAt l 48 16) ++ (u8v mac0 ++ (Value.bool false :: u8s (gone l 44 4 0))))))).toArray := rX
   rw [show ((16 : Nat) : Int) = 16 from rfl]
   go_wp2_with fail
   go_loopw [7] (fun i wr => ∃ k : Nat, k ≤ 4 ∧ i = .int .i64 k ∧ row wr w.heap.size = (Value.int .i64 0 :: (zeros 54 (Value.int .u8 0) ++ Value.bool false :: zeros 4 (Value.int .u8 0))).toArray ∧ row wr D = (Value.int .i64 0 :: (u8v (vecAt l 8 16) ++ (u8v (vecAt l 24 16) ++ (u8v (vecAt l 48 16) ++ (u8v mac0 ++ (Value.bool false :: u8s (gone l 44 4 k))))))).toArray ∧ Below w.heap.size w wr ∧ D < wr.heap.size) (fun i _ => 4 - (intOf i).toNat)
   case atStart => exact ⟨0, by omega, rfl, rR, rX, hbel, zr⟩
   case round =>
    clear rR rX hbel zr hk
    obtain ⟨k, hk, rfl, rR, rX, hbel, zr⟩ := hrel
    by_cases hlt : k < 4
    ·
     have g1 := gone_length l 44 4 k (by omega) (by omega)
     have c1 : (k : Int) < 4 := by omega
     have f5 : 56 + k < (row wr D).size := by rw [rX]; simp [g1]; omega
     have f1 : 56 + k < 60 := by omega
     have f6 : k < 4 := by omega
     go_wp2_with fail
     rw [put4b _ _ _ _ _ _ _ _ hl hlt]
     go_roundw
     case rel =>
      refine ⟨k + 1, by omega, rfl, by rw [row_setRow_other _ _ _ (by omega)]; exact rR, row_setRow_same (by rw [rX]; simp) (by rw [rX]; simp [gone_length l _ 4 _ (show 44 + 4 ≤ l.length by omega), hlt, hk, Nat.succ_le_of_lt hlt]), Below.setRow hbel (by omega) _, by simpa using zr⟩
     case measure => simp [intOf]; omega
    ·
     obtain rfl : k = 4 := by omega
     rw [gone_full l 44 4 (by omega)] at rX
     replace rX : row wr D = (Value.int .i64 0 :: (u8v (vecAt l 8 16) ++ (u8v (vecAt l 24 16) ++ (u8v (vecAt l 48 16) ++ (u8v mac0 ++ (Value.bool false :: u8v (vecAt l 44 4))))))).toArray := rX
     rw [show ((4 : Nat) : Int) = 4 from rfl]
     by_cases a : l[40] = 135
     ·
      skip
      have e40 : ((l[40].toNat : Int) != 135) = false := by rw [a]; rfl
      have g40 : l[40].toNat = 135 := by rw [a]; rfl
      have g40d : l.getD 40 0 = 135 := by rw [getD_elem _ _ _ (by omega), a]
      by_cases b : l[41] = 0
      ·
       have d41 : ((l[41].toNat : Int) != 0) = false := by rw [b]; rfl
       have g41 : l[41].toNat = 0 := by rw [b]; rfl
       have g41d : l.getD 41 0 = 0 := by rw [getD_elem _ _ _ (by omega), b]
       rw [ndRest_op1 l 32 g40d, ndRest1, if_neg (by rw [g41d]; simp)] at hout
       clear a b g40d g41d
       have k64 : (64 : Int) < (l.length : Int) := by omega
       have k65 : (65 : Int) < (l.length : Int) := by omega
       have hw64 : IntKind.i64.wrap ((l[64].toNat : Nat) : Int) = ((l[64].toNat : Nat) : Int) := by have := l[64].toNat_lt; rw [wraps_i64 _ (by omega) (by omega)]
       rw [if_neg (by decide)] at hout
       obtain ⟨W1, hW1⟩ : ∃ v, wr.setRow D (Value.int .i64 1 :: (u8v (vecAt l 8 16) ++ (u8v (vecAt l 24 16) ++ (u8v (vecAt l 48 16) ++ (u8v mac0 ++ (Value.bool false :: u8v (vecAt l 44 4))))))).toArray = v := ⟨_, rfl⟩
       have rX' : row W1 D = (Value.int .i64 1 :: (u8v (vecAt l 8 16) ++ (u8v (vecAt l 24 16) ++ (u8v (vecAt l 48 16) ++ (u8v mac0 ++ (Value.bool false :: u8v (vecAt l 44 4))))))).toArray := by rw [← hW1]; exact row_setRow_same (by rw [rX]; simp) (by rw [rX]; simp)
       have rR' : row W1 w.heap.size = (Value.int .i64 0 :: (zeros 54 (Value.int .u8 0) ++ Value.bool false :: zeros 4 (Value.int .u8 0))).toArray := by rw [← hW1, row_setRow_other _ _ _ (by omega)]; exact rR
       have zW1 : W1.heap.size = wr.heap.size := by rw [← hW1, setRow_size]
       have hbel' : Below w.heap.size w W1 := by rw [← hW1]; exact Below.setRow hbel (by omega) _
       go_wp2_with fail
       clear hW1 rX rR hbel
       have rX := rX'
       have rR := rR'
       have hbel := hbel'
       clear rX' rR' hbel'
       refine wp_region_beginR [(D, (Value.int .i64 1 :: (u8v (vecAt l 8 16) ++ (u8v (vecAt l 24 16) ++ (u8v (vecAt l 48 16) ++ (u8v mac0 ++ (Value.bool false :: u8v (vecAt l 44 4))))))).toArray)] rfl (by simp only [Rws]; (repeat (first | exact trivial | refine ⟨(by first | assumption | (simp [go_sem, *]; done)), (by first | omega | (simp; done) | (simp; omega)), ?_⟩))) (fun hS => ?_)
       refine qp 0 hS ?_
       refine qp 1 hS ?_
       refine qp 2 hS ?_
       refine qp 3 hS ?_
       refine qp 4 hS ?_
       by_cases c : l[64] = 1
       ·
        have d64 : ((l[64].toNat : Int) != 1) = false := by rw [c]; rfl
        have g64 : l[64].toNat = 1 := by rw [c]; rfl
        rw [if_neg (by rw [getD_elem _ _ _ (by omega), c]; decide)] at hout
        clear c
        refine qp 5 hS ?_
        refine qp 6 hS ?_
        by_cases d : l[65] = 1
        ·
         have d65 : ((l[65].toNat : Int) != 1) = false := by rw [d]; rfl
         have g65 : l[65].toNat = 1 := by rw [d]; rfl
         rw [if_neg (by rw [getD_elem _ _ _ (by omega), d]; decide)] at hout
         clear d
         refine qp 7 hS ?_
         refine qp 8 hS ?_
         refine qp 9 hS ?_
         refine qp 10 hS ?_
         refine wpAnyR_done (by kernel_rfl) (fun w5 h5 => ?_) _
         have b5 := below_step (Below.drew (Below.refl _ _)) h5
         have z5 := b5.size
         have rR5 := (row_below b5 (by omega)).trans rR
         have rX5 := (row_below b5 (by omega)).trans rX
         have bb5 := hbel.trans (b5.mono (by omega))
         clear hS h5 b5 rR rX hbel
         have rX := rX5
         have rR := rR5
         have hbel := bb5
         clear rX5 rR5 bb5
         obtain ⟨W2, hW2⟩ : ∃ v, w5.setRow D (Value.int .i64 1 :: (u8v (vecAt l 8 16) ++ (u8v (vecAt l 24 16) ++ (u8v (vecAt l 48 16) ++ (u8s (gone l 66 6 0) ++ (Value.bool true :: u8v (vecAt l 44 4))))))).toArray = v := ⟨_, rfl⟩
         have rX' : row W2 D = (Value.int .i64 1 :: (u8v (vecAt l 8 16) ++ (u8v (vecAt l 24 16) ++ (u8v (vecAt l 48 16) ++ (u8s (gone l 66 6 0) ++ (Value.bool true :: u8v (vecAt l 44 4))))))).toArray := by rw [← hW2, gone_zero]; exact row_setRow_same (by rw [rX]; simp) (by rw [rX]; simp)
         have rR' : row W2 w.heap.size = (Value.int .i64 0 :: (zeros 54 (Value.int .u8 0) ++ Value.bool false :: zeros 4 (Value.int .u8 0))).toArray := by rw [← hW2, row_setRow_other _ _ _ (by omega)]; exact rR
         have zW2 : W2.heap.size = w5.heap.size := by rw [← hW2, setRow_size]
         have hbel' : Below w.heap.size w W2 := by rw [← hW2]; exact Below.setRow hbel (by omega) _
         rw [gone_zero] at hW2
         replace hW2 : w5.setRow D (Value.int .i64 1 :: (u8v (vecAt l 8 16) ++ (u8v (vecAt l 24 16) ++ (u8v (vecAt l 48 16) ++ (u8v mac0 ++ (Value.bool true :: u8v (vecAt l 44 4))))))).toArray = W2 := hW2
         go_wp2_with fail
         clear hW2 rX rR hbel
         have rX := rX'
         have rR := rR'
         have hbel := hbel'
         clear rX' rR' hbel'
         clear g40 g41 g64 g65 d64 d65 e40 d41 hw64
         go_loopw [8] (fun i wr => ∃ k : Nat, k ≤ 6 ∧ i = .int .i64 k ∧ row wr w.heap.size = (Value.int .i64 0 :: (zeros 54 (Value.int .u8 0) ++ Value.bool false :: zeros 4 (Value.int .u8 0))).toArray ∧ row wr D = (Value.int .i64 1 :: (u8v (vecAt l 8 16) ++ (u8v (vecAt l 24 16) ++ (u8v (vecAt l 48 16) ++ (u8s (gone l 66 6 k) ++ (Value.bool true :: u8v (vecAt l 44 4))))))).toArray ∧ Below w.heap.size w wr ∧ D < wr.heap.size) (fun i _ => 6 - (intOf i).toNat)
         case atStart => exact ⟨0, by omega, rfl, rR, rX, hbel, by omega⟩
         case round =>
          clear rX rR hbel zr
          obtain ⟨k, hk, rfl, rR, rX, hbel, zr⟩ := hrel
          by_cases hlt : k < 6
          ·
           have g1 := gone_length l 66 6 k (by omega) (by omega)
           have c1 : (k : Int) < 6 := by omega
           have f5 : 49 + k < (row wr D).size := by rw [rX]; simp [g1]; omega
           have f1 : 49 + k < 60 := by omega
           have f6 : k < 11 := by omega
           have f7 : k < 6 := by omega
           go_wp2_with fail
           rw [put6b _ _ _ _ _ _ _ _ hls hlt]
           go_roundw
           case rel =>
            refine ⟨k + 1, by omega, rfl, by rw [row_setRow_other _ _ _ (by omega)]; exact rR, row_setRow_same (by rw [rX]; simp) (by rw [rX]; simp [gone_length l _ 6 _ (show 66 + 6 ≤ l.length by omega), hlt, hk, Nat.succ_le_of_lt hlt]), Below.setRow hbel (by omega) _, by simpa using zr⟩
           case measure => simp [intOf]; omega
          ·
           obtain rfl : k = 6 := by omega
           rw [gone_full l 66 6 (by omega)] at rX
           replace rX : row wr D = (Value.int .i64 1 :: (u8v (vecAt l 8 16) ++ (u8v (vecAt l 24 16) ++ (u8v (vecAt l 48 16) ++ (u8v (vecAt l 66 6) ++ (Value.bool true :: u8v (vecAt l 44 4))))))).toArray := rX
           rw [show ((6 : Nat) : Int) = 6 from rfl]
           have lS : (ndS 1 (vecAt l 8 16) (vecAt l 24 16) (vecAt l 48 16) (vecAt l 66 6) true (vecAt l 44 4)).length = 72 := ndS_length _ _ _ _ _ _ _
           have hS42 : List.take 2 (List.drop 42 (ndS 1 (vecAt l 8 16) (vecAt l 24 16) (vecAt l 48 16) (vecAt l 66 6) true (vecAt l 44 4))) = bytesN (sumN 1 (vecAt l 8 16) (vecAt l 24 16) (vecAt l 48 16) (vecAt l 66 6) true (vecAt l 44 4)) 2 := ndS_sum _ _ _ _ _ _ _
           have HPr := fun w => rprint_op1 (vecAt l 8 16) (vecAt l 24 16) (vecAt l 48 16) (vecAt l 66 6) true (vecAt l 44 4) w
           unfold ndV at HPr
           rw [← hS42] at hout
           obtain ⟨S, hSS⟩ : ∃ v, ndS 1 (vecAt l 8 16) (vecAt l 24 16) (vecAt l 48 16) (vecAt l 66 6) true (vecAt l 44 4) = v := ⟨_, rfl⟩
           rw [hSS] at lS hout
           simp only [hSS] at HPr
           have KPr := Lib.hid HPr
           have lSI : (S.length : Int) = 72 := by omega
           have LS := Lib.hid lS
           clear HPr hSS hS42 lS
           go_wp2_with fail
           refine wp_region_beginR [(D, (Value.int .i64 1 :: (u8v (vecAt l 8 16) ++ (u8v (vecAt l 24 16) ++ (u8v (vecAt l 48 16) ++ (u8v (vecAt l 66 6) ++ (Value.bool true :: u8v (vecAt l 44 4))))))).toArray)] rfl (by simp only [Rws]; (repeat (first | exact trivial | refine ⟨(by first | assumption | (simp [go_sem, *]; done)), (by first | omega | (simp; done) | (simp; omega)), ?_⟩))) (fun hS => ?_)
           refine qp 0 hS ?_
           refine qc 1 (v := ?_) hS ?_ ?_
           rotate_left
           ·
            intro w' hS'
            simp only [Rws] at hS'
            go_simp
            with_reducible refine (KPr.out _).mono ?_
            rintro e w'' ⟨rfl, hb⟩
            exact ⟨_, rfl, by rfl, hb⟩
           refine qp 2 hS ?_
           refine qp 3 hS ?_
           refine qp 4 hS ?_
           by_cases he : List.take 2 (List.drop 42 S) = List.take 2 (List.drop 42 l)
           ·
            rw [if_pos he] at hout
            obtain ⟨rfl, rfl⟩ := Prod.mk.inj hout
            have he1 : (List.take 2 (List.drop 42 S) == List.take 2 (List.drop 42 l)) = true := by rw [he]; simp
            have he2 : (List.take 2 (List.drop 42 S) != List.take 2 (List.drop 42 l)) = false := by rw [bne, he1]; rfl
            clear he hout
            refine qp 5 hS ?_
            refine wpAnyR_done (by kernel_rfl) (fun w7 h7 => ?_) _
            have b7 := below_step (Below.drew (Below.refl _ _)) h7
            have z7 := b7.size
            have rR7 := (row_below b7 (by omega)).trans rR
            have rX7 := (row_below b7 (by omega)).trans rX
            have bb7 := hbel.trans (b7.mono (by omega))
            clear hS h7 b7 rR rX hbel
            go_wp2_with fail
            have hfin := row_setRow_same (w := w7) (g := w.heap.size) (c := (Value.int .i64 1 :: (u8v (vecAt l 8 16) ++ (u8v (vecAt l 24 16) ++ (u8v (vecAt l 48 16) ++ (u8v (vecAt l 66 6) ++ (Value.bool true :: u8v (vecAt l 44 4))))))).toArray) (by rw [rR7]; simp) (by rw [rR7]; simp)
            (try simp only [Exit.inBlock, Exit.then])
            refine bodyPost_ret (results_2 rfl (resOk_row rfl ?_) resOk_tmp) rfl ?_
            ·
             rw [hfin]; simp
            ·
             exact ⟨by rw [hfin]; rfl, Below.setRow bb7 (Nat.le_refl _) _⟩
           ·
            rw [if_neg he] at hout
            obtain ⟨rfl, rfl⟩ := Prod.mk.inj hout
            have he1 : (List.take 2 (List.drop 42 S) == List.take 2 (List.drop 42 l)) = false := by simpa using he
            have he2 : (List.take 2 (List.drop 42 S) != List.take 2 (List.drop 42 l)) = true := by rw [bne, he1]; rfl
            clear he hout
            refine qp 5 hS ?_
            refine wpAnyR_done (by kernel_rfl) (fun w7 h7 => ?_) _
            have b7 := below_step (Below.drew (Below.refl _ _)) h7
            have z7 := b7.size
            have rR7 := (row_below b7 (by omega)).trans rR
            have bb7 := hbel.trans (b7.mono (by omega))
            clear hS h7 b7 rR rX hbel
            go_wp2_with fail
            have hfin := row_setRow_same (w := w7) (g := w.heap.size) (c := (Value.int .i64 0 :: (zeros 54 (Value.int .u8 0) ++ Value.bool false :: zeros 4 (Value.int .u8 0))).toArray) (by rw [rR7]; simp) (by rw [rR7])
            (try simp only [Exit.inBlock, Exit.then])
            refine bodyPost_ret (results_2 rfl (resOk_row rfl ?_) resOk_tmp) rfl ?_
            ·
             first | (rw [hfin]; simp; done) | (rw [row_alloc_past _ _ (by rw [setRow_size]; omega), hfin]; simp)
            ·
             first | exact ⟨by rw [hfin]; rfl, Below.setRow bb7 (Nat.le_refl _) _⟩ | exact ⟨by rw [row_alloc_past _ _ (by rw [setRow_size]; omega), hfin]; rfl, Below.alloc (Below.setRow bb7 (Nat.le_refl _) _) (by rw [setRow_size]; omega) _⟩
        ·
         have d65 : ((l[65].toNat : Int) != 1) = true := by simp only [bne_iff_ne, ne_eq]; intro hh; exact d (UInt8.toNat_inj.1 (by show l[65].toNat = 1; omega))
         rw [if_pos (by rw [getD_elem _ _ _ (by omega)]; exact d)] at hout
         obtain ⟨rfl, rfl⟩ := Prod.mk.inj hout
         clear d hout
         refine qp 7 hS ?_
         refine qp 8 hS ?_
         refine qp 9 hS ?_
         refine qp 10 hS ?_
         refine wpAnyR_done (by kernel_rfl) (fun w5 h5 => ?_) _
         have b5 := below_step (Below.drew (Below.refl _ _)) h5
         have z5 := b5.size
         have rR5 := (row_below b5 (by omega)).trans rR
         have rX5 := (row_below b5 (by omega)).trans rX
         have bb5 := hbel.trans (b5.mono (by omega))
         clear hS h5 b5 rR rX hbel
         go_wp2_with fail
         have hfin := row_setRow_same (w := w5) (g := w.heap.size) (c := (Value.int .i64 0 :: (zeros 54 (Value.int .u8 0) ++ Value.bool false :: zeros 4 (Value.int .u8 0))).toArray) (by rw [rR5]; simp) (by rw [rR5])
         (try simp only [Exit.inBlock, Exit.then])
         refine bodyPost_ret (results_2 rfl (resOk_row rfl ?_) resOk_tmp) rfl ?_
         ·
          first | (rw [hfin]; simp; done) | (rw [row_alloc_past _ _ (by rw [setRow_size]; omega), hfin]; simp)
         ·
          first | exact ⟨by rw [hfin]; rfl, Below.setRow bb5 (Nat.le_refl _) _⟩ | exact ⟨by rw [row_alloc_past _ _ (by rw [setRow_size]; omega), hfin]; rfl, Below.alloc (Below.setRow bb5 (Nat.le_refl _) _) (by rw [setRow_size]; omega) _⟩
       ·
        have d64 : ((l[64].toNat : Int) != 1) = true := by simp only [bne_iff_ne, ne_eq]; intro hh; exact c (UInt8.toNat_inj.1 (by show l[64].toNat = 1; omega))
        rw [if_pos (by rw [getD_elem _ _ _ (by omega)]; exact c)] at hout
        obtain ⟨rfl, rfl⟩ := Prod.mk.inj hout
        clear c hout
        refine qp 5 hS ?_
        refine qp 6 hS ?_
        refine qn 7 hS ?_
        refine qn 8 hS ?_
        refine qn 9 hS ?_
        refine qp 10 hS ?_
        refine wpAnyR_done (by kernel_rfl) (fun w5 h5 => ?_) _
        have b5 := below_step (Below.drew (Below.refl _ _)) h5
        have z5 := b5.size
        have rR5 := (row_below b5 (by omega)).trans rR
        have rX5 := (row_below b5 (by omega)).trans rX
        have bb5 := hbel.trans (b5.mono (by omega))
        clear hS h5 b5 rR rX hbel
        go_wp2_with fail
        have hfin := row_setRow_same (w := w5) (g := w.heap.size) (c := (Value.int .i64 0 :: (zeros 54 (Value.int .u8 0) ++ Value.bool false :: zeros 4 (Value.int .u8 0))).toArray) (by rw [rR5]; simp) (by rw [rR5])
        (try simp only [Exit.inBlock, Exit.then])
        refine bodyPost_ret (results_2 rfl (resOk_row rfl ?_) resOk_tmp) rfl ?_
        ·
         first | (rw [hfin]; simp; done) | (rw [row_alloc_past _ _ (by rw [setRow_size]; omega), hfin]; simp)
        ·
         first | exact ⟨by rw [hfin]; rfl, Below.setRow bb5 (Nat.le_refl _) _⟩ | exact ⟨by rw [row_alloc_past _ _ (by rw [setRow_size]; omega), hfin]; rfl, Below.alloc (Below.setRow bb5 (Nat.le_refl _) _) (by rw [setRow_size]; omega) _⟩
      ·
       have d41 : ((l[41].toNat : Int) != 0) = true := by simp only [bne_iff_ne, ne_eq]; intro hh; exact b (UInt8.toNat_inj.1 (by show l[41].toNat = 0; omega))
       have g41d : l.getD 41 0 ≠ 0 := by rw [getD_elem _ _ _ (by omega)]; exact b
       rw [ndRest_op1 l 32 g40d, ndRest1, if_pos g41d] at hout
       clear a b g40d g41d
       obtain ⟨rfl, rfl⟩ := Prod.mk.inj hout
       clear hout
       go_wp2_with fail
       have hfin := row_setRow_same (w := wr) (g := w.heap.size) (c := (Value.int .i64 0 :: (zeros 54 (Value.int .u8 0) ++ Value.bool false :: zeros 4 (Value.int .u8 0))).toArray) (by rw [rR]; simp) (by rw [rR])
       (try simp only [Exit.inBlock, Exit.then])
       refine bodyPost_ret (results_2 rfl (resOk_row rfl ?_) resOk_tmp) rfl ?_
       ·
        first | (rw [hfin]; simp; done) | (rw [row_alloc_past _ _ (by rw [setRow_size]; omega), hfin]; simp)
       ·
        first | exact ⟨by rw [hfin]; rfl, Below.setRow hbel (Nat.le_refl _) _⟩ | exact ⟨by rw [row_alloc_past _ _ (by rw [setRow_size]; omega), hfin]; rfl, Below.alloc (Below.setRow hbel (Nat.le_refl _) _) (by rw [setRow_size]; omega) _⟩
     by_cases a2 : l[40] = 136
     ·
      have a := a2
      clear a2
      have e40 : ((l[40].toNat : Int) != 136) = false := by rw [a]; rfl
      have g40 : l[40].toNat = 136 := by rw [a]; rfl
      have g40d : l.getD 40 0 = 136 := by rw [getD_elem _ _ _ (by omega), a]
      have e40b : ((l[40].toNat : Int) != 135) = true := by rw [a]; rfl
      by_cases b : l[41] = 0
      ·
       have d41 : ((l[41].toNat : Int) != 0) = false := by rw [b]; rfl
       have g41 : l[41].toNat = 0 := by rw [b]; rfl
       have g41d : l.getD 41 0 = 0 := by rw [getD_elem _ _ _ (by omega), b]
       rw [ndRest_op2 l 32 g40d, ndRest1, if_neg (by rw [g41d]; simp)] at hout
       clear a b g40d g41d
       have k64 : (64 : Int) < (l.length : Int) := by omega
       have k65 : (65 : Int) < (l.length : Int) := by omega
       have hw64 : IntKind.i64.wrap ((l[64].toNat : Nat) : Int) = ((l[64].toNat : Nat) : Int) := by have := l[64].toNat_lt; rw [wraps_i64 _ (by omega) (by omega)]
       rw [if_neg (by decide)] at hout
       obtain ⟨W1, hW1⟩ : ∃ v, wr.setRow D (Value.int .i64 2 :: (u8v (vecAt l 8 16) ++ (u8v (vecAt l 24 16) ++ (u8v (vecAt l 48 16) ++ (u8v mac0 ++ (Value.bool false :: u8v (vecAt l 44 4))))))).toArray = v := ⟨_, rfl⟩
       have rX' : row W1 D = (Value.int .i64 2 :: (u8v (vecAt l 8 16) ++ (u8v (vecAt l 24 16) ++ (u8v (vecAt l 48 16) ++ (u8v mac0 ++ (Value.bool false :: u8v (vecAt l 44 4))))))).toArray := by rw [← hW1]; exact row_setRow_same (by rw [rX]; simp) (by rw [rX]; simp)
       have rR' : row W1 w.heap.size = (Value.int .i64 0 :: (zeros 54 (Value.int .u8 0) ++ Value.bool false :: zeros 4 (Value.int .u8 0))).toArray := by rw [← hW1, row_setRow_other _ _ _ (by omega)]; exact rR
       have zW1 : W1.heap.size = wr.heap.size := by rw [← hW1, setRow_size]
       have hbel' : Below w.heap.size w W1 := by rw [← hW1]; exact Below.setRow hbel (by omega) _
       go_wp2_with fail
       clear hW1 rX rR hbel
       have rX := rX'
       have rR := rR'
       have hbel := hbel'
       clear rX' rR' hbel'
       refine wp_region_beginR [(D, (Value.int .i64 2 :: (u8v (vecAt l 8 16) ++ (u8v (vecAt l 24 16) ++ (u8v (vecAt l 48 16) ++ (u8v mac0 ++ (Value.bool false :: u8v (vecAt l 44 4))))))).toArray)] rfl (by simp only [Rws]; (repeat (first | exact trivial | refine ⟨(by first | assumption | (simp [go_sem, *]; done)), (by first | omega | (simp; done) | (simp; omega)), ?_⟩))) (fun hS => ?_)
       refine qp 0 hS ?_
       refine qp 1 hS ?_
       refine qp 2 hS ?_
       refine qp 3 hS ?_
       refine qp 4 hS ?_
       by_cases c : l[64] = 2
       ·
        have d64 : ((l[64].toNat : Int) != 2) = false := by rw [c]; rfl
        have g64 : l[64].toNat = 2 := by rw [c]; rfl
        rw [if_neg (by rw [getD_elem _ _ _ (by omega), c]; decide)] at hout
        clear c
        refine qp 5 hS ?_
        refine qp 6 hS ?_
        by_cases d : l[65] = 1
        ·
         have d65 : ((l[65].toNat : Int) != 1) = false := by rw [d]; rfl
         have g65 : l[65].toNat = 1 := by rw [d]; rfl
         rw [if_neg (by rw [getD_elem _ _ _ (by omega), d]; decide)] at hout
         clear d
         refine qp 7 hS ?_
         refine qp 8 hS ?_
         refine qp 9 hS ?_
         refine qp 10 hS ?_
         refine wpAnyR_done (by kernel_rfl) (fun w5 h5 => ?_) _
         have b5 := below_step (Below.drew (Below.refl _ _)) h5
         have z5 := b5.size
         have rR5 := (row_below b5 (by omega)).trans rR
         have rX5 := (row_below b5 (by omega)).trans rX
         have bb5 := hbel.trans (b5.mono (by omega))
         clear hS h5 b5 rR rX hbel
         have rX := rX5
         have rR := rR5
         have hbel := bb5
         clear rX5 rR5 bb5
         obtain ⟨W2, hW2⟩ : ∃ v, w5.setRow D (Value.int .i64 2 :: (u8v (vecAt l 8 16) ++ (u8v (vecAt l 24 16) ++ (u8v (vecAt l 48 16) ++ (u8s (gone l 66 6 0) ++ (Value.bool true :: u8v (vecAt l 44 4))))))).toArray = v := ⟨_, rfl⟩
         have rX' : row W2 D = (Value.int .i64 2 :: (u8v (vecAt l 8 16) ++ (u8v (vecAt l 24 16) ++ (u8v (vecAt l 48 16) ++ (u8s (gone l 66 6 0) ++ (Value.bool true :: u8v (vecAt l 44 4))))))).toArray := by rw [← hW2, gone_zero]; exact row_setRow_same (by rw [rX]; simp) (by rw [rX]; simp)
         have rR' : row W2 w.heap.size = (Value.int .i64 0 :: (zeros 54 (Value.int .u8 0) ++ Value.bool false :: zeros 4 (Value.int .u8 0))).toArray := by rw [← hW2, row_setRow_other _ _ _ (by omega)]; exact rR
         have zW2 : W2.heap.size = w5.heap.size := by rw [← hW2, setRow_size]
         have hbel' : Below w.heap.size w W2 := by rw [← hW2]; exact Below.setRow hbel (by omega) _
         rw [gone_zero] at hW2
         replace hW2 : w5.setRow D (Value.int .i64 2 :: (u8v (vecAt l 8 16) ++ (u8v (vecAt l 24 16) ++ (u8v (vecAt l 48 16) ++ (u8v mac0 ++ (Value.bool true :: u8v (vecAt l 44 4))))))).toArray = W2 := hW2
         go_wp2_with fail
         clear hW2 rX rR hbel
         have rX := rX'
         have rR := rR'
         have hbel := hbel'
         clear rX' rR' hbel'
         clear g40 g41 g64 g65 d64 d65 e40 d41 hw64
         go_loopw [8] (fun i wr => ∃ k : Nat, k ≤ 6 ∧ i = .int .i64 k ∧ row wr w.heap.size = (Value.int .i64 0 :: (zeros 54 (Value.int .u8 0) ++ Value.bool false :: zeros 4 (Value.int .u8 0))).toArray ∧ row wr D = (Value.int .i64 2 :: (u8v (vecAt l 8 16) ++ (u8v (vecAt l 24 16) ++ (u8v (vecAt l 48 16) ++ (u8s (gone l 66 6 k) ++ (Value.bool true :: u8v (vecAt l 44 4))))))).toArray ∧ Below w.heap.size w wr ∧ D < wr.heap.size) (fun i _ => 6 - (intOf i).toNat)
         case atStart => exact ⟨0, by omega, rfl, rR, rX, hbel, by omega⟩
         case round =>
          clear rX rR hbel zr
          obtain ⟨k, hk, rfl, rR, rX, hbel, zr⟩ := hrel
          by_cases hlt : k < 6
          ·
           have g1 := gone_length l 66 6 k (by omega) (by omega)
           have c1 : (k : Int) < 6 := by omega
           have f5 : 49 + k < (row wr D).size := by rw [rX]; simp [g1]; omega
           have f1 : 49 + k < 60 := by omega
           have f6 : k < 11 := by omega
           have f7 : k < 6 := by omega
           go_wp2_with fail
           rw [put6b _ _ _ _ _ _ _ _ hls hlt]
           go_roundw
           case rel =>
            refine ⟨k + 1, by omega, rfl, by rw [row_setRow_other _ _ _ (by omega)]; exact rR, row_setRow_same (by rw [rX]; simp) (by rw [rX]; simp [gone_length l _ 6 _ (show 66 + 6 ≤ l.length by omega), hlt, hk, Nat.succ_le_of_lt hlt]), Below.setRow hbel (by omega) _, by simpa using zr⟩
           case measure => simp [intOf]; omega
          ·
           obtain rfl : k = 6 := by omega
           rw [gone_full l 66 6 (by omega)] at rX
           replace rX : row wr D = (Value.int .i64 2 :: (u8v (vecAt l 8 16) ++ (u8v (vecAt l 24 16) ++ (u8v (vecAt l 48 16) ++ (u8v (vecAt l 66 6) ++ (Value.bool true :: u8v (vecAt l 44 4))))))).toArray := rX
           rw [show ((6 : Nat) : Int) = 6 from rfl]
           have lS : (ndS 2 (vecAt l 8 16) (vecAt l 24 16) (vecAt l 48 16) (vecAt l 66 6) true (vecAt l 44 4)).length = 72 := ndS_length _ _ _ _ _ _ _
           have hS42 : List.take 2 (List.drop 42 (ndS 2 (vecAt l 8 16) (vecAt l 24 16) (vecAt l 48 16) (vecAt l 66 6) true (vecAt l 44 4))) = bytesN (sumN 2 (vecAt l 8 16) (vecAt l 24 16) (vecAt l 48 16) (vecAt l 66 6) true (vecAt l 44 4)) 2 := ndS_sum _ _ _ _ _ _ _
           have HPr := fun w => rprint_op2 (vecAt l 8 16) (vecAt l 24 16) (vecAt l 48 16) (vecAt l 66 6) true (vecAt l 44 4) w
           unfold ndV at HPr
           rw [← hS42] at hout
           obtain ⟨S, hSS⟩ : ∃ v, ndS 2 (vecAt l 8 16) (vecAt l 24 16) (vecAt l 48 16) (vecAt l 66 6) true (vecAt l 44 4) = v := ⟨_, rfl⟩
           rw [hSS] at lS hout
           simp only [hSS] at HPr
           have KPr := Lib.hid HPr
           have lSI : (S.length : Int) = 72 := by omega
           have LS := Lib.hid lS
           clear HPr hSS hS42 lS
           go_wp2_with fail
           refine wp_region_beginR [(D, (Value.int .i64 2 :: (u8v (vecAt l 8 16) ++ (u8v (vecAt l 24 16) ++ (u8v (vecAt l 48 16) ++ (u8v (vecAt l 66 6) ++ (Value.bool true :: u8v (vecAt l 44 4))))))).toArray)] rfl (by simp only [Rws]; (repeat (first | exact trivial | refine ⟨(by first | assumption | (simp [go_sem, *]; done)), (by first | omega | (simp; done) | (simp; omega)), ?_⟩))) (fun hS => ?_)
           refine qp 0 hS ?_
           refine qc 1 (v := ?_) hS ?_ ?_
           rotate_left
           ·
            intro w' hS'
            simp only [Rws] at hS'
            go_simp
            with_reducible refine (KPr.out _).mono ?_
            rintro e w'' ⟨rfl, hb⟩
            exact ⟨_, rfl, by rfl, hb⟩
           refine qp 2 hS ?_
           refine qp 3 hS ?_
           refine qp 4 hS ?_
           by_cases he : List.take 2 (List.drop 42 S) = List.take 2 (List.drop 42 l)
           ·
            rw [if_pos he] at hout
            obtain ⟨rfl, rfl⟩ := Prod.mk.inj hout
            have he1 : (List.take 2 (List.drop 42 S) == List.take 2 (List.drop 42 l)) = true := by rw [he]; simp
            have he2 : (List.take 2 (List.drop 42 S) != List.take 2 (List.drop 42 l)) = false := by rw [bne, he1]; rfl
            clear he hout
            refine qp 5 hS ?_
            refine wpAnyR_done (by kernel_rfl) (fun w7 h7 => ?_) _
            have b7 := below_step (Below.drew (Below.refl _ _)) h7
            have z7 := b7.size
            have rR7 := (row_below b7 (by omega)).trans rR
            have rX7 := (row_below b7 (by omega)).trans rX
            have bb7 := hbel.trans (b7.mono (by omega))
            clear hS h7 b7 rR rX hbel
            go_wp2_with fail
            have hfin := row_setRow_same (w := w7) (g := w.heap.size) (c := (Value.int .i64 2 :: (u8v (vecAt l 8 16) ++ (u8v (vecAt l 24 16) ++ (u8v (vecAt l 48 16) ++ (u8v (vecAt l 66 6) ++ (Value.bool true :: u8v (vecAt l 44 4))))))).toArray) (by rw [rR7]; simp) (by rw [rR7]; simp)
            (try simp only [Exit.inBlock, Exit.then])
            refine bodyPost_ret (results_2 rfl (resOk_row rfl ?_) resOk_tmp) rfl ?_
            ·
             rw [hfin]; simp
            ·
             exact ⟨by rw [hfin]; rfl, Below.setRow bb7 (Nat.le_refl _) _⟩
           ·
            rw [if_neg he] at hout
            obtain ⟨rfl, rfl⟩ := Prod.mk.inj hout
            have he1 : (List.take 2 (List.drop 42 S) == List.take 2 (List.drop 42 l)) = false := by simpa using he
            have he2 : (List.take 2 (List.drop 42 S) != List.take 2 (List.drop 42 l)) = true := by rw [bne, he1]; rfl
            clear he hout
            refine qp 5 hS ?_
            refine wpAnyR_done (by kernel_rfl) (fun w7 h7 => ?_) _
            have b7 := below_step (Below.drew (Below.refl _ _)) h7
            have z7 := b7.size
            have rR7 := (row_below b7 (by omega)).trans rR
            have bb7 := hbel.trans (b7.mono (by omega))
            clear hS h7 b7 rR rX hbel
            go_wp2_with fail
            have hfin := row_setRow_same (w := w7) (g := w.heap.size) (c := (Value.int .i64 0 :: (zeros 54 (Value.int .u8 0) ++ Value.bool false :: zeros 4 (Value.int .u8 0))).toArray) (by rw [rR7]; simp) (by rw [rR7])
            (try simp only [Exit.inBlock, Exit.then])
            refine bodyPost_ret (results_2 rfl (resOk_row rfl ?_) resOk_tmp) rfl ?_
            ·
             first | (rw [hfin]; simp; done) | (rw [row_alloc_past _ _ (by rw [setRow_size]; omega), hfin]; simp)
            ·
             first | exact ⟨by rw [hfin]; rfl, Below.setRow bb7 (Nat.le_refl _) _⟩ | exact ⟨by rw [row_alloc_past _ _ (by rw [setRow_size]; omega), hfin]; rfl, Below.alloc (Below.setRow bb7 (Nat.le_refl _) _) (by rw [setRow_size]; omega) _⟩
        ·
         have d65 : ((l[65].toNat : Int) != 1) = true := by simp only [bne_iff_ne, ne_eq]; intro hh; exact d (UInt8.toNat_inj.1 (by show l[65].toNat = 1; omega))
         rw [if_pos (by rw [getD_elem _ _ _ (by omega)]; exact d)] at hout
         obtain ⟨rfl, rfl⟩ := Prod.mk.inj hout
         clear d hout
         refine qp 7 hS ?_
         refine qp 8 hS ?_
         refine qp 9 hS ?_
         refine qp 10 hS ?_
         refine wpAnyR_done (by kernel_rfl) (fun w5 h5 => ?_) _
         have b5 := below_step (Below.drew (Below.refl _ _)) h5
         have z5 := b5.size
         have rR5 := (row_below b5 (by omega)).trans rR
         have rX5 := (row_below b5 (by omega)).trans rX
         have bb5 := hbel.trans (b5.mono (by omega))
         clear hS h5 b5 rR rX hbel
         go_wp2_with fail
         have hfin := row_setRow_same (w := w5) (g := w.heap.size) (c := (Value.int .i64 0 :: (zeros 54 (Value.int .u8 0) ++ Value.bool false :: zeros 4 (Value.int .u8 0))).toArray) (by rw [rR5]; simp) (by rw [rR5])
         (try simp only [Exit.inBlock, Exit.then])
         refine bodyPost_ret (results_2 rfl (resOk_row rfl ?_) resOk_tmp) rfl ?_
         ·
          first | (rw [hfin]; simp; done) | (rw [row_alloc_past _ _ (by rw [setRow_size]; omega), hfin]; simp)
         ·
          first | exact ⟨by rw [hfin]; rfl, Below.setRow bb5 (Nat.le_refl _) _⟩ | exact ⟨by rw [row_alloc_past _ _ (by rw [setRow_size]; omega), hfin]; rfl, Below.alloc (Below.setRow bb5 (Nat.le_refl _) _) (by rw [setRow_size]; omega) _⟩
       ·
        have d64 : ((l[64].toNat : Int) != 2) = true := by simp only [bne_iff_ne, ne_eq]; intro hh; exact c (UInt8.toNat_inj.1 (by show l[64].toNat = 2; omega))
        rw [if_pos (by rw [getD_elem _ _ _ (by omega)]; exact c)] at hout
        obtain ⟨rfl, rfl⟩ := Prod.mk.inj hout
        clear c hout
        refine qp 5 hS ?_
        refine qp 6 hS ?_
        refine qn 7 hS ?_
        refine qn 8 hS ?_
        refine qn 9 hS ?_
        refine qp 10 hS ?_
        refine wpAnyR_done (by kernel_rfl) (fun w5 h5 => ?_) _
        have b5 := below_step (Below.drew (Below.refl _ _)) h5
        have z5 := b5.size
        have rR5 := (row_below b5 (by omega)).trans rR
        have rX5 := (row_below b5 (by omega)).trans rX
        have bb5 := hbel.trans (b5.mono (by omega))
        clear hS h5 b5 rR rX hbel
        go_wp2_with fail
        have hfin := row_setRow_same (w := w5) (g := w.heap.size) (c := (Value.int .i64 0 :: (zeros 54 (Value.int .u8 0) ++ Value.bool false :: zeros 4 (Value.int .u8 0))).toArray) (by rw [rR5]; simp) (by rw [rR5])
        (try simp only [Exit.inBlock, Exit.then])
        refine bodyPost_ret (results_2 rfl (resOk_row rfl ?_) resOk_tmp) rfl ?_
        ·
         first | (rw [hfin]; simp; done) | (rw [row_alloc_past _ _ (by rw [setRow_size]; omega), hfin]; simp)
        ·
         first | exact ⟨by rw [hfin]; rfl, Below.setRow bb5 (Nat.le_refl _) _⟩ | exact ⟨by rw [row_alloc_past _ _ (by rw [setRow_size]; omega), hfin]; rfl, Below.alloc (Below.setRow bb5 (Nat.le_refl _) _) (by rw [setRow_size]; omega) _⟩
      ·
       have d41 : ((l[41].toNat : Int) != 0) = true := by simp only [bne_iff_ne, ne_eq]; intro hh; exact b (UInt8.toNat_inj.1 (by show l[41].toNat = 0; omega))
       have g41d : l.getD 41 0 ≠ 0 := by rw [getD_elem _ _ _ (by omega)]; exact b
       rw [ndRest_op2 l 32 g40d, ndRest1, if_pos g41d] at hout
       clear a b g40d g41d
       obtain ⟨rfl, rfl⟩ := Prod.mk.inj hout
       clear hout
       go_wp2_with fail
       have hfin := row_setRow_same (w := wr) (g := w.heap.size) (c := (Value.int .i64 0 :: (zeros 54 (Value.int .u8 0) ++ Value.bool false :: zeros 4 (Value.int .u8 0))).toArray) (by rw [rR]; simp) (by rw [rR])
       (try simp only [Exit.inBlock, Exit.then])
       refine bodyPost_ret (results_2 rfl (resOk_row rfl ?_) resOk_tmp) rfl ?_
       ·
        first | (rw [hfin]; simp; done) | (rw [row_alloc_past _ _ (by rw [setRow_size]; omega), hfin]; simp)
       ·
        first | exact ⟨by rw [hfin]; rfl, Below.setRow hbel (Nat.le_refl _) _⟩ | exact ⟨by rw [row_alloc_past _ _ (by rw [setRow_size]; omega), hfin]; rfl, Below.alloc (Below.setRow hbel (Nat.le_refl _) _) (by rw [setRow_size]; omega) _⟩
     have e1 : ((l[40].toNat : Int) != 135) = true := by simp only [bne_iff_ne, ne_eq]; intro hh; exact a (UInt8.toNat_inj.1 (by show l[40].toNat = 135; omega))
     have e2 : ((l[40].toNat : Int) != 136) = true := by simp only [bne_iff_ne, ne_eq]; intro hh; exact a2 (UInt8.toNat_inj.1 (by show l[40].toNat = 136; omega))
     rw [ndRest_no l 32 (by rw [getD_elem _ _ _ (by omega)]; exact a) (by rw [getD_elem _ _ _ (by omega)]; exact a2)] at hout
     clear a a2
     obtain ⟨rfl, rfl⟩ := Prod.mk.inj hout
     clear hout
     go_wp2_with fail
     have hfin := row_setRow_same (w := wr) (g := w.heap.size) (c := (Value.int .i64 0 :: (zeros 54 (Value.int .u8 0) ++ Value.bool false :: zeros 4 (Value.int .u8 0))).toArray) (by rw [rR]; simp) (by rw [rR])
     (try simp only [Exit.inBlock, Exit.then])
     refine bodyPost_ret (results_2 rfl (resOk_row rfl ?_) resOk_tmp) rfl ?_
     ·
      first | (rw [hfin]; simp; done) | (rw [row_alloc_past _ _ (by rw [setRow_size]; omega), hfin]; simp)
     ·
      first | exact ⟨by rw [hfin]; rfl, Below.setRow hbel (Nat.le_refl _) _⟩ | exact ⟨by rw [row_alloc_past _ _ (by rw [setRow_size]; omega), hfin]; rfl, Below.alloc (Below.setRow hbel (Nat.le_refl _) _) (by rw [setRow_size]; omega) _⟩
end
section
open Go.RowKit
theorem vecAt_inner (l : List UInt8) (sz k n : Nat) (h : k + n ≤ sz) (hl : 40 + sz ≤ l.length) : vecAt ((l.drop 40).take sz) k n = vecAt l (40 + k) n := by
 apply Vector.ext
 intro i hi
 simp only [vecAt, Vector.getElem_ofFn]
 rw [List.getD_eq_getElem?_getD, List.getD_eq_getElem?_getD, List.getElem?_take_of_lt (by omega), List.getElem?_drop, show 40 + (k + i) = 40 + k + i by omega]
theorem getD_inner (l : List UInt8) (sz k : Nat) (h : k < sz) (hl : 40 + sz ≤ l.length) (h2 : k < ((l.drop 40).take sz).length) : ((l.drop 40).take sz)[k] = l.getD (40 + k) 0 := by
 rw [List.getElem_take, List.getElem_drop, List.getD_eq_getElem?_getD, List.getElem?_eq_getElem (by omega)]
 rfl
theorem numAt_inner (l : List UInt8) (sz : Nat) (h : 4 ≤ sz) : numAt ((l.drop 40).take sz) 2 = numAt l 42 := by
 rw [numAt, numAt, List.drop_take, List.take_take, List.drop_drop, Nat.min_eq_left (by omega)]
theorem sum_iff (l : List UInt8) (h : 64 ≤ l.length) (n : Nat) (hn : n ≤ 65535) : bytesN n 2 = List.take 2 (List.drop 42 l) ↔ numAt l 42 = n := by
 rw [← two_numAt l 42 (by omega)]
 constructor
 ·
  intro h2
  have h3 := congrArg numN h2
  rw [numN_bytesN, numN_bytesN] at h3
  have := numAt_lt l 42
  omega
 ·
  intro h2
  rw [h2]
theorem ndRest_prog (l : List UInt8) (hl : 64 ≤ l.length) (hl2 : l.length ≤ 10000) (sz : Nat) (hsz : numAt l 4 = sz) (hs : sz = 24 ∨ sz = 32) (h0 : l[0] = 96) (h6 : l[6] = 58) (h7 : l[7] = 255) (hls : 40 + sz ≤ l.length) : ParsesN l (ndRest l sz).1 (ndRest l sz).2 := by
 obtain ⟨m, hm⟩ : ∃ m, (l.drop 40).take sz = m := ⟨_, rfl⟩
 have hml : m.length = sz := by rw [← hm, List.length_take, List.length_drop]; omega
 have REF : ∀ n, refused m n (vecAt l 8 16) (vecAt l 24 16) ip0 mac0 four0 0 → ParsesN l zeroNd n := fun n H w => ndParse_refused l m n w hl hl2 sz hsz hs hls h0 h6 h7 hm H
 have g0 : m[0] = l.getD 40 0 := by subst hm; exact getD_inner l sz 0 (by omega) hls _
 have g1 : m[1] = l.getD 41 0 := by subst hm; exact getD_inner l sz 1 (by omega) hls _
 have v8 : vecAt m 8 16 = vecAt l 48 16 := by subst hm; exact vecAt_inner l sz 8 16 (by omega) hls
 have v4 : vecAt m 4 4 = vecAt l 44 4 := by subst hm; exact vecAt_inner l sz 4 4 (by omega) hls
 have n2 : numAt m 2 = numAt l 42 := by subst hm; exact numAt_inner l sz (by omega)
 have opcase : ∀ (op : Nat), (op = 1 ∨ op = 2) → l.getD 40 0 = UInt8.ofNat (134 + op) → ndRest l sz = ndRest1 op l sz → ParsesN l (ndRest1 op l sz).1 (ndRest1 op l sz).2 := by
  intro op hop a e
  unfold ndRest1
  by_cases b : l.getD 41 0 = 0
  ·
   rw [if_neg (by rw [b]; simp)]
   rcases hs with rfl | rfl
   ·
    rw [if_pos rfl]
    by_cases c : bytesN (sumN op (vecAt l 8 16) (vecAt l 24 16) (vecAt l 48 16) mac0 false (vecAt l 44 4)) 2 = List.take 2 (List.drop 42 l)
    ·
     rw [if_pos c]
     have c2 := (sum_iff l hl _ (sumN_le _ _ _ _ _ _ _)).1 c
     intro w
     rcases hop with rfl | rfl
     ·
      have := ndParse_small_op1 l m w hl hl2 hsz hls h0 h6 h7 hm hml (by rw [g0]; exact a) (by rw [g1]; exact b) (by rw [v8, v4, n2]; exact c2)
      rw [v8, v4] at this
      exact this
     ·
      have := ndParse_small_op2 l m w hl hl2 hsz hls h0 h6 h7 hm hml (by rw [g0]; exact a) (by rw [g1]; exact b) (by rw [v8, v4, n2]; exact c2)
      rw [v8, v4] at this
      exact this
    ·
     rw [if_neg c]
     have c2 := fun h => c ((sum_iff l hl _ (sumN_le _ _ _ _ _ _ _)).2 h)
     rcases hop with rfl | rfl
     ·
      exact REF 4 (told_sum_small_op1 m _ _ _ _ _ _ hml (by rw [g0]; exact a) (by rw [g1]; exact b) (by rw [v8, v4, n2]; exact c2))
     ·
      exact REF 4 (told_sum_small_op2 m _ _ _ _ _ _ hml (by rw [g0]; exact a) (by rw [g1]; exact b) (by rw [v8, v4, n2]; exact c2))
   ·
    rw [if_neg (by decide)]
    have g24 : m[24] = l.getD 64 0 := by subst hm; exact getD_inner l 32 24 (by omega) hls _
    have g25 : m[25] = l.getD 65 0 := by subst hm; exact getD_inner l 32 25 (by omega) hls _
    have v26 : vecAt m 26 6 = vecAt l 66 6 := by subst hm; exact vecAt_inner l 32 26 6 (by omega) hls
    by_cases d : l.getD 64 0 = UInt8.ofNat op
    ·
     rw [if_neg (by rw [d]; simp)]
     by_cases f : l.getD 65 0 = 1
     ·
      rw [if_neg (by rw [f]; simp)]
      by_cases c : bytesN (sumN op (vecAt l 8 16) (vecAt l 24 16) (vecAt l 48 16) (vecAt l 66 6) true (vecAt l 44 4)) 2 = List.take 2 (List.drop 42 l)
      ·
       rw [if_pos c]
       have c2 := (sum_iff l hl _ (sumN_le _ _ _ _ _ _ _)).1 c
       intro w
       rcases hop with rfl | rfl
       ·
        have := ndParse_large_op1 l m w hl hl2 hsz hls h0 h6 h7 hm hml (by rw [g0]; exact a) (by rw [g1]; exact b) (by rw [g24]; exact d) (by rw [g25]; exact f) (by rw [v8, v4, v26, n2]; exact c2)
        rw [v8, v4, v26] at this
        exact this
       ·
        have := ndParse_large_op2 l m w hl hl2 hsz hls h0 h6 h7 hm hml (by rw [g0]; exact a) (by rw [g1]; exact b) (by rw [g24]; exact d) (by rw [g25]; exact f) (by rw [v8, v4, v26, n2]; exact c2)
        rw [v8, v4, v26] at this
        exact this
      ·
       rw [if_neg c]
       have c2 := fun h => c ((sum_iff l hl _ (sumN_le _ _ _ _ _ _ _)).2 h)
       rcases hop with rfl | rfl
       ·
        exact REF 4 (told_sum_large_op1 m _ _ _ _ _ _ hml (by rw [g0]; exact a) (by rw [g1]; exact b) (by rw [g24]; exact d) (by rw [g25]; exact f) (by rw [v8, v4, v26, n2]; exact c2))
       ·
        exact REF 4 (told_sum_large_op2 m _ _ _ _ _ _ hml (by rw [g0]; exact a) (by rw [g1]; exact b) (by rw [g24]; exact d) (by rw [g25]; exact f) (by rw [v8, v4, v26, n2]; exact c2))
     ·
      rw [if_pos f]
      rcases hop with rfl | rfl
      ·
       exact REF 3 (told_bad25_op1 m _ _ _ _ _ _ hml (by rw [g0]; exact a) (by rw [g1]; exact b) (by rw [g24]; exact d) (by rw [g25]; exact f))
      ·
       exact REF 3 (told_bad25_op2 m _ _ _ _ _ _ hml (by rw [g0]; exact a) (by rw [g1]; exact b) (by rw [g24]; exact d) (by rw [g25]; exact f))
    ·
     rw [if_pos d]
     rcases hop with rfl | rfl
     ·
      exact REF 3 (told_bad24_op1 m _ _ _ _ _ _ hml (by rw [g0]; exact a) (by rw [g1]; exact b) (by rw [g24]; exact d))
     ·
      exact REF 3 (told_bad24_op2 m _ _ _ _ _ _ hml (by rw [g0]; exact a) (by rw [g1]; exact b) (by rw [g24]; exact d))
  ·
   rw [if_pos b]
   rcases hop with rfl | rfl
   ·
    exact REF 3 (told_bad1_op1 m _ _ _ _ _ _ (by omega) (by rw [g0]; exact a) (by rw [g1]; exact b))
   ·
    exact REF 3 (told_bad1_op2 m _ _ _ _ _ _ (by omega) (by rw [g0]; exact a) (by rw [g1]; exact b))
 by_cases a1 : l.getD 40 0 = 135
 ·
  rw [ndRest_op1 l sz a1]
  exact opcase 1 (.inl rfl) a1 (ndRest_op1 l sz a1)
 by_cases a2 : l.getD 40 0 = 136
 ·
  rw [ndRest_op2 l sz a2]
  exact opcase 2 (.inr rfl) a2 (ndRest_op2 l sz a2)
 rw [ndRest_no l sz a1 a2]
 exact REF 3 (told_badop m _ _ _ _ _ _ (by omega) (by rw [g0]; exact a1) (by rw [g0]; exact a2))
structure NdBoth (l : List UInt8) (op : Nat) (fr to ab : Vector UInt8 16) (mac : Vector UInt8 6) (has : Bool) (fl : Vector UInt8 4) (n : Int) : Prop where
 prog : ParsesN l (ndV op fr to ab mac has fl) n
 ref : ParsesR l (ndV op fr to ab mac has fl) n
 good : n = 0 → (op = 1 ∨ op = 2) ∧ (has = false → mac = mac0)
theorem nd_both (l : List UInt8) (hl2 : l.length ≤ 10000) : ∃ op fr to ab mac has fl n, NdBoth l op fr to ab mac has fl n := by
 have bad : ∀ n : Int, n ≠ 0 → ParsesN l zeroNd n → ParsesR l zeroNd n → ∃ op fr to ab mac has fl n, NdBoth l op fr to ab mac has fl n := fun n hn h1 h2 => ⟨0, ip0, ip0, ip0, mac0, false, four0, n, h1, h2, fun h => absurd h hn⟩
 by_cases hl : l.length < 64
 ·
  exact bad 2 (by decide) (ndParse_head l 2 fun X w => headed_short l X w hl) (rparse_short l hl)
 by_cases hh : headOk l = false
 ·
  exact bad 3 (by decide) (ndParse_head l 3 fun X w => headed_form l X w (by omega) hl2 hh) (rparse_form l (by omega) hl2 hh)
 have hh2 : headOk l = true := by simpa using hh
 unfold headOk at hh2
 simp only [Bool.and_eq_true, Bool.or_eq_true, beq_iff_eq] at hh2
 obtain ⟨⟨⟨q0, q6⟩, q7⟩, hs⟩ := hh2
 rw [getD_elem _ _ _ (by omega)] at q0 q6 q7
 have h0 : l[0] = 96 := UInt8.toNat_inj.1 (by show l[0].toNat = 96; omega)
 have h6 : l[6] = 58 := UInt8.toNat_inj.1 (by show l[6].toNat = 58; omega)
 have h7 : l[7] = 255 := UInt8.toNat_inj.1 (by show l[7].toNat = 255; omega)
 by_cases hc : l.length < 40 + numAt l 4
 ·
  rcases hs with hs | hs
  ·
   omega
  ·
   exact bad 2 (by decide) (ndParse_head l 2 fun X w => headed_cut l X w (by omega) 32 hs (.inr rfl) h0 h6 h7 (by omega)) (rparse_cut l (by omega) hs h0 h6 h7 (by omega))
 have hp := ndRest_prog l (by omega) hl2 _ rfl hs h0 h6 h7 (by omega)
 have hr : ParsesR l (ndRest l (numAt l 4)).1 (ndRest l (numAt l 4)).2 := by
  rcases hs with hs | hs
  ·
   rw [hs]
   exact rparse_body24 l (by omega) hl2 hs h0 h6 h7 (by omega) _ _ rfl
  ·
   rw [hs]
   exact rparse_body32 l (by omega) hl2 hs h0 h6 h7 (by omega) _ _ rfl
 have one : ∀ op, (op = 1 ∨ op = 2) → ndRest l (numAt l 4) = ndRest1 op l (numAt l 4) → ∃ op fr to ab mac has fl n, NdBoth l op fr to ab mac has fl n := by
  intro op hop e
  rw [e] at hp hr
  unfold ndRest1 at hp hr
  by_cases b : l.getD 41 0 ≠ 0
  ·
   rw [if_pos b] at hp hr
   exact bad 3 (by decide) hp hr
  rw [if_neg b] at hp hr
  by_cases c : numAt l 4 = 24
  ·
   rw [if_pos c] at hp hr
   by_cases d : bytesN (sumN op (vecAt l 8 16) (vecAt l 24 16) (vecAt l 48 16) mac0 false (vecAt l 44 4)) 2 = List.take 2 (List.drop 42 l)
   ·
    rw [if_pos d] at hp hr
    exact ⟨op, _, _, _, _, _, _, 0, hp, hr, fun _ => ⟨hop, fun _ => rfl⟩⟩
   ·
    rw [if_neg d] at hp hr
    exact bad 4 (by decide) hp hr
  rw [if_neg c] at hp hr
  by_cases f : l.getD 64 0 ≠ UInt8.ofNat op
  ·
   rw [if_pos f] at hp hr
   exact bad 3 (by decide) hp hr
  rw [if_neg f] at hp hr
  by_cases g : l.getD 65 0 ≠ 1
  ·
   rw [if_pos g] at hp hr
   exact bad 3 (by decide) hp hr
  rw [if_neg g] at hp hr
  by_cases d : bytesN (sumN op (vecAt l 8 16) (vecAt l 24 16) (vecAt l 48 16) (vecAt l 66 6) true (vecAt l 44 4)) 2 = List.take 2 (List.drop 42 l)
  ·
   rw [if_pos d] at hp hr
   exact ⟨op, _, _, _, _, _, _, 0, hp, hr, fun _ => ⟨hop, fun h => by cases h⟩⟩
  ·
   rw [if_neg d] at hp hr
   exact bad 4 (by decide) hp hr
 by_cases a1 : l.getD 40 0 = 135
 ·
  exact one 1 (.inl rfl) (ndRest_op1 l _ a1)
 by_cases a2 : l.getD 40 0 = 136
 ·
  exact one 2 (.inr rfl) (ndRest_op2 l _ a2)
 rw [ndRest_no l _ a1 a2] at hp hr
 exact bad 3 (by decide) hp hr
end
end Go.Proofs.YtckckabedgpbiaaGreat
