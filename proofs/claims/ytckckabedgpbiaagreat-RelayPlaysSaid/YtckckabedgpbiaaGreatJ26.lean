/- Texts of this proof, merged: NdX4, NdX5, NdZ. -/
import Derived.Test.YtckckabedgpbiaaGreatJ25
import Derived.Test.YtckckabedgpbiaaGreatJ21
set_option linter.unusedSimpArgs false
set_option linter.unusedVariables false
set_option maxRecDepth 4000
namespace Go.Proofs.YtckckabedgpbiaaGreat
section
open Go.RowKit
end
section
open Go.RowKit
set_option maxRecDepth 20000 in
set_option maxHeartbeats 2000000 in
theorem ndParse_refused (l m : List UInt8) (n : Int) (w : World) (hl : 64 ≤ l.length) (hl2 : l.length ≤ 10000) (sz : Nat) (hsz : numAt l 4 = sz) (hs2 : sz = 24 ∨ sz = 32) (hls : 40 + sz ≤ l.length) (h0 : l[0] = 96) (h6 : l[6] = 58) (h7 : l[7] = 255)
  (hm : (l.drop 40).take sz = m) (H : refused m n (vecAt l 8 16) (vecAt l 24 16) ip0 mac0 four0 0) :
  Calls Tryz.prog 70 #[.string ⟨l.toArray⟩] w fun e w' => e = .returned (.tuple #[.agg (ndV 0 ip0 ip0 ip0 mac0 false four0).toArray, .int .i64 n]) ∧ Below w.heap.size w w' := by
 have hmf : ∀ (fn : Fn) (first cap : Array Value) (w : World), (Instr.makeFunc fn first cap).run Tryz.prog w = .ok (.func fn first cap) w := fun _ _ _ _ => rfl
 go_enter_defers Tryz.func70, Tryz.ntmps70
 go_wp2_with fail
 have st0 := ndSt_start w
 refine (headed_ok l w.heap.size 0 ip0 ip0 ip0 mac0 false four0 _ hl hl2 sz hsz hs2 h0 h6 h7 hls st0.rX (by have := st0.hs; omega)).mono ?_
 rintro e w1 ⟨rfl, hb1⟩
 have st1 := (st0.setX (ndV 0 (vecAt l 8 16) (vecAt l 24 16) ip0 mac0 false four0) (by simp [ndV])).below (by simpa [ndV] using hb1)
 rw [hm]
 go_wp2_with fail
 refine (H w.heap.size _ st1.rX (by have := st1.hs; omega)).mono ?_
 rintro e w2 ⟨rfl, xs, hxs, hb2⟩
 have st2 := (st1.setX xs hxs).below (by simpa using hb2)
 exact st2.fail _ _ n rfl rfl rfl
end
section
open Go.RowKit
def headOk (l : List UInt8) : Bool := (((l.getD 0 0).toNat : Int) == 96) && (((l.getD 6 0).toNat : Int) == 58) && (((l.getD 7 0).toNat : Int) == 255) && (numAt l 4 == 24 || numAt l 4 == 32)
set_option maxRecDepth 20000 in
set_option maxHeartbeats 2000000 in
theorem headed_form (l : List UInt8) (X : Nat) (w : World) (hl : 64 ≤ l.length) (hl2 : l.length ≤ 10000) (h : headOk l = false) :
  Calls Tryz.prog 97 #[.string ⟨l.toArray⟩, .pointer (some ⟨X, 0, none⟩)] w fun e w' => e = .panicked (errP 3) ∧ w = w' := by
 have h1 : (64 : Int) ≤ l.length := by omega
 have h2 : (l.length : Int) ≤ 10000 := by omega
 obtain ⟨sz, hsz⟩ : ∃ s, numAt l 4 = s := ⟨_, rfl⟩
 unfold headOk at h
 rw [hsz] at h
 have g0 : l.getD 0 0 = l[0] := by simp [List.getD_eq_getElem?_getD, show 0 < l.length by omega]
 have g6 : l.getD 6 0 = l[6] := by simp [List.getD_eq_getElem?_getD, show 6 < l.length by omega]
 have g7 : l.getD 7 0 = l[7] := by simp [List.getD_eq_getElem?_getD, show 7 < l.length by omega]
 rw [g0, g6, g7] at h
 clear g0 g6 g7
 have HSZ := Lib.hid hsz
 clear hsz
 go_enter Tryz.func97, Tryz.ntmps97
 go_wp2_with fail
 refine (nmust_ok _ _).mono ?_
 rintro e w1 ⟨rfl, rfl⟩
 go_wp2_with fail
 refine (number_any _ _ (by simp [ByteArray.size]; omega)).mono ?_
 rintro e w1 ⟨rfl, rfl⟩
 rw [show numN (ByteArray.mk (List.take 2 (List.drop 4 l)).toArray).data.toList = sz from HSZ.out]
 have szI : ((sz : Int) == 24) = (sz == 24) := by rw [Bool.eq_iff_iff]; simp only [beq_iff_eq]; omega
 have szJ : ((sz : Int) == 32) = (sz == 32) := by rw [Bool.eq_iff_iff]; simp only [beq_iff_eq]; omega
 rw [← szI, ← szJ] at h
 clear szI szJ
 by_cases c0 : ((l[0].toNat : Int) == 96) = true
 ·
  by_cases c6 : ((l[6].toNat : Int) == 58) = true
  ·
   by_cases c7 : ((l[7].toNat : Int) == 255) = true
   ·
    rw [c0, c6, c7] at h
    simp only [Bool.true_and, Bool.or_eq_false_iff] at h
    obtain ⟨h24, h32⟩ := h
    go_wp2_with fail
    refine (nmust_no _ _).mono ?_
    rintro e w1 ⟨rfl, rfl⟩
    exact ⟨rfl, rfl, rfl⟩
   ·
    have c7' : ((l[7].toNat : Int) == 255) = false := by simpa using c7
    clear h c7
    go_wp2_with fail
    refine (nmust_no _ _).mono ?_
    rintro e w1 ⟨rfl, rfl⟩
    exact ⟨rfl, rfl, rfl⟩
  ·
   have c6' : ((l[6].toNat : Int) == 58) = false := by simpa using c6
   clear h c6
   go_wp2_with fail
   refine (nmust_no _ _).mono ?_
   rintro e w1 ⟨rfl, rfl⟩
   exact ⟨rfl, rfl, rfl⟩
 ·
  have c0' : ((l[0].toNat : Int) == 96) = false := by simpa using c0
  clear h c0
  go_wp2_with fail
  refine (nmust_no _ _).mono ?_
  rintro e w1 ⟨rfl, rfl⟩
  exact ⟨rfl, rfl, rfl⟩
set_option maxRecDepth 20000 in
set_option maxHeartbeats 2000000 in
theorem headed_cut (l : List UInt8) (X : Nat) (w : World) (hl : 64 ≤ l.length) (sz : Nat) (hsz : numAt l 4 = sz) (hs : sz = 24 ∨ sz = 32) (h0 : l[0] = 96) (h6 : l[6] = 58) (h7 : l[7] = 255) (hls : l.length < 40 + sz) :
  Calls Tryz.prog 97 #[.string ⟨l.toArray⟩, .pointer (some ⟨X, 0, none⟩)] w fun e w' => e = .panicked (errP 2) ∧ w = w' := by
 obtain rfl : sz = 32 := by omega
 have h1 : (64 : Int) ≤ l.length := by omega
 have h2 : (l.length : Int) < 72 := by omega
 have c0 : ((l[0].toNat : Int) == 96) = true := by rw [h0]; rfl
 have c6 : ((l[6].toNat : Int) == 58) = true := by rw [h6]; rfl
 have c7 : ((l[7].toNat : Int) == 255) = true := by rw [h7]; rfl
 have g0 : l[0].toNat = 96 := by rw [h0]; rfl
 have g6 : l[6].toNat = 58 := by rw [h6]; rfl
 have g7 : l[7].toNat = 255 := by rw [h7]; rfl
 have HH := Lib.hid (And.intro hsz (And.intro h0 (And.intro h6 h7)))
 clear hsz h0 h6 h7 hs
 go_enter Tryz.func97, Tryz.ntmps97
 go_wp2_with fail
 refine (nmust_ok _ _).mono ?_
 rintro e w1 ⟨rfl, rfl⟩
 go_wp2_with fail
 refine (number_any _ _ (by simp [ByteArray.size]; omega)).mono ?_
 rintro e w1 ⟨rfl, rfl⟩
 rw [show numN (ByteArray.mk (List.take 2 (List.drop 4 l)).toArray).data.toList = 32 from HH.out.1]
 go_wp2_with fail
 refine (nmust_ok _ _).mono ?_
 rintro e w1 ⟨rfl, rfl⟩
 go_wp2_with fail
 (try rw [decide_eq_false (show ¬ (72 : Int) ≤ l.length by omega)])
 refine (nmust_no _ _).mono ?_
 rintro e w1 ⟨rfl, rfl⟩
 exact ⟨rfl, rfl, rfl⟩
def ParsesN (l : List UInt8) (cs : List Value) (n : Int) : Prop := ∀ w, Calls Tryz.prog 70 #[.string ⟨l.toArray⟩] w fun e w' => e = .returned (.tuple #[.agg cs.toArray, .int .i64 n]) ∧ Below w.heap.size w w'
theorem ndParse_head (l : List UInt8) (n : Int) (H : ∀ X w, Calls Tryz.prog 97 #[.string ⟨l.toArray⟩, .pointer (some ⟨X, 0, none⟩)] w fun e w' => e = .panicked (errP n) ∧ w = w') : ParsesN l zeroNd n := by
 intro w
 have hmf : ∀ (fn : Fn) (first cap : Array Value) (w : World), (Instr.makeFunc fn first cap).run Tryz.prog w = .ok (.func fn first cap) w := fun _ _ _ _ => rfl
 go_enter_defers Tryz.func70, Tryz.ntmps70
 go_wp2_with fail
 have st0 := ndSt_start w
 refine (H _ _).mono ?_
 rintro e w1 ⟨rfl, rfl⟩
 exact st0.fail _ _ n rfl rfl rfl
end
end Go.Proofs.YtckckabedgpbiaaGreat
