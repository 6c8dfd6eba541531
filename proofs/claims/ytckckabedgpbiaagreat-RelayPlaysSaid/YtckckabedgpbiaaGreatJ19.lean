/- Texts of this proof, merged: NdQ, NdT, NdX. -/
import Derived.Test.YtckckabedgpbiaaGreatNdJ
import Derived.WalkKit
set_option linter.unusedSimpArgs false
set_option linter.unusedVariables false
set_option maxRecDepth 4000
namespace Go.Proofs.YtckckabedgpbiaaGreat
section
open Go.RowKit
def ip0 : Vector UInt8 16 := Vector.replicate 16 0
def four0 : Vector UInt8 4 := Vector.replicate 4 0
section
set_option maxHeartbeats 1000000 in
theorem nmust_ok (n : Int) (w : World) : Calls Tryz.prog 106 #[.bool true, .int .i64 n] w fun e w' => e = .returned (.tuple #[]) ∧ w = w' := by
 go_enter Tryz.func106, Tryz.ntmps106
 go_wp2
 go_end0
 exact ⟨rfl, rfl⟩
set_option maxHeartbeats 1000000 in
theorem nmust_no (n : Int) (w : World) : Calls Tryz.prog 106 #[.bool false, .int .i64 n] w fun e w' => e = .panicked (errP n) ∧ w = w' := by
 go_enter Tryz.func106, Tryz.ntmps106
 go_wp2
 exact ⟨rfl, rfl, rfl⟩
end
set_option maxRecDepth 20000 in
set_option maxHeartbeats 2000000 in
theorem headed_short (l : List UInt8) (X : Nat) (w : World) (hl : l.length < 64) :
  Calls Tryz.prog 97 #[.string ⟨l.toArray⟩, .pointer (some ⟨X, 0, none⟩)] w fun e w' => e = .panicked (errP 2) ∧ w = w' := by
 have h1 : (l.length : Int) < 64 := by omega
 go_enter Tryz.func97, Tryz.ntmps97
 go_wp2_with fail
 (try rw [decide_eq_false (show ¬ (64 : Int) ≤ l.length by omega)])
 refine (nmust_no _ _).mono ?_
 rintro e w1 ⟨rfl, rfl⟩
 exact ⟨rfl, rfl, rfl⟩
set_option maxRecDepth 20000 in
set_option maxHeartbeats 2000000 in
theorem headed_ok (l : List UInt8) (X : Nat) (op : Int) (fr to ab : Vector UInt8 16) (mac : Vector UInt8 6) (has : Bool) (fl : Vector UInt8 4) (w : World) (hl : 64 ≤ l.length) (hl2 : l.length ≤ 10000) (sz : Nat) (hsz : numAt l 4 = sz) (hs : sz = 24 ∨ sz = 32) (h0 : l[0] = 96) (h6 : l[6] = 58) (h7 : l[7] = 255) (hls : 40 + sz ≤ l.length)
  (hX : row w X = (.int .i64 op :: (u8v fr ++ (u8v to ++ (u8v ab ++ (u8v mac ++ (.bool has :: u8v fl)))))).toArray) (hXw : X < w.heap.size) :
  Calls Tryz.prog 97 #[.string ⟨l.toArray⟩, .pointer (some ⟨X, 0, none⟩)] w fun e w' => e = .returned (.string ⟨((l.drop 40).take sz).toArray⟩) ∧
   Below w.heap.size (w.setRow X (.int .i64 op :: (u8v (vecAt l 8 16) ++ (u8v (vecAt l 24 16) ++ (u8v ab ++ (u8v mac ++ (.bool has :: u8v fl)))))).toArray) w' := by
 have h1 : (64 : Int) ≤ l.length := by omega
 have h2 : (l.length : Int) ≤ 10000 := by omega
 have hls1 : (40 : Int) + sz ≤ l.length := by omega
 go_enter Tryz.func97, Tryz.ntmps97
 go_wp2_with fail
 refine (nmust_ok _ _).mono ?_
 rintro e w1 ⟨rfl, rfl⟩
 go_wp2_with fail
 refine (number_any _ _ (by simp [ByteArray.size]; omega)).mono ?_
 rintro e w1 ⟨rfl, rfl⟩
 rw [show numN (ByteArray.mk (List.take 2 (List.drop 4 l)).toArray).data.toList = sz from hsz]
 have c0 : ((l[0].toNat : Int) == 96) = true := by rw [h0]; rfl
 have c6 : ((l[6].toNat : Int) == 58) = true := by rw [h6]; rfl
 have c7 : ((l[7].toNat : Int) == 255) = true := by rw [h7]; rfl
 have g0 : l[0].toNat = 96 := by rw [h0]; rfl
 have g6 : l[6].toNat = 58 := by rw [h6]; rfl
 have g7 : l[7].toNat = 255 := by rw [h7]; rfl
 have HH := Lib.hid (And.intro hsz (And.intro h0 (And.intro h6 h7)))
 clear hsz h0 h6 h7
 have hXw2 : X < w.heap.size + 1 := by omega
 have hset : ∀ (W : World) (c : Array Value), (row W X).size = 60 → c.size = 60 → row (W.setRow X c) X = c := fun W c h1 h2 => row_setRow_same (by omega) (by omega)
 have hm8 : min 16 (l.length - 8) = 16 := by omega
 have hm24 : min 16 (l.length - 24) = 16 := by omega
 have e8 : u8s (List.take 16 (List.drop 8 l)) = u8v (vecAt l 8 16) := (u8v_vecAt _ _ _ (by omega)).symm
 have e24 : u8s (List.take 16 (List.drop 24 l)) = u8v (vecAt l 24 16) := (u8v_vecAt _ _ _ (by omega)).symm
 rcases hs with rfl | rfl
 ·
  skip
  go_wp2_with fail
  refine (nmust_ok _ _).mono ?_
  rintro e w1 ⟨rfl, rfl⟩
  go_wp2_with fail
  refine (nmust_ok _ _).mono ?_
  rintro e w1 ⟨rfl, rfl⟩
  go_wp2_with fail
  go_region
  all_goals
   go_wp2_with fail
   go_ret
   refine ⟨by simp, ?_⟩
   (repeat (first | exact Below.refl _ _ | refine Below.al ?_ _ | refine Below.drew ?_ | refine Below.sr ?_ _ | refine Below.sc ?_ _))
 ·
  have h72 : (72 : Int) ≤ l.length := by omega
  go_wp2_with fail
  refine (nmust_ok _ _).mono ?_
  rintro e w1 ⟨rfl, rfl⟩
  go_wp2_with fail
  refine (nmust_ok _ _).mono ?_
  rintro e w1 ⟨rfl, rfl⟩
  go_wp2_with fail
  go_region
  all_goals
   go_wp2_with fail
   go_ret
   refine ⟨by simp, ?_⟩
   (repeat (first | exact Below.refl _ _ | refine Below.al ?_ _ | refine Below.drew ?_ | refine Below.sr ?_ _ | refine Below.sc ?_ _))
end
section
open Go.RowKit
set_option maxRecDepth 20000 in
set_option maxHeartbeats 2000000 in
theorem told_small_op1 (m : List UInt8) (X : Nat) (op0 : Int) (fr to ab : Vector UInt8 16) (mac : Vector UInt8 6) (fl : Vector UInt8 4) (w : World) (hl : m.length = 24) (h0 : m[0] = 135) (h1 : m[1] = 0)
  (hs : numAt m 2 = sumN 1 fr to (vecAt m 8 16) mac false (vecAt m 4 4)) (hX : row w X = (.int .i64 op0 :: (u8v fr ++ (u8v to ++ (u8v ab ++ (u8v mac ++ (.bool false :: u8v fl)))))).toArray) (hXw : X < w.heap.size) :
  Calls Tryz.prog 96 #[.string ⟨m.toArray⟩, .pointer (some ⟨X, 0, none⟩)] w fun e w' => e = .returned (.tuple #[]) ∧
   Below w.heap.size (w.setRow X (.int .i64 1 :: (u8v fr ++ (u8v to ++ (u8v (vecAt m 8 16) ++ (u8v mac ++ (.bool false :: u8v (vecAt m 4 4))))))).toArray) w' := by
 have hXw2 : X < w.heap.size + 1 := by omega
 have hset : ∀ (W : World) (c : Array Value), (row W X).size = 60 → c.size = 60 → row (W.setRow X c) X = c := fun W c h1 h2 => row_setRow_same (by omega) (by omega)
 have g0 : m[0].toNat = 135 := by rw [h0]; rfl
 have g1 : m[1].toNat = 0 := by rw [h1]; rfl
 have hm4 : min 4 (m.length - 4) = 4 := by omega
 have hm8 : min 16 (m.length - 8) = 16 := by omega
 have e4 : u8s (List.take 4 (List.drop 4 m)) = u8v (vecAt m 4 4) := (u8v_vecAt _ _ _ (by omega)).symm
 have e8 : u8s (List.take 16 (List.drop 8 m)) = u8v (vecAt m 8 16) := (u8v_vecAt _ _ _ (by omega)).symm
 have e8b : u8s (List.drop 8 m) = u8v (vecAt m 8 16) := by rw [← e8, List.take_of_length_le (by simp; omega)]
 have Hs := ndsum_op1 fr to (vecAt m 8 16) mac false (vecAt m 4 4)
 rw [← hs] at Hs
 unfold ndV at Hs
 have HS := Lib.hid Hs
 have H01 := Lib.hid (And.intro h0 (And.intro h1 hs))
 obtain ⟨sm, hsm⟩ : ∃ s, numAt m 2 = s := ⟨_, rfl⟩
 rw [hsm] at HS
 clear Hs h0 h1 hs
 go_enter Tryz.func96, Tryz.ntmps96
 go_wp2_with fail
 refine (nmust_ok _ _).mono ?_
 rintro e w1 ⟨rfl, rfl⟩
 go_wp2_with fail
 go_region
 all_goals
  go_wp2_with fail
  refine (number_any _ _ (by simp [ByteArray.size]; omega)).mono ?_
  rintro e w1 ⟨rfl, rfl⟩
  rw [show numN (ByteArray.mk (List.take 2 (List.drop 2 m)).toArray).data.toList = sm from hsm]
  go_wp2_with fail
  refine (HS.out _).mono ?_
  rintro e w2 ⟨rfl, hb2⟩
  have z2 := (hb2).size
  try simp at z2
  go_wp2_with fail
  refine (nmust_ok _ _).mono ?_
  rintro e w1 ⟨rfl, rfl⟩
  go_wp2_with fail
  go_end0
  refine ⟨rfl, ?_⟩
  refine Below.trans ?_ (Below.mono hb2 (by first | (simp; done) | (simp; omega) | omega))
  (repeat (first | exact Below.refl _ _ | refine Below.al ?_ _ | refine Below.drew ?_ | refine Below.sr ?_ _ | refine Below.sc ?_ _))
set_option maxRecDepth 20000 in
set_option maxHeartbeats 2000000 in
theorem told_small_op2 (m : List UInt8) (X : Nat) (op0 : Int) (fr to ab : Vector UInt8 16) (mac : Vector UInt8 6) (fl : Vector UInt8 4) (w : World) (hl : m.length = 24) (h0 : m[0] = 136) (h1 : m[1] = 0)
  (hs : numAt m 2 = sumN 2 fr to (vecAt m 8 16) mac false (vecAt m 4 4)) (hX : row w X = (.int .i64 op0 :: (u8v fr ++ (u8v to ++ (u8v ab ++ (u8v mac ++ (.bool false :: u8v fl)))))).toArray) (hXw : X < w.heap.size) :
  Calls Tryz.prog 96 #[.string ⟨m.toArray⟩, .pointer (some ⟨X, 0, none⟩)] w fun e w' => e = .returned (.tuple #[]) ∧
   Below w.heap.size (w.setRow X (.int .i64 2 :: (u8v fr ++ (u8v to ++ (u8v (vecAt m 8 16) ++ (u8v mac ++ (.bool false :: u8v (vecAt m 4 4))))))).toArray) w' := by
 have hXw2 : X < w.heap.size + 1 := by omega
 have hset : ∀ (W : World) (c : Array Value), (row W X).size = 60 → c.size = 60 → row (W.setRow X c) X = c := fun W c h1 h2 => row_setRow_same (by omega) (by omega)
 have g0 : m[0].toNat = 136 := by rw [h0]; rfl
 have g1 : m[1].toNat = 0 := by rw [h1]; rfl
 have hm4 : min 4 (m.length - 4) = 4 := by omega
 have hm8 : min 16 (m.length - 8) = 16 := by omega
 have e4 : u8s (List.take 4 (List.drop 4 m)) = u8v (vecAt m 4 4) := (u8v_vecAt _ _ _ (by omega)).symm
 have e8 : u8s (List.take 16 (List.drop 8 m)) = u8v (vecAt m 8 16) := (u8v_vecAt _ _ _ (by omega)).symm
 have e8b : u8s (List.drop 8 m) = u8v (vecAt m 8 16) := by rw [← e8, List.take_of_length_le (by simp; omega)]
 have Hs := ndsum_op2 fr to (vecAt m 8 16) mac false (vecAt m 4 4)
 rw [← hs] at Hs
 unfold ndV at Hs
 have HS := Lib.hid Hs
 have H01 := Lib.hid (And.intro h0 (And.intro h1 hs))
 obtain ⟨sm, hsm⟩ : ∃ s, numAt m 2 = s := ⟨_, rfl⟩
 rw [hsm] at HS
 clear Hs h0 h1 hs
 go_enter Tryz.func96, Tryz.ntmps96
 go_wp2_with fail
 refine (nmust_ok _ _).mono ?_
 rintro e w1 ⟨rfl, rfl⟩
 go_wp2_with fail
 go_region
 all_goals
  go_wp2_with fail
  refine (number_any _ _ (by simp [ByteArray.size]; omega)).mono ?_
  rintro e w1 ⟨rfl, rfl⟩
  rw [show numN (ByteArray.mk (List.take 2 (List.drop 2 m)).toArray).data.toList = sm from hsm]
  go_wp2_with fail
  refine (HS.out _).mono ?_
  rintro e w2 ⟨rfl, hb2⟩
  have z2 := (hb2).size
  try simp at z2
  go_wp2_with fail
  refine (nmust_ok _ _).mono ?_
  rintro e w1 ⟨rfl, rfl⟩
  go_wp2_with fail
  go_end0
  refine ⟨rfl, ?_⟩
  refine Below.trans ?_ (Below.mono hb2 (by first | (simp; done) | (simp; omega) | omega))
  (repeat (first | exact Below.refl _ _ | refine Below.al ?_ _ | refine Below.drew ?_ | refine Below.sr ?_ _ | refine Below.sc ?_ _))
set_option maxRecDepth 20000 in
set_option maxHeartbeats 2000000 in
theorem told_large_op1 (m : List UInt8) (X : Nat) (op0 : Int) (fr to ab : Vector UInt8 16) (mac : Vector UInt8 6) (fl : Vector UInt8 4) (w : World) (hl : m.length = 32) (h0 : m[0] = 135) (h1 : m[1] = 0) (h24 : m[24] = 1) (h25 : m[25] = 1)
  (hs : numAt m 2 = sumN 1 fr to (vecAt m 8 16) (vecAt m 26 6) true (vecAt m 4 4)) (hX : row w X = (.int .i64 op0 :: (u8v fr ++ (u8v to ++ (u8v ab ++ (u8v mac ++ (.bool false :: u8v fl)))))).toArray) (hXw : X < w.heap.size) :
  Calls Tryz.prog 96 #[.string ⟨m.toArray⟩, .pointer (some ⟨X, 0, none⟩)] w fun e w' => e = .returned (.tuple #[]) ∧
   Below w.heap.size (w.setRow X (.int .i64 1 :: (u8v fr ++ (u8v to ++ (u8v (vecAt m 8 16) ++ (u8v (vecAt m 26 6) ++ (.bool true :: u8v (vecAt m 4 4))))))).toArray) w' := by
 have hXw2 : X < w.heap.size + 1 := by omega
 have hset : ∀ (W : World) (c : Array Value), (row W X).size = 60 → c.size = 60 → row (W.setRow X c) X = c := fun W c h1 h2 => row_setRow_same (by omega) (by omega)
 have g0 : m[0].toNat = 135 := by rw [h0]; rfl
 have g1 : m[1].toNat = 0 := by rw [h1]; rfl
 have hm4 : min 4 (m.length - 4) = 4 := by omega
 have hm8 : min 16 (m.length - 8) = 16 := by omega
 have e4 : u8s (List.take 4 (List.drop 4 m)) = u8v (vecAt m 4 4) := (u8v_vecAt _ _ _ (by omega)).symm
 have e8 : u8s (List.take 16 (List.drop 8 m)) = u8v (vecAt m 8 16) := (u8v_vecAt _ _ _ (by omega)).symm
 have g24 : m[24].toNat = 1 := by rw [h24]; rfl
 have g25 : m[25].toNat = 1 := by rw [h25]; rfl
 have hXw3 : X < w.heap.size + 1 + 1 := by omega
 have hm26 : min 6 (m.length - 26) = 6 := by omega
 have e26 : u8s (List.drop 26 m) = u8v (vecAt m 26 6) := by rw [u8v_vecAt _ _ _ (by omega), List.take_of_length_le (by simp; omega)]
 have Hs := ndsum_op1 fr to (vecAt m 8 16) (vecAt m 26 6) true (vecAt m 4 4)
 rw [← hs] at Hs
 unfold ndV at Hs
 have HS := Lib.hid Hs
 have H01 := Lib.hid (And.intro h0 (And.intro h1 (And.intro h24 (And.intro h25 hs))))
 obtain ⟨sm, hsm⟩ : ∃ s, numAt m 2 = s := ⟨_, rfl⟩
 rw [hsm] at HS
 clear Hs h0 h1 hs h24 h25
 go_enter Tryz.func96, Tryz.ntmps96
 go_wp2_with fail
 refine (nmust_ok _ _).mono ?_
 rintro e w1 ⟨rfl, rfl⟩
 go_wp2_with fail
 go_region
 all_goals
  go_wp2_with fail
  refine wp_region_beginS (S := Held (fun w' => row w' X = (.int .i64 1 :: (u8v fr ++ (u8v to ++ (u8v (vecAt m 8 16) ++ (u8v mac ++ (.bool false :: u8v (vecAt m 4 4))))))).toArray)) rfl ?_ (fun hS => ?_)
  ·
   unfold Held
   simp [go_sem, hXw, hXw2, hXw3, hset, hX]
  refine rp 0 hS ?_
  refine rp 1 hS ?_
  refine rp 2 hS ?_
  refine rp 3 hS ?_
  refine rp 4 hS ?_
  refine rp 5 hS ?_
  refine rp 6 hS ?_
  refine rp 7 hS ?_
  refine rp 8 hS ?_
  refine rp 9 hS ?_
  refine rp 10 hS ?_
  refine rp 11 hS ?_
  refine rp 12 hS ?_
  have hS2 := hS
  unfold Held at hS2
  refine wpAnyH_all (rs := [13]) (by kernel_rfl) (by simp) ?_
  intro i hi
  obtain rfl := List.mem_singleton.1 hi
  refine wpOp_step rfl (fun K hK => ?_)
  clear hi hS
  go_simp
  refine (nmust_ok _ _).mono ?_
  rintro e w1 ⟨rfl, rfl⟩
  refine hK _ _ (wpAnyH_same hS2 (fun hS => ?_))
  clear hK K
  refine wpAnyH_done (by kernel_rfl) ?_ _
  go_wp2_with fail
  refine (number_any _ _ (by simp [ByteArray.size]; omega)).mono ?_
  rintro e w1 ⟨rfl, rfl⟩
  rw [show numN (ByteArray.mk (List.take 2 (List.drop 2 m)).toArray).data.toList = sm from hsm]
  go_wp2_with fail
  refine (HS.out _).mono ?_
  rintro e w2 ⟨rfl, hb2⟩
  have z2 := (hb2).size
  try simp at z2
  go_wp2_with fail
  refine (nmust_ok _ _).mono ?_
  rintro e w1 ⟨rfl, rfl⟩
  go_wp2_with fail
  go_end0
  refine ⟨rfl, ?_⟩
  refine Below.trans ?_ (Below.mono hb2 (by first | (simp; done) | (simp; omega) | omega))
  (repeat (first | exact Below.refl _ _ | refine Below.al ?_ _ | refine Below.drew ?_ | refine Below.sr ?_ _ | refine Below.sc ?_ _))
set_option maxRecDepth 20000 in
set_option maxHeartbeats 2000000 in
theorem told_large_op2 (m : List UInt8) (X : Nat) (op0 : Int) (fr to ab : Vector UInt8 16) (mac : Vector UInt8 6) (fl : Vector UInt8 4) (w : World) (hl : m.length = 32) (h0 : m[0] = 136) (h1 : m[1] = 0) (h24 : m[24] = 2) (h25 : m[25] = 1)
  (hs : numAt m 2 = sumN 2 fr to (vecAt m 8 16) (vecAt m 26 6) true (vecAt m 4 4)) (hX : row w X = (.int .i64 op0 :: (u8v fr ++ (u8v to ++ (u8v ab ++ (u8v mac ++ (.bool false :: u8v fl)))))).toArray) (hXw : X < w.heap.size) :
  Calls Tryz.prog 96 #[.string ⟨m.toArray⟩, .pointer (some ⟨X, 0, none⟩)] w fun e w' => e = .returned (.tuple #[]) ∧
   Below w.heap.size (w.setRow X (.int .i64 2 :: (u8v fr ++ (u8v to ++ (u8v (vecAt m 8 16) ++ (u8v (vecAt m 26 6) ++ (.bool true :: u8v (vecAt m 4 4))))))).toArray) w' := by
 have hXw2 : X < w.heap.size + 1 := by omega
 have hset : ∀ (W : World) (c : Array Value), (row W X).size = 60 → c.size = 60 → row (W.setRow X c) X = c := fun W c h1 h2 => row_setRow_same (by omega) (by omega)
 have g0 : m[0].toNat = 136 := by rw [h0]; rfl
 have g1 : m[1].toNat = 0 := by rw [h1]; rfl
 have hm4 : min 4 (m.length - 4) = 4 := by omega
 have hm8 : min 16 (m.length - 8) = 16 := by omega
 have e4 : u8s (List.take 4 (List.drop 4 m)) = u8v (vecAt m 4 4) := (u8v_vecAt _ _ _ (by omega)).symm
 have e8 : u8s (List.take 16 (List.drop 8 m)) = u8v (vecAt m 8 16) := (u8v_vecAt _ _ _ (by omega)).symm
 have g24 : m[24].toNat = 2 := by rw [h24]; rfl
 have g25 : m[25].toNat = 1 := by rw [h25]; rfl
 have hXw3 : X < w.heap.size + 1 + 1 := by omega
 have hm26 : min 6 (m.length - 26) = 6 := by omega
 have e26 : u8s (List.drop 26 m) = u8v (vecAt m 26 6) := by rw [u8v_vecAt _ _ _ (by omega), List.take_of_length_le (by simp; omega)]
 have Hs := ndsum_op2 fr to (vecAt m 8 16) (vecAt m 26 6) true (vecAt m 4 4)
 rw [← hs] at Hs
 unfold ndV at Hs
 have HS := Lib.hid Hs
 have H01 := Lib.hid (And.intro h0 (And.intro h1 (And.intro h24 (And.intro h25 hs))))
 obtain ⟨sm, hsm⟩ : ∃ s, numAt m 2 = s := ⟨_, rfl⟩
 rw [hsm] at HS
 clear Hs h0 h1 hs h24 h25
 go_enter Tryz.func96, Tryz.ntmps96
 go_wp2_with fail
 refine (nmust_ok _ _).mono ?_
 rintro e w1 ⟨rfl, rfl⟩
 go_wp2_with fail
 go_region
 all_goals
  go_wp2_with fail
  refine wp_region_beginS (S := Held (fun w' => row w' X = (.int .i64 2 :: (u8v fr ++ (u8v to ++ (u8v (vecAt m 8 16) ++ (u8v mac ++ (.bool false :: u8v (vecAt m 4 4))))))).toArray)) rfl ?_ (fun hS => ?_)
  ·
   unfold Held
   simp [go_sem, hXw, hXw2, hXw3, hset, hX]
  refine rp 0 hS ?_
  refine rp 1 hS ?_
  refine rp 2 hS ?_
  refine rp 3 hS ?_
  refine rp 4 hS ?_
  refine rp 5 hS ?_
  refine rp 6 hS ?_
  refine rp 7 hS ?_
  refine rp 8 hS ?_
  refine rp 9 hS ?_
  refine rp 10 hS ?_
  refine rp 11 hS ?_
  refine rp 12 hS ?_
  have hS2 := hS
  unfold Held at hS2
  refine wpAnyH_all (rs := [13]) (by kernel_rfl) (by simp) ?_
  intro i hi
  obtain rfl := List.mem_singleton.1 hi
  refine wpOp_step rfl (fun K hK => ?_)
  clear hi hS
  go_simp
  refine (nmust_ok _ _).mono ?_
  rintro e w1 ⟨rfl, rfl⟩
  refine hK _ _ (wpAnyH_same hS2 (fun hS => ?_))
  clear hK K
  refine wpAnyH_done (by kernel_rfl) ?_ _
  go_wp2_with fail
  refine (number_any _ _ (by simp [ByteArray.size]; omega)).mono ?_
  rintro e w1 ⟨rfl, rfl⟩
  rw [show numN (ByteArray.mk (List.take 2 (List.drop 2 m)).toArray).data.toList = sm from hsm]
  go_wp2_with fail
  refine (HS.out _).mono ?_
  rintro e w2 ⟨rfl, hb2⟩
  have z2 := (hb2).size
  try simp at z2
  go_wp2_with fail
  refine (nmust_ok _ _).mono ?_
  rintro e w1 ⟨rfl, rfl⟩
  go_wp2_with fail
  go_end0
  refine ⟨rfl, ?_⟩
  refine Below.trans ?_ (Below.mono hb2 (by first | (simp; done) | (simp; omega) | omega))
  (repeat (first | exact Below.refl _ _ | refine Below.al ?_ _ | refine Below.drew ?_ | refine Below.sr ?_ _ | refine Below.sc ?_ _))
end
section
open Go.RowKit
def refused (m : List UInt8) (n : Int) (fr to ab : Vector UInt8 16) (mac : Vector UInt8 6) (fl : Vector UInt8 4) (op0 : Int) : Prop :=
 ∀ (X : Nat) (w : World), row w X = (.int .i64 op0 :: (u8v fr ++ (u8v to ++ (u8v ab ++ (u8v mac ++ (.bool false :: u8v fl)))))).toArray → X < w.heap.size →
  Calls Tryz.prog 96 #[.string ⟨m.toArray⟩, .pointer (some ⟨X, 0, none⟩)] w fun e w' => e = .panicked (errP n) ∧ ∃ xs : List Value, xs.length = 60 ∧ Below w.heap.size (w.setRow X xs.toArray) w'
section
variable (m : List UInt8) (fr to ab : Vector UInt8 16) (mac : Vector UInt8 6) (fl : Vector UInt8 4) (op0 : Int)
set_option maxRecDepth 20000 in
set_option maxHeartbeats 2000000 in
theorem told_badop (hl : 24 ≤ m.length) (h1 : m[0] ≠ 135) (h2 : m[0] ≠ 136) : refused m 3 fr to ab mac fl op0 := by
 intro X w hX hXw
 have hXw2 : X < w.heap.size + 1 := by omega
 have b0 : m[0].toNat < 256 := m[0].toNat_lt
 have n1 : m[0].toNat ≠ 135 := fun h => h1 (UInt8.toNat_inj.1 h)
 have n2 : m[0].toNat ≠ 136 := fun h => h2 (UInt8.toNat_inj.1 h)
 obtain ⟨c, hc⟩ : ∃ c, m[0].toNat = c := ⟨_, rfl⟩
 rw [hc] at b0 n1 n2
 obtain ⟨o, ho⟩ : ∃ o, (c : Int) - 134 = o := ⟨_, rfl⟩
 have o1 : (o == 1) = false := by simp; omega
 have o2 : (o == 2) = false := by simp; omega
 have w1 : wrap64 (c : Int) = c := by unfold wrap64; omega
 have w2 : wrap64 o = o := by unfold wrap64; omega
 clear h1 h2 n1 n2 b0
 go_enter Tryz.func96, Tryz.ntmps96
 go_wp2_with fail
 refine (nmust_no _ _).mono ?_
 rintro e w1 ⟨rfl, rfl⟩
 exact ⟨rfl, rfl, .int .i64 o :: (u8v fr ++ (u8v to ++ (u8v ab ++ (u8v mac ++ (.bool false :: u8v fl))))), by simp, Below.refl _ _⟩
set_option maxRecDepth 20000 in
set_option maxHeartbeats 2000000 in
theorem told_bad1_op1 (hl : 24 ≤ m.length) (h0 : m[0] = 135) (h1 : m[1] ≠ 0) : refused m 3 fr to ab mac fl op0 := by
 intro X w hX hXw
 have hXw2 : X < w.heap.size + 1 := by omega
 have g0 : m[0].toNat = 135 := by rw [h0]; rfl
 have n1 : m[1].toNat ≠ 0 := fun h => h1 (UInt8.toNat_inj.1 h)
 obtain ⟨c, hc⟩ : ∃ c, m[1].toNat = c := ⟨_, rfl⟩
 rw [hc] at n1
 have c1 : ((c : Int) == 0) = false := by simp; omega
 clear h0 h1 n1
 go_enter Tryz.func96, Tryz.ntmps96
 go_wp2_with fail
 refine (nmust_no _ _).mono ?_
 rintro e w1 ⟨rfl, rfl⟩
 exact ⟨rfl, rfl, .int .i64 1 :: (u8v fr ++ (u8v to ++ (u8v ab ++ (u8v mac ++ (.bool false :: u8v fl))))), by simp, Below.refl _ _⟩
set_option maxRecDepth 20000 in
set_option maxHeartbeats 2000000 in
theorem told_bad1_op2 (hl : 24 ≤ m.length) (h0 : m[0] = 136) (h1 : m[1] ≠ 0) : refused m 3 fr to ab mac fl op0 := by
 intro X w hX hXw
 have hXw2 : X < w.heap.size + 1 := by omega
 have g0 : m[0].toNat = 136 := by rw [h0]; rfl
 have n1 : m[1].toNat ≠ 0 := fun h => h1 (UInt8.toNat_inj.1 h)
 obtain ⟨c, hc⟩ : ∃ c, m[1].toNat = c := ⟨_, rfl⟩
 rw [hc] at n1
 have c1 : ((c : Int) == 0) = false := by simp; omega
 clear h0 h1 n1
 go_enter Tryz.func96, Tryz.ntmps96
 go_wp2_with fail
 refine (nmust_no _ _).mono ?_
 rintro e w1 ⟨rfl, rfl⟩
 exact ⟨rfl, rfl, .int .i64 2 :: (u8v fr ++ (u8v to ++ (u8v ab ++ (u8v mac ++ (.bool false :: u8v fl))))), by simp, Below.refl _ _⟩
end
end
end Go.Proofs.YtckckabedgpbiaaGreat
