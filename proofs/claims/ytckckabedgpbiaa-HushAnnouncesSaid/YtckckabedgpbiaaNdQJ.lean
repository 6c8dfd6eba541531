/- Contracts of package nd: heads and messages, taken. -/
import Derived.Test.YtckckabedgpbiaaNdJ
import Derived.WalkKit
set_option linter.unusedSimpArgs false
set_option linter.unusedVariables false
set_option maxRecDepth 4000
namespace Go.Proofs.Ytckckabedgpbiaa
open Go.RowKit
def ip0 : Vector UInt8 16 := Vector.replicate 16 0
def four0 : Vector UInt8 4 := Vector.replicate 4 0
section
set_option maxHeartbeats 1000000 in
theorem nmust_ok (n : Int) (w : World) : Calls Try.prog 99 #[.bool true, .int .i64 n] w fun e w' => e = .returned (.tuple #[]) ∧ w = w' := by
 go_enter Try.func99, Try.ntmps99
 go_wp2
 go_end0
 exact ⟨rfl, rfl⟩
set_option maxHeartbeats 1000000 in
theorem nmust_no (n : Int) (w : World) : Calls Try.prog 99 #[.bool false, .int .i64 n] w fun e w' => e = .panicked (errP n) ∧ w = w' := by
 go_enter Try.func99, Try.ntmps99
 go_wp2
 exact ⟨rfl, rfl, rfl⟩
end
set_option maxRecDepth 20000 in
set_option maxHeartbeats 2000000 in
theorem headed_short (l : List UInt8) (X : Nat) (w : World) (hl : l.length < 64) :
  Calls Try.prog 80 #[.string ⟨l.toArray⟩, .pointer (some ⟨X, 0, none⟩)] w fun e w' => e = .panicked (errP 2) ∧ w = w' := by
 have h1 : (l.length : Int) < 64 := by omega
 go_enter Try.func80, Try.ntmps80
 go_wp2_with fail
 (try rw [decide_eq_false (show ¬ (64 : Int) ≤ l.length by omega)])
 refine (nmust_no _ _).mono ?_
 rintro e w1 ⟨rfl, rfl⟩
 exact ⟨rfl, rfl, rfl⟩
set_option maxRecDepth 20000 in
set_option maxHeartbeats 2000000 in
theorem headed_ok (l : List UInt8) (X : Nat) (op : Int) (fr to ab : Vector UInt8 16) (mac : Vector UInt8 6) (has : Bool) (fl : Vector UInt8 4) (w : World) (hl : 64 ≤ l.length) (hl2 : l.length ≤ 10000) (sz : Nat) (hsz : numAt l 4 = sz) (hs : sz = 24 ∨ sz = 32) (h0 : l[0] = 96) (h6 : l[6] = 58) (h7 : l[7] = 255) (hls : 40 + sz ≤ l.length)
  (hX : row w X = (.int .i64 op :: (u8v fr ++ (u8v to ++ (u8v ab ++ (u8v mac ++ (.bool has :: u8v fl)))))).toArray) (hXw : X < w.heap.size) :
  Calls Try.prog 80 #[.string ⟨l.toArray⟩, .pointer (some ⟨X, 0, none⟩)] w fun e w' => e = .returned (.string ⟨((l.drop 40).take sz).toArray⟩) ∧
   Below w.heap.size (w.setRow X (.int .i64 op :: (u8v (vecAt l 8 16) ++ (u8v (vecAt l 24 16) ++ (u8v ab ++ (u8v mac ++ (.bool has :: u8v fl)))))).toArray) w' := by
 have h1 : (64 : Int) ≤ l.length := by omega
 have h2 : (l.length : Int) ≤ 10000 := by omega
 have hls1 : (40 : Int) + sz ≤ l.length := by omega
 go_enter Try.func80, Try.ntmps80
 go_wp2_with fail
 refine (nmust_ok _ _).mono ?_
 rintro e w1 ⟨rfl, rfl⟩
 go_wp2_with fail
 refine (number_any _ _ (by simp [ByteArray.size]; omega)).mono ?_
 rintro e w1 ⟨rfl, rfl⟩
 rw [show numN (ByteArray.mk (List.take 2 (List.drop 4 l)).toArray).data.toList = sz from hsz]
 have c0 : ((l[0].toNat : Int) == 96) = true := by rw [h0]; rfl
 have c6 : ((l[6].toNat : Int) == 58) = true := by rw [h6]; rfl
 have c7 : ((l[7].toNat : Int) == 255) = true := by rw [h7]; rfl
 have g0 : l[0].toNat = 96 := by rw [h0]; rfl
 have g6 : l[6].toNat = 58 := by rw [h6]; rfl
 have g7 : l[7].toNat = 255 := by rw [h7]; rfl
 have HH := Lib.hid (And.intro hsz (And.intro h0 (And.intro h6 h7)))
 clear hsz h0 h6 h7
 have hXw2 : X < w.heap.size + 1 := by omega
 have hset : ∀ (W : World) (c : Array Value), (row W X).size = 60 → c.size = 60 → row (W.setRow X c) X = c := fun W c h1 h2 => row_setRow_same (by omega) (by omega)
 have hm8 : min 16 (l.length - 8) = 16 := by omega
 have hm24 : min 16 (l.length - 24) = 16 := by omega
 have e8 : u8s (List.take 16 (List.drop 8 l)) = u8v (vecAt l 8 16) := (u8v_vecAt _ _ _ (by omega)).symm
 have e24 : u8s (List.take 16 (List.drop 24 l)) = u8v (vecAt l 24 16) := (u8v_vecAt _ _ _ (by omega)).symm
 rcases hs with rfl | rfl
 ·
  skip
  go_wp2_with fail
  refine (nmust_ok _ _).mono ?_
  rintro e w1 ⟨rfl, rfl⟩
  go_wp2_with fail
  refine (nmust_ok _ _).mono ?_
  rintro e w1 ⟨rfl, rfl⟩
  go_wp2_with fail
  go_region
  all_goals
   go_wp2_with fail
   go_ret
   refine ⟨by simp, ?_⟩
   (repeat (first | exact Below.refl _ _ | refine Below.al ?_ _ | refine Below.drew ?_ | refine Below.sr ?_ _ | refine Below.sc ?_ _))
 ·
  have h72 : (72 : Int) ≤ l.length := by omega
  go_wp2_with fail
  refine (nmust_ok _ _).mono ?_
  rintro e w1 ⟨rfl, rfl⟩
  go_wp2_with fail
  refine (nmust_ok _ _).mono ?_
  rintro e w1 ⟨rfl, rfl⟩
  go_wp2_with fail
  go_region
  all_goals
   go_wp2_with fail
   go_ret
   refine ⟨by simp, ?_⟩
   (repeat (first | exact Below.refl _ _ | refine Below.al ?_ _ | refine Below.drew ?_ | refine Below.sr ?_ _ | refine Below.sc ?_ _))
end Go.Proofs.Ytckckabedgpbiaa
