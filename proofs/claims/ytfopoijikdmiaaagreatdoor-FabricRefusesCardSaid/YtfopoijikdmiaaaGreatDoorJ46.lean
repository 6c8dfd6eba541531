/- Texts of this proof, merged: NdX3, NdX4, NdX2, NdX5, NdZ, NdK. -/
import Derived.Test.YtfopoijikdmiaaaGreatDoorJ42
import Derived.Test.YtfopoijikdmiaaaGreatDoorRegJ
import Derived.Test.YtfopoijikdmiaaaGreatDoorJ43
set_option linter.unusedSimpArgs false
set_option linter.unusedVariables false
set_option maxHeartbeats 8000000
set_option maxRecDepth 20000
namespace Go.Proofs.YtfopoijikdmiaaaGreatDoor
section
open Go.RowKit
section
variable (m : List UInt8) (fr to ab : Vector UInt8 16) (mac : Vector UInt8 6) (fl : Vector UInt8 4) (op0 : Int)
theorem told_bad24_op1 (hl : m.length = 32) (h0 : m[0] = 135) (h1 : m[1] = 0) (h24 : m[24] ≠ 1) : refused m 3 fr to ab mac fl op0 := by
 intro X w hX hXw
 have hXw2 : X < w.heap.size + 1 := by omega
 have hset : ∀ (W : World) (c : Array Value), (row W X).size = 60 → c.size = 60 → row (W.setRow X c) X = c := fun W c h1 h2 => row_setRow_same (by omega) (by omega)
 have g0 : m[0].toNat = 135 := by rw [h0]; rfl
 have g1 : m[1].toNat = 0 := by rw [h1]; rfl
 have hm4 : min 4 (m.length - 4) = 4 := by omega
 have hm8 : min 16 (m.length - 8) = 16 := by omega
 have e4 : u8s (List.take 4 (List.drop 4 m)) = u8v (vecAt m 4 4) := (u8v_vecAt _ _ _ (by omega)).symm
 have e8 : u8s (List.take 16 (List.drop 8 m)) = u8v (vecAt m 8 16) := (u8v_vecAt _ _ _ (by omega)).symm
 have n24 : m[24].toNat ≠ 1 := fun h => h24 (UInt8.toNat_inj.1 h)
 have q24 : m[24].toNat < 256 := m[24].toNat_lt
 obtain ⟨c, hc⟩ : ∃ c, m[24].toNat = c := ⟨_, rfl⟩
 rw [hc] at n24 q24
 have w1 : wrap64 (c : Int) = c := by unfold wrap64; omega
 have w1b : IntKind.i64.wrap (c : Int) = c := by rw [IntWalk.i64_left]; exact w1
 have c1 : ((c : Int) == 1) = false := by simp; omega
 clear n24 q24
 have hXw3 : X < w.heap.size + 1 + 1 := by omega
 have hm26 : min 6 (m.length - 26) = 6 := by omega
 have e26 : u8s (List.drop 26 m) = u8v (vecAt m 26 6) := by rw [u8v_vecAt _ _ _ (by omega), List.take_of_length_le (by simp; omega)]
 clear h0 h1 h24
 go_enter Tryz.func246, Tryz.ntmps246
 go_wp2_with fail
 refine (nmust_ok _ _).mono ?_
 rintro e w1 ⟨rfl, rfl⟩
 go_wp2_with fail
 go_region
 all_goals
  go_wp2_with fail
  refine rgR_ [(X, (.int .i64 1 :: (u8v fr ++ (u8v to ++ (u8v (vecAt m 8 16) ++ (u8v mac ++ (.bool false :: u8v (vecAt m 4 4))))))).toArray)] (fun hS => ?_)
  refine qp 0 hS ?_
  refine qp 1 hS ?_
  refine qp 2 hS ?_
  refine qp 3 hS ?_
  refine qp 4 hS ?_
  refine qp 5 hS ?_
  refine qp 6 hS ?_
  refine qp 7 hS ?_
  refine qp 8 hS ?_
  refine qn 9 hS ?_
  refine qn 10 hS ?_
  refine qn 11 hS ?_
  refine qp 12 hS ?_
  refine wpAnyR_all (rs := [13]) kr_ (by simp) (Rws.grow _) hS (fun u1 hu1 hSW => ?_)
  intro i hi
  obtain rfl := List.mem_singleton.1 hi
  refine wpOp_step rfl (fun K hK => ?_)
  simp only [Rws] at hSW
  clear hi hS
  go_simp
  refine (nmust_no _ _).mono ?_
  rintro e w1 ⟨rfl, rfl⟩
  refine ⟨rfl, rfl, .int .i64 1 :: (u8v fr ++ (u8v to ++ (u8v (vecAt m 8 16) ++ (u8v mac ++ (.bool false :: u8v (vecAt m 4 4)))))), by simp, ?_⟩
  refine Below.trans ?_ (Below.mono hu1 (by first | (simp; done) | (simp; omega) | omega))
  (repeat (first | exact Below.refl _ _ | refine Below.al ?_ _ | refine Below.drew ?_ | refine Below.sr ?_ _ | refine Below.sc ?_ _))
theorem told_bad24_op2 (hl : m.length = 32) (h0 : m[0] = 136) (h1 : m[1] = 0) (h24 : m[24] ≠ 2) : refused m 3 fr to ab mac fl op0 := by
 intro X w hX hXw
 have hXw2 : X < w.heap.size + 1 := by omega
 have hset : ∀ (W : World) (c : Array Value), (row W X).size = 60 → c.size = 60 → row (W.setRow X c) X = c := fun W c h1 h2 => row_setRow_same (by omega) (by omega)
 have g0 : m[0].toNat = 136 := by rw [h0]; rfl
 have g1 : m[1].toNat = 0 := by rw [h1]; rfl
 have hm4 : min 4 (m.length - 4) = 4 := by omega
 have hm8 : min 16 (m.length - 8) = 16 := by omega
 have e4 : u8s (List.take 4 (List.drop 4 m)) = u8v (vecAt m 4 4) := (u8v_vecAt _ _ _ (by omega)).symm
 have e8 : u8s (List.take 16 (List.drop 8 m)) = u8v (vecAt m 8 16) := (u8v_vecAt _ _ _ (by omega)).symm
 have n24 : m[24].toNat ≠ 2 := fun h => h24 (UInt8.toNat_inj.1 h)
 have q24 : m[24].toNat < 256 := m[24].toNat_lt
 obtain ⟨c, hc⟩ : ∃ c, m[24].toNat = c := ⟨_, rfl⟩
 rw [hc] at n24 q24
 have w1 : wrap64 (c : Int) = c := by unfold wrap64; omega
 have w1b : IntKind.i64.wrap (c : Int) = c := by rw [IntWalk.i64_left]; exact w1
 have c1 : ((c : Int) == 2) = false := by simp; omega
 clear n24 q24
 have hXw3 : X < w.heap.size + 1 + 1 := by omega
 have hm26 : min 6 (m.length - 26) = 6 := by omega
 have e26 : u8s (List.drop 26 m) = u8v (vecAt m 26 6) := by rw [u8v_vecAt _ _ _ (by omega), List.take_of_length_le (by simp; omega)]
 clear h0 h1 h24
 go_enter Tryz.func246, Tryz.ntmps246
 go_wp2_with fail
 refine (nmust_ok _ _).mono ?_
 rintro e w1 ⟨rfl, rfl⟩
 go_wp2_with fail
 go_region
 all_goals
  go_wp2_with fail
  refine rgR_ [(X, (.int .i64 2 :: (u8v fr ++ (u8v to ++ (u8v (vecAt m 8 16) ++ (u8v mac ++ (.bool false :: u8v (vecAt m 4 4))))))).toArray)] (fun hS => ?_)
  refine qp 0 hS ?_
  refine qp 1 hS ?_
  refine qp 2 hS ?_
  refine qp 3 hS ?_
  refine qp 4 hS ?_
  refine qp 5 hS ?_
  refine qp 6 hS ?_
  refine qp 7 hS ?_
  refine qp 8 hS ?_
  refine qn 9 hS ?_
  refine qn 10 hS ?_
  refine qn 11 hS ?_
  refine qp 12 hS ?_
  refine wpAnyR_all (rs := [13]) kr_ (by simp) (Rws.grow _) hS (fun u1 hu1 hSW => ?_)
  intro i hi
  obtain rfl := List.mem_singleton.1 hi
  refine wpOp_step rfl (fun K hK => ?_)
  simp only [Rws] at hSW
  clear hi hS
  go_simp
  refine (nmust_no _ _).mono ?_
  rintro e w1 ⟨rfl, rfl⟩
  refine ⟨rfl, rfl, .int .i64 2 :: (u8v fr ++ (u8v to ++ (u8v (vecAt m 8 16) ++ (u8v mac ++ (.bool false :: u8v (vecAt m 4 4)))))), by simp, ?_⟩
  refine Below.trans ?_ (Below.mono hu1 (by first | (simp; done) | (simp; omega) | omega))
  (repeat (first | exact Below.refl _ _ | refine Below.al ?_ _ | refine Below.drew ?_ | refine Below.sr ?_ _ | refine Below.sc ?_ _))
theorem told_bad25_op1 (hl : m.length = 32) (h0 : m[0] = 135) (h1 : m[1] = 0) (h24 : m[24] = 1) (h25 : m[25] ≠ 1) : refused m 3 fr to ab mac fl op0 := by
 intro X w hX hXw
 have hXw2 : X < w.heap.size + 1 := by omega
 have hset : ∀ (W : World) (c : Array Value), (row W X).size = 60 → c.size = 60 → row (W.setRow X c) X = c := fun W c h1 h2 => row_setRow_same (by omega) (by omega)
 have g0 : m[0].toNat = 135 := by rw [h0]; rfl
 have g1 : m[1].toNat = 0 := by rw [h1]; rfl
 have hm4 : min 4 (m.length - 4) = 4 := by omega
 have hm8 : min 16 (m.length - 8) = 16 := by omega
 have e4 : u8s (List.take 4 (List.drop 4 m)) = u8v (vecAt m 4 4) := (u8v_vecAt _ _ _ (by omega)).symm
 have e8 : u8s (List.take 16 (List.drop 8 m)) = u8v (vecAt m 8 16) := (u8v_vecAt _ _ _ (by omega)).symm
 have g24 : m[24].toNat = 1 := by rw [h24]; rfl
 have n25 : m[25].toNat ≠ 1 := fun h => h25 (UInt8.toNat_inj.1 h)
 obtain ⟨c, hc⟩ : ∃ c, m[25].toNat = c := ⟨_, rfl⟩
 rw [hc] at n25
 have c1 : ((c : Int) == 1) = false := by simp; omega
 clear n25
 have hXw3 : X < w.heap.size + 1 + 1 := by omega
 have hm26 : min 6 (m.length - 26) = 6 := by omega
 have e26 : u8s (List.drop 26 m) = u8v (vecAt m 26 6) := by rw [u8v_vecAt _ _ _ (by omega), List.take_of_length_le (by simp; omega)]
 clear h0 h1 h24 h25
 go_enter Tryz.func246, Tryz.ntmps246
 go_wp2_with fail
 refine (nmust_ok _ _).mono ?_
 rintro e w1 ⟨rfl, rfl⟩
 go_wp2_with fail
 go_region
 all_goals
  go_wp2_with fail
  refine rgR_ [(X, (.int .i64 1 :: (u8v fr ++ (u8v to ++ (u8v (vecAt m 8 16) ++ (u8v mac ++ (.bool false :: u8v (vecAt m 4 4))))))).toArray)] (fun hS => ?_)
  refine qp 0 hS ?_
  refine qp 1 hS ?_
  refine qp 2 hS ?_
  refine qp 3 hS ?_
  refine qp 4 hS ?_
  refine qp 5 hS ?_
  refine qp 6 hS ?_
  refine qp 7 hS ?_
  refine qp 8 hS ?_
  refine qp 9 hS ?_
  refine qp 10 hS ?_
  refine qp 11 hS ?_
  refine qp 12 hS ?_
  refine wpAnyR_all (rs := [13]) kr_ (by simp) (Rws.grow _) hS (fun u1 hu1 hSW => ?_)
  intro i hi
  obtain rfl := List.mem_singleton.1 hi
  refine wpOp_step rfl (fun K hK => ?_)
  simp only [Rws] at hSW
  clear hi hS
  go_simp
  refine (nmust_no _ _).mono ?_
  rintro e w1 ⟨rfl, rfl⟩
  refine ⟨rfl, rfl, .int .i64 1 :: (u8v fr ++ (u8v to ++ (u8v (vecAt m 8 16) ++ (u8v mac ++ (.bool false :: u8v (vecAt m 4 4)))))), by simp, ?_⟩
  refine Below.trans ?_ (Below.mono hu1 (by first | (simp; done) | (simp; omega) | omega))
  (repeat (first | exact Below.refl _ _ | refine Below.al ?_ _ | refine Below.drew ?_ | refine Below.sr ?_ _ | refine Below.sc ?_ _))
theorem told_bad25_op2 (hl : m.length = 32) (h0 : m[0] = 136) (h1 : m[1] = 0) (h24 : m[24] = 2) (h25 : m[25] ≠ 1) : refused m 3 fr to ab mac fl op0 := by
 intro X w hX hXw
 have hXw2 : X < w.heap.size + 1 := by omega
 have hset : ∀ (W : World) (c : Array Value), (row W X).size = 60 → c.size = 60 → row (W.setRow X c) X = c := fun W c h1 h2 => row_setRow_same (by omega) (by omega)
 have g0 : m[0].toNat = 136 := by rw [h0]; rfl
 have g1 : m[1].toNat = 0 := by rw [h1]; rfl
 have hm4 : min 4 (m.length - 4) = 4 := by omega
 have hm8 : min 16 (m.length - 8) = 16 := by omega
 have e4 : u8s (List.take 4 (List.drop 4 m)) = u8v (vecAt m 4 4) := (u8v_vecAt _ _ _ (by omega)).symm
 have e8 : u8s (List.take 16 (List.drop 8 m)) = u8v (vecAt m 8 16) := (u8v_vecAt _ _ _ (by omega)).symm
 have g24 : m[24].toNat = 2 := by rw [h24]; rfl
 have n25 : m[25].toNat ≠ 1 := fun h => h25 (UInt8.toNat_inj.1 h)
 obtain ⟨c, hc⟩ : ∃ c, m[25].toNat = c := ⟨_, rfl⟩
 rw [hc] at n25
 have c1 : ((c : Int) == 1) = false := by simp; omega
 clear n25
 have hXw3 : X < w.heap.size + 1 + 1 := by omega
 have hm26 : min 6 (m.length - 26) = 6 := by omega
 have e26 : u8s (List.drop 26 m) = u8v (vecAt m 26 6) := by rw [u8v_vecAt _ _ _ (by omega), List.take_of_length_le (by simp; omega)]
 clear h0 h1 h24 h25
 go_enter Tryz.func246, Tryz.ntmps246
 go_wp2_with fail
 refine (nmust_ok _ _).mono ?_
 rintro e w1 ⟨rfl, rfl⟩
 go_wp2_with fail
 go_region
 all_goals
  go_wp2_with fail
  refine rgR_ [(X, (.int .i64 2 :: (u8v fr ++ (u8v to ++ (u8v (vecAt m 8 16) ++ (u8v mac ++ (.bool false :: u8v (vecAt m 4 4))))))).toArray)] (fun hS => ?_)
  refine qp 0 hS ?_
  refine qp 1 hS ?_
  refine qp 2 hS ?_
  refine qp 3 hS ?_
  refine qp 4 hS ?_
  refine qp 5 hS ?_
  refine qp 6 hS ?_
  refine qp 7 hS ?_
  refine qp 8 hS ?_
  refine qp 9 hS ?_
  refine qp 10 hS ?_
  refine qp 11 hS ?_
  refine qp 12 hS ?_
  refine wpAnyR_all (rs := [13]) kr_ (by simp) (Rws.grow _) hS (fun u1 hu1 hSW => ?_)
  intro i hi
  obtain rfl := List.mem_singleton.1 hi
  refine wpOp_step rfl (fun K hK => ?_)
  simp only [Rws] at hSW
  clear hi hS
  go_simp
  refine (nmust_no _ _).mono ?_
  rintro e w1 ⟨rfl, rfl⟩
  refine ⟨rfl, rfl, .int .i64 2 :: (u8v fr ++ (u8v to ++ (u8v (vecAt m 8 16) ++ (u8v mac ++ (.bool false :: u8v (vecAt m 4 4)))))), by simp, ?_⟩
  refine Below.trans ?_ (Below.mono hu1 (by first | (simp; done) | (simp; omega) | omega))
  (repeat (first | exact Below.refl _ _ | refine Below.al ?_ _ | refine Below.drew ?_ | refine Below.sr ?_ _ | refine Below.sc ?_ _))
end
end
section
set_option maxRecDepth 20000
end
section
open Go.RowKit
section
variable (m : List UInt8) (fr to ab : Vector UInt8 16) (mac : Vector UInt8 6) (fl : Vector UInt8 4) (op0 : Int)
theorem told_sum_small_op1 (hl : m.length = 24) (h0 : m[0] = 135) (h1 : m[1] = 0)
  (hs : numAt m 2 ≠ sumN 1 fr to (vecAt m 8 16) mac false (vecAt m 4 4)) : refused m 4 fr to ab mac fl op0 := by
 intro X w hX hXw
 have hXw2 : X < w.heap.size + 1 := by omega
 have hset : ∀ (W : World) (c : Array Value), (row W X).size = 60 → c.size = 60 → row (W.setRow X c) X = c := fun W c h1 h2 => row_setRow_same (by omega) (by omega)
 have g0 : m[0].toNat = 135 := by rw [h0]; rfl
 have g1 : m[1].toNat = 0 := by rw [h1]; rfl
 have hm4 : min 4 (m.length - 4) = 4 := by omega
 have hm8 : min 16 (m.length - 8) = 16 := by omega
 have e4 : u8s (List.take 4 (List.drop 4 m)) = u8v (vecAt m 4 4) := (u8v_vecAt _ _ _ (by omega)).symm
 have e8 : u8s (List.take 16 (List.drop 8 m)) = u8v (vecAt m 8 16) := (u8v_vecAt _ _ _ (by omega)).symm
 have e8b : u8s (List.drop 8 m) = u8v (vecAt m 8 16) := by rw [← e8, List.take_of_length_le (by simp; omega)]
 have Hs := ndsum_op1 fr to (vecAt m 8 16) mac false (vecAt m 4 4)
 obtain ⟨su, hsu⟩ : ∃ s, sumN 1 fr to (vecAt m 8 16) mac false (vecAt m 4 4) = s := ⟨_, rfl⟩
 rw [hsu] at Hs
 unfold ndV at Hs
 have HS := h_ Hs
 have H01 := h_ (And.intro h0 (And.intro h1 hs))
 obtain ⟨sm, hsm⟩ : ∃ s, numAt m 2 = s := ⟨_, rfl⟩
 have hne : ((sm : Int) == (su : Int)) = false := by
  rw [hsm, hsu] at hs
  simp
  omega
 clear Hs h0 h1 hs hsu
 go_enter Tryz.func246, Tryz.ntmps246
 go_wp2_with fail
 refine (nmust_ok _ _).mono ?_
 rintro e w1 ⟨rfl, rfl⟩
 go_wp2_with fail
 go_region
 all_goals
  go_wp2_with fail
  refine (number_any _ _ (by simp [ByteArray.size]; omega)).mono ?_
  rintro e w1 ⟨rfl, rfl⟩
  rw [show numN (ByteArray.mk (List.take 2 (List.drop 2 m)).toArray).data.toList = sm from hsm]
  go_wp2_with fail
  refine (HS.out _).mono ?_
  rintro e w2 ⟨rfl, hb2⟩
  have z2 := (hb2).size
  try simp at z2
  go_wp2_with fail
  refine (nmust_no _ _).mono ?_
  rintro e w1 ⟨rfl, rfl⟩
  refine ⟨rfl, rfl, .int .i64 1 :: (u8v fr ++ (u8v to ++ (u8v (vecAt m 8 16) ++ (u8v mac ++ (.bool false :: u8v (vecAt m 4 4)))))), by simp, ?_⟩
  refine Below.trans ?_ (Below.mono hb2 (by first | (simp; done) | (simp; omega) | omega))
  (repeat (first | exact Below.refl _ _ | refine Below.al ?_ _ | refine Below.drew ?_ | refine Below.sr ?_ _ | refine Below.sc ?_ _))
theorem told_sum_small_op2 (hl : m.length = 24) (h0 : m[0] = 136) (h1 : m[1] = 0)
  (hs : numAt m 2 ≠ sumN 2 fr to (vecAt m 8 16) mac false (vecAt m 4 4)) : refused m 4 fr to ab mac fl op0 := by
 intro X w hX hXw
 have hXw2 : X < w.heap.size + 1 := by omega
 have hset : ∀ (W : World) (c : Array Value), (row W X).size = 60 → c.size = 60 → row (W.setRow X c) X = c := fun W c h1 h2 => row_setRow_same (by omega) (by omega)
 have g0 : m[0].toNat = 136 := by rw [h0]; rfl
 have g1 : m[1].toNat = 0 := by rw [h1]; rfl
 have hm4 : min 4 (m.length - 4) = 4 := by omega
 have hm8 : min 16 (m.length - 8) = 16 := by omega
 have e4 : u8s (List.take 4 (List.drop 4 m)) = u8v (vecAt m 4 4) := (u8v_vecAt _ _ _ (by omega)).symm
 have e8 : u8s (List.take 16 (List.drop 8 m)) = u8v (vecAt m 8 16) := (u8v_vecAt _ _ _ (by omega)).symm
 have e8b : u8s (List.drop 8 m) = u8v (vecAt m 8 16) := by rw [← e8, List.take_of_length_le (by simp; omega)]
 have Hs := ndsum_op2 fr to (vecAt m 8 16) mac false (vecAt m 4 4)
 obtain ⟨su, hsu⟩ : ∃ s, sumN 2 fr to (vecAt m 8 16) mac false (vecAt m 4 4) = s := ⟨_, rfl⟩
 rw [hsu] at Hs
 unfold ndV at Hs
 have HS := h_ Hs
 have H01 := h_ (And.intro h0 (And.intro h1 hs))
 obtain ⟨sm, hsm⟩ : ∃ s, numAt m 2 = s := ⟨_, rfl⟩
 have hne : ((sm : Int) == (su : Int)) = false := by
  rw [hsm, hsu] at hs
  simp
  omega
 clear Hs h0 h1 hs hsu
 go_enter Tryz.func246, Tryz.ntmps246
 go_wp2_with fail
 refine (nmust_ok _ _).mono ?_
 rintro e w1 ⟨rfl, rfl⟩
 go_wp2_with fail
 go_region
 all_goals
  go_wp2_with fail
  refine (number_any _ _ (by simp [ByteArray.size]; omega)).mono ?_
  rintro e w1 ⟨rfl, rfl⟩
  rw [show numN (ByteArray.mk (List.take 2 (List.drop 2 m)).toArray).data.toList = sm from hsm]
  go_wp2_with fail
  refine (HS.out _).mono ?_
  rintro e w2 ⟨rfl, hb2⟩
  have z2 := (hb2).size
  try simp at z2
  go_wp2_with fail
  refine (nmust_no _ _).mono ?_
  rintro e w1 ⟨rfl, rfl⟩
  refine ⟨rfl, rfl, .int .i64 2 :: (u8v fr ++ (u8v to ++ (u8v (vecAt m 8 16) ++ (u8v mac ++ (.bool false :: u8v (vecAt m 4 4)))))), by simp, ?_⟩
  refine Below.trans ?_ (Below.mono hb2 (by first | (simp; done) | (simp; omega) | omega))
  (repeat (first | exact Below.refl _ _ | refine Below.al ?_ _ | refine Below.drew ?_ | refine Below.sr ?_ _ | refine Below.sc ?_ _))
theorem told_sum_large_op1 (hl : m.length = 32) (h0 : m[0] = 135) (h1 : m[1] = 0) (h24 : m[24] = 1) (h25 : m[25] = 1)
  (hs : numAt m 2 ≠ sumN 1 fr to (vecAt m 8 16) (vecAt m 26 6) true (vecAt m 4 4)) : refused m 4 fr to ab mac fl op0 := by
 intro X w hX hXw
 have hXw2 : X < w.heap.size + 1 := by omega
 have hset : ∀ (W : World) (c : Array Value), (row W X).size = 60 → c.size = 60 → row (W.setRow X c) X = c := fun W c h1 h2 => row_setRow_same (by omega) (by omega)
 have g0 : m[0].toNat = 135 := by rw [h0]; rfl
 have g1 : m[1].toNat = 0 := by rw [h1]; rfl
 have hm4 : min 4 (m.length - 4) = 4 := by omega
 have hm8 : min 16 (m.length - 8) = 16 := by omega
 have e4 : u8s (List.take 4 (List.drop 4 m)) = u8v (vecAt m 4 4) := (u8v_vecAt _ _ _ (by omega)).symm
 have e8 : u8s (List.take 16 (List.drop 8 m)) = u8v (vecAt m 8 16) := (u8v_vecAt _ _ _ (by omega)).symm
 have g24 : m[24].toNat = 1 := by rw [h24]; rfl
 have g25 : m[25].toNat = 1 := by rw [h25]; rfl
 have hXw3 : X < w.heap.size + 1 + 1 := by omega
 have hm26 : min 6 (m.length - 26) = 6 := by omega
 have e26 : u8s (List.drop 26 m) = u8v (vecAt m 26 6) := by rw [u8v_vecAt _ _ _ (by omega), List.take_of_length_le (by simp; omega)]
 have Hs := ndsum_op1 fr to (vecAt m 8 16) (vecAt m 26 6) true (vecAt m 4 4)
 obtain ⟨su, hsu⟩ : ∃ s, sumN 1 fr to (vecAt m 8 16) (vecAt m 26 6) true (vecAt m 4 4) = s := ⟨_, rfl⟩
 rw [hsu] at Hs
 unfold ndV at Hs
 have HS := h_ Hs
 have H01 := h_ (And.intro h0 (And.intro h1 (And.intro h24 (And.intro h25 hs))))
 obtain ⟨sm, hsm⟩ : ∃ s, numAt m 2 = s := ⟨_, rfl⟩
 have hne : ((sm : Int) == (su : Int)) = false := by
  rw [hsm, hsu] at hs
  simp
  omega
 clear Hs h0 h1 hs h24 h25 hsu
 go_enter Tryz.func246, Tryz.ntmps246
 go_wp2_with fail
 refine (nmust_ok _ _).mono ?_
 rintro e w1 ⟨rfl, rfl⟩
 go_wp2_with fail
 go_region
 all_goals
  go_wp2_with fail
  refine wp_region_beginS (S := Held (fun w' => row w' X = (.int .i64 1 :: (u8v fr ++ (u8v to ++ (u8v (vecAt m 8 16) ++ (u8v mac ++ (.bool false :: u8v (vecAt m 4 4))))))).toArray)) rfl ?_ (fun hS => ?_)
  ·
   unfold Held
   simp [go_sem, hXw, hXw2, hXw3, hset, hX]
  refine rp 0 hS ?_
  refine rp 1 hS ?_
  refine rp 2 hS ?_
  refine rp 3 hS ?_
  refine rp 4 hS ?_
  refine rp 5 hS ?_
  refine rp 6 hS ?_
  refine rp 7 hS ?_
  refine rp 8 hS ?_
  refine rp 9 hS ?_
  refine rp 10 hS ?_
  refine rp 11 hS ?_
  refine rp 12 hS ?_
  have hS2 := hS
  unfold Held at hS2
  refine wpAnyH_all (rs := [13]) kr_ (by simp) ?_
  intro i hi
  obtain rfl := List.mem_singleton.1 hi
  refine wpOp_step rfl (fun K hK => ?_)
  clear hi hS
  go_simp
  refine (nmust_ok _ _).mono ?_
  rintro e w1 ⟨rfl, rfl⟩
  refine hK _ _ (wpAnyH_same hS2 (fun hS => ?_))
  clear hK K
  refine wpAnyH_done kr_ ?_ _
  go_wp2_with fail
  refine (number_any _ _ (by simp [ByteArray.size]; omega)).mono ?_
  rintro e w1 ⟨rfl, rfl⟩
  rw [show numN (ByteArray.mk (List.take 2 (List.drop 2 m)).toArray).data.toList = sm from hsm]
  go_wp2_with fail
  refine (HS.out _).mono ?_
  rintro e w2 ⟨rfl, hb2⟩
  have z2 := (hb2).size
  try simp at z2
  go_wp2_with fail
  refine (nmust_no _ _).mono ?_
  rintro e w1 ⟨rfl, rfl⟩
  refine ⟨rfl, rfl, .int .i64 1 :: (u8v fr ++ (u8v to ++ (u8v (vecAt m 8 16) ++ (u8v (vecAt m 26 6) ++ (.bool true :: u8v (vecAt m 4 4)))))), by simp, ?_⟩
  refine Below.trans ?_ (Below.mono hb2 (by first | (simp; done) | (simp; omega) | omega))
  (repeat (first | exact Below.refl _ _ | refine Below.al ?_ _ | refine Below.drew ?_ | refine Below.sr ?_ _ | refine Below.sc ?_ _))
theorem told_sum_large_op2 (hl : m.length = 32) (h0 : m[0] = 136) (h1 : m[1] = 0) (h24 : m[24] = 2) (h25 : m[25] = 1)
  (hs : numAt m 2 ≠ sumN 2 fr to (vecAt m 8 16) (vecAt m 26 6) true (vecAt m 4 4)) : refused m 4 fr to ab mac fl op0 := by
 intro X w hX hXw
 have hXw2 : X < w.heap.size + 1 := by omega
 have hset : ∀ (W : World) (c : Array Value), (row W X).size = 60 → c.size = 60 → row (W.setRow X c) X = c := fun W c h1 h2 => row_setRow_same (by omega) (by omega)
 have g0 : m[0].toNat = 136 := by rw [h0]; rfl
 have g1 : m[1].toNat = 0 := by rw [h1]; rfl
 have hm4 : min 4 (m.length - 4) = 4 := by omega
 have hm8 : min 16 (m.length - 8) = 16 := by omega
 have e4 : u8s (List.take 4 (List.drop 4 m)) = u8v (vecAt m 4 4) := (u8v_vecAt _ _ _ (by omega)).symm
 have e8 : u8s (List.take 16 (List.drop 8 m)) = u8v (vecAt m 8 16) := (u8v_vecAt _ _ _ (by omega)).symm
 have g24 : m[24].toNat = 2 := by rw [h24]; rfl
 have g25 : m[25].toNat = 1 := by rw [h25]; rfl
 have hXw3 : X < w.heap.size + 1 + 1 := by omega
 have hm26 : min 6 (m.length - 26) = 6 := by omega
 have e26 : u8s (List.drop 26 m) = u8v (vecAt m 26 6) := by rw [u8v_vecAt _ _ _ (by omega), List.take_of_length_le (by simp; omega)]
 have Hs := ndsum_op2 fr to (vecAt m 8 16) (vecAt m 26 6) true (vecAt m 4 4)
 obtain ⟨su, hsu⟩ : ∃ s, sumN 2 fr to (vecAt m 8 16) (vecAt m 26 6) true (vecAt m 4 4) = s := ⟨_, rfl⟩
 rw [hsu] at Hs
 unfold ndV at Hs
 have HS := h_ Hs
 have H01 := h_ (And.intro h0 (And.intro h1 (And.intro h24 (And.intro h25 hs))))
 obtain ⟨sm, hsm⟩ : ∃ s, numAt m 2 = s := ⟨_, rfl⟩
 have hne : ((sm : Int) == (su : Int)) = false := by
  rw [hsm, hsu] at hs
  simp
  omega
 clear Hs h0 h1 hs h24 h25 hsu
 go_enter Tryz.func246, Tryz.ntmps246
 go_wp2_with fail
 refine (nmust_ok _ _).mono ?_
 rintro e w1 ⟨rfl, rfl⟩
 go_wp2_with fail
 go_region
 all_goals
  go_wp2_with fail
  refine wp_region_beginS (S := Held (fun w' => row w' X = (.int .i64 2 :: (u8v fr ++ (u8v to ++ (u8v (vecAt m 8 16) ++ (u8v mac ++ (.bool false :: u8v (vecAt m 4 4))))))).toArray)) rfl ?_ (fun hS => ?_)
  ·
   unfold Held
   simp [go_sem, hXw, hXw2, hXw3, hset, hX]
  refine rp 0 hS ?_
  refine rp 1 hS ?_
  refine rp 2 hS ?_
  refine rp 3 hS ?_
  refine rp 4 hS ?_
  refine rp 5 hS ?_
  refine rp 6 hS ?_
  refine rp 7 hS ?_
  refine rp 8 hS ?_
  refine rp 9 hS ?_
  refine rp 10 hS ?_
  refine rp 11 hS ?_
  refine rp 12 hS ?_
  have hS2 := hS
  unfold Held at hS2
  refine wpAnyH_all (rs := [13]) kr_ (by simp) ?_
  intro i hi
  obtain rfl := List.mem_singleton.1 hi
  refine wpOp_step rfl (fun K hK => ?_)
  clear hi hS
  go_simp
  refine (nmust_ok _ _).mono ?_
  rintro e w1 ⟨rfl, rfl⟩
  refine hK _ _ (wpAnyH_same hS2 (fun hS => ?_))
  clear hK K
  refine wpAnyH_done kr_ ?_ _
  go_wp2_with fail
  refine (number_any _ _ (by simp [ByteArray.size]; omega)).mono ?_
  rintro e w1 ⟨rfl, rfl⟩
  rw [show numN (ByteArray.mk (List.take 2 (List.drop 2 m)).toArray).data.toList = sm from hsm]
  go_wp2_with fail
  refine (HS.out _).mono ?_
  rintro e w2 ⟨rfl, hb2⟩
  have z2 := (hb2).size
  try simp at z2
  go_wp2_with fail
  refine (nmust_no _ _).mono ?_
  rintro e w1 ⟨rfl, rfl⟩
  refine ⟨rfl, rfl, .int .i64 2 :: (u8v fr ++ (u8v to ++ (u8v (vecAt m 8 16) ++ (u8v (vecAt m 26 6) ++ (.bool true :: u8v (vecAt m 4 4)))))), by simp, ?_⟩
  refine Below.trans ?_ (Below.mono hb2 (by first | (simp; done) | (simp; omega) | omega))
  (repeat (first | exact Below.refl _ _ | refine Below.al ?_ _ | refine Below.drew ?_ | refine Below.sr ?_ _ | refine Below.sc ?_ _))
end
end
section
open Go.RowKit
theorem ndParse_refused (l m : List UInt8) (n : Int) (w : World) (hl : 64 ≤ l.length) (hl2 : l.length ≤ 10000) (sz : Nat) (hsz : numAt l 4 = sz) (hs2 : sz = 24 ∨ sz = 32) (hls : 40 + sz ≤ l.length) (h0 : l[0] = 96) (h6 : l[6] = 58) (h7 : l[7] = 255)
  (hm : (l.drop 40).take sz = m) (H : refused m n (vecAt l 8 16) (vecAt l 24 16) ip0 mac0 four0 0) :
  Calls Tryz.prog 193 #[.string ⟨l.toArray⟩] w fun e w' => e = .returned (.tuple #[.agg (ndV 0 ip0 ip0 ip0 mac0 false four0).toArray, .int .i64 n]) ∧ Below w.heap.size w w' := by
 have hmf : ∀ (fn : Fn) (first cap : Array Value) (w : World), (Instr.makeFunc fn first cap).run Tryz.prog w = .ok (.func fn first cap) w := fun _ _ _ _ => rfl
 go_enter_defers Tryz.func193, Tryz.ntmps193
 go_wp2_with fail
 have st0 := ndSt_start w
 refine (headed_ok l w.heap.size 0 ip0 ip0 ip0 mac0 false four0 _ hl hl2 sz hsz hs2 h0 h6 h7 hls st0.rX (by have := st0.hs; omega)).mono ?_
 rintro e w1 ⟨rfl, hb1⟩
 have st1 := (st0.setX (ndV 0 (vecAt l 8 16) (vecAt l 24 16) ip0 mac0 false four0) (by simp [ndV])).below (by simpa [ndV] using hb1)
 rw [hm]
 go_wp2_with fail
 refine (H w.heap.size _ st1.rX (by have := st1.hs; omega)).mono ?_
 rintro e w2 ⟨rfl, xs, hxs, hb2⟩
 have st2 := (st1.setX xs hxs).below (by simpa using hb2)
 exact st2.fail _ _ n rfl rfl rfl
end
section
open Go.RowKit
def headOk (l : List UInt8) : Bool := (((l.getD 0 0).toNat : Int) == 96) && (((l.getD 6 0).toNat : Int) == 58) && (((l.getD 7 0).toNat : Int) == 255) && (numAt l 4 == 24 || numAt l 4 == 32)
theorem headed_form (l : List UInt8) (X : Nat) (w : World) (hl : 64 ≤ l.length) (hl2 : l.length ≤ 10000) (h : headOk l = false) :
  Calls Tryz.prog 247 #[.string ⟨l.toArray⟩, .pointer (some ⟨X, 0, none⟩)] w fun e w' => e = .panicked (errP 3) ∧ w = w' := by
 have h1 : (64 : Int) ≤ l.length := by omega
 have h2 : (l.length : Int) ≤ 10000 := by omega
 obtain ⟨sz, hsz⟩ : ∃ s, numAt l 4 = s := ⟨_, rfl⟩
 unfold headOk at h
 rw [hsz] at h
 have g0 : l.getD 0 0 = l[0] := by simp [List.getD_eq_getElem?_getD, show 0 < l.length by omega]
 have g6 : l.getD 6 0 = l[6] := by simp [List.getD_eq_getElem?_getD, show 6 < l.length by omega]
 have g7 : l.getD 7 0 = l[7] := by simp [List.getD_eq_getElem?_getD, show 7 < l.length by omega]
 rw [g0, g6, g7] at h
 clear g0 g6 g7
 have HSZ := h_ hsz
 clear hsz
 go_enter Tryz.func247, Tryz.ntmps247
 go_wp2_with fail
 refine (nmust_ok _ _).mono ?_
 rintro e w1 ⟨rfl, rfl⟩
 go_wp2_with fail
 refine (number_any _ _ (by simp [ByteArray.size]; omega)).mono ?_
 rintro e w1 ⟨rfl, rfl⟩
 rw [show numN (ByteArray.mk (List.take 2 (List.drop 4 l)).toArray).data.toList = sz from HSZ.out]
 have szI : ((sz : Int) == 24) = (sz == 24) := by rw [Bool.eq_iff_iff]; simp only [beq_iff_eq]; omega
 have szJ : ((sz : Int) == 32) = (sz == 32) := by rw [Bool.eq_iff_iff]; simp only [beq_iff_eq]; omega
 rw [← szI, ← szJ] at h
 clear szI szJ
 by_cases c0 : ((l[0].toNat : Int) == 96) = true
 ·
  by_cases c6 : ((l[6].toNat : Int) == 58) = true
  ·
   by_cases c7 : ((l[7].toNat : Int) == 255) = true
   ·
    rw [c0, c6, c7] at h
    simp only [Bool.true_and, Bool.or_eq_false_iff] at h
    obtain ⟨h24, h32⟩ := h
    go_wp2_with fail
    refine (nmust_no _ _).mono ?_
    rintro e w1 ⟨rfl, rfl⟩
    exact ⟨rfl, rfl, rfl⟩
   ·
    have c7' : ((l[7].toNat : Int) == 255) = false := by simpa using c7
    clear h c7
    go_wp2_with fail
    refine (nmust_no _ _).mono ?_
    rintro e w1 ⟨rfl, rfl⟩
    exact ⟨rfl, rfl, rfl⟩
  ·
   have c6' : ((l[6].toNat : Int) == 58) = false := by simpa using c6
   clear h c6
   go_wp2_with fail
   refine (nmust_no _ _).mono ?_
   rintro e w1 ⟨rfl, rfl⟩
   exact ⟨rfl, rfl, rfl⟩
 ·
  have c0' : ((l[0].toNat : Int) == 96) = false := by simpa using c0
  clear h c0
  go_wp2_with fail
  refine (nmust_no _ _).mono ?_
  rintro e w1 ⟨rfl, rfl⟩
  exact ⟨rfl, rfl, rfl⟩
theorem headed_cut (l : List UInt8) (X : Nat) (w : World) (hl : 64 ≤ l.length) (sz : Nat) (hsz : numAt l 4 = sz) (hs : sz = 24 ∨ sz = 32) (h0 : l[0] = 96) (h6 : l[6] = 58) (h7 : l[7] = 255) (hls : l.length < 40 + sz) :
  Calls Tryz.prog 247 #[.string ⟨l.toArray⟩, .pointer (some ⟨X, 0, none⟩)] w fun e w' => e = .panicked (errP 2) ∧ w = w' := by
 obtain rfl : sz = 32 := by omega
 have h1 : (64 : Int) ≤ l.length := by omega
 have h2 : (l.length : Int) < 72 := by omega
 have c0 : ((l[0].toNat : Int) == 96) = true := by rw [h0]; rfl
 have c6 : ((l[6].toNat : Int) == 58) = true := by rw [h6]; rfl
 have c7 : ((l[7].toNat : Int) == 255) = true := by rw [h7]; rfl
 have g0 : l[0].toNat = 96 := by rw [h0]; rfl
 have g6 : l[6].toNat = 58 := by rw [h6]; rfl
 have g7 : l[7].toNat = 255 := by rw [h7]; rfl
 have HH := h_ (And.intro hsz (And.intro h0 (And.intro h6 h7)))
 clear hsz h0 h6 h7 hs
 go_enter Tryz.func247, Tryz.ntmps247
 go_wp2_with fail
 refine (nmust_ok _ _).mono ?_
 rintro e w1 ⟨rfl, rfl⟩
 go_wp2_with fail
 refine (number_any _ _ (by simp [ByteArray.size]; omega)).mono ?_
 rintro e w1 ⟨rfl, rfl⟩
 rw [show numN (ByteArray.mk (List.take 2 (List.drop 4 l)).toArray).data.toList = 32 from HH.out.1]
 go_wp2_with fail
 refine (nmust_ok _ _).mono ?_
 rintro e w1 ⟨rfl, rfl⟩
 go_wp2_with fail
 (try rw [decide_eq_false (show ¬ (72 : Int) ≤ l.length by omega)])
 refine (nmust_no _ _).mono ?_
 rintro e w1 ⟨rfl, rfl⟩
 exact ⟨rfl, rfl, rfl⟩
def ParsesN (l : List UInt8) (cs : List Value) (n : Int) : Prop := ∀ w, Calls Tryz.prog 193 #[.string ⟨l.toArray⟩] w fun e w' => e = .returned (.tuple #[.agg cs.toArray, .int .i64 n]) ∧ Below w.heap.size w w'
theorem ndParse_head (l : List UInt8) (n : Int) (H : ∀ X w, Calls Tryz.prog 247 #[.string ⟨l.toArray⟩, .pointer (some ⟨X, 0, none⟩)] w fun e w' => e = .panicked (errP n) ∧ w = w') : ParsesN l zeroNd n := by
 intro w
 have hmf : ∀ (fn : Fn) (first cap : Array Value) (w : World), (Instr.makeFunc fn first cap).run Tryz.prog w = .ok (.func fn first cap) w := fun _ _ _ _ => rfl
 go_enter_defers Tryz.func193, Tryz.ntmps193
 go_wp2_with fail
 have st0 := ndSt_start w
 refine (H _ _).mono ?_
 rintro e w1 ⟨rfl, rfl⟩
 exact st0.fail _ _ n rfl rfl rfl
end
section
open Go.RowKit
theorem getD_elmU (l : List UInt8) (k : Nat) (d : UInt8) (h : k < l.length) : l.getD k d = l[k] := by simp [List.getD_eq_getElem?_getD, h]
def ndRest1 (op : Nat) (l : List UInt8) (sz : Nat) : List Value × Int :=
 if l.getD 41 0 ≠ 0 then (zeroNd, 3) else
 if sz = 24 then
  (if bytesN (sumN op (vecAt l 8 16) (vecAt l 24 16) (vecAt l 48 16) mac0 false (vecAt l 44 4)) 2 = List.take 2 (List.drop 42 l) then (ndV op (vecAt l 8 16) (vecAt l 24 16) (vecAt l 48 16) mac0 false (vecAt l 44 4), 0) else (zeroNd, 4))
 else if l.getD 64 0 ≠ UInt8.ofNat op then (zeroNd, 3) else if l.getD 65 0 ≠ 1 then (zeroNd, 3) else
  (if bytesN (sumN op (vecAt l 8 16) (vecAt l 24 16) (vecAt l 48 16) (vecAt l 66 6) true (vecAt l 44 4)) 2 = List.take 2 (List.drop 42 l) then (ndV op (vecAt l 8 16) (vecAt l 24 16) (vecAt l 48 16) (vecAt l 66 6) true (vecAt l 44 4), 0) else (zeroNd, 4))
def ndRest (l : List UInt8) (sz : Nat) : List Value × Int := if l.getD 40 0 = 135 then ndRest1 1 l sz else if l.getD 40 0 = 136 then ndRest1 2 l sz else (zeroNd, 3)
theorem ndRest_op1 (l : List UInt8) (sz : Nat) (h : l.getD 40 0 = 135) : ndRest l sz = ndRest1 1 l sz := by rw [ndRest, if_pos h]
theorem ndRest_op2 (l : List UInt8) (sz : Nat) (h : l.getD 40 0 = 136) : ndRest l sz = ndRest1 2 l sz := by rw [ndRest, if_neg (by rw [h]; decide), if_pos h]
theorem ndRest_no (l : List UInt8) (sz : Nat) (h1 : l.getD 40 0 ≠ 135) (h2 : l.getD 40 0 ≠ 136) : ndRest l sz = (zeroNd, 3) := by rw [ndRest, if_neg h1, if_neg h2]
theorem vecAt_inner (l : List UInt8) (sz k n : Nat) (h : k + n ≤ sz) (hl : 40 + sz ≤ l.length) : vecAt ((l.drop 40).take sz) k n = vecAt l (40 + k) n := by
 apply Vector.ext
 intro i hi
 simp only [vecAt, Vector.getElem_ofFn]
 rw [List.getD_eq_getElem?_getD, List.getD_eq_getElem?_getD, List.getElem?_take_of_lt (by omega), List.getElem?_drop, show 40 + (k + i) = 40 + k + i by omega]
theorem getD_inner (l : List UInt8) (sz k : Nat) (h : k < sz) (hl : 40 + sz ≤ l.length) (h2 : k < ((l.drop 40).take sz).length) : ((l.drop 40).take sz)[k] = l.getD (40 + k) 0 := by
 rw [List.getElem_take, List.getElem_drop, List.getD_eq_getElem?_getD, List.getElem?_eq_getElem (by omega)]
 rfl
theorem numAt_inner (l : List UInt8) (sz : Nat) (h : 4 ≤ sz) : numAt ((l.drop 40).take sz) 2 = numAt l 42 := by
 rw [numAt, numAt, List.drop_take, List.take_take, List.drop_drop, Nat.min_eq_left (by omega)]
theorem sum_iff (l : List UInt8) (h : 64 ≤ l.length) (n : Nat) (hn : n ≤ 65535) : bytesN n 2 = List.take 2 (List.drop 42 l) ↔ numAt l 42 = n := by
 rw [← two_numAt l 42 (by omega)]
 constructor
 ·
  intro h2
  have h3 := congrArg numN h2
  rw [numN_bytesN, numN_bytesN] at h3
  have := numAt_lt l 42
  omega
 ·
  intro h2
  rw [h2]
theorem ndRest_prog (l : List UInt8) (hl : 64 ≤ l.length) (hl2 : l.length ≤ 10000) (sz : Nat) (hsz : numAt l 4 = sz) (hs : sz = 24 ∨ sz = 32) (h0 : l[0] = 96) (h6 : l[6] = 58) (h7 : l[7] = 255) (hls : 40 + sz ≤ l.length) : ParsesN l (ndRest l sz).1 (ndRest l sz).2 := by
 obtain ⟨m, hm⟩ : ∃ m, (l.drop 40).take sz = m := ⟨_, rfl⟩
 have hml : m.length = sz := by rw [← hm, List.length_take, List.length_drop]; omega
 have REF : ∀ n, refused m n (vecAt l 8 16) (vecAt l 24 16) ip0 mac0 four0 0 → ParsesN l zeroNd n := fun n H w => ndParse_refused l m n w hl hl2 sz hsz hs hls h0 h6 h7 hm H
 have g0 : m[0] = l.getD 40 0 := by subst hm; exact getD_inner l sz 0 (by omega) hls _
 have g1 : m[1] = l.getD 41 0 := by subst hm; exact getD_inner l sz 1 (by omega) hls _
 have v8 : vecAt m 8 16 = vecAt l 48 16 := by subst hm; exact vecAt_inner l sz 8 16 (by omega) hls
 have v4 : vecAt m 4 4 = vecAt l 44 4 := by subst hm; exact vecAt_inner l sz 4 4 (by omega) hls
 have n2 : numAt m 2 = numAt l 42 := by subst hm; exact numAt_inner l sz (by omega)
 have opcase : ∀ (op : Nat), (op = 1 ∨ op = 2) → l.getD 40 0 = UInt8.ofNat (134 + op) → ndRest l sz = ndRest1 op l sz → ParsesN l (ndRest1 op l sz).1 (ndRest1 op l sz).2 := by
  intro op hop a e
  unfold ndRest1
  by_cases b : l.getD 41 0 = 0
  ·
   rw [if_neg (by rw [b]; simp)]
   rcases hs with rfl | rfl
   ·
    rw [if_pos rfl]
    by_cases c : bytesN (sumN op (vecAt l 8 16) (vecAt l 24 16) (vecAt l 48 16) mac0 false (vecAt l 44 4)) 2 = List.take 2 (List.drop 42 l)
    ·
     rw [if_pos c]
     have c2 := (sum_iff l hl _ (sumN_le _ _ _ _ _ _ _)).1 c
     intro w
     rcases hop with rfl | rfl
     ·
      have := ndParse_small_op1 l m w hl hl2 hsz hls h0 h6 h7 hm hml (by rw [g0]; exact a) (by rw [g1]; exact b) (by rw [v8, v4, n2]; exact c2)
      rw [v8, v4] at this
      exact this
     ·
      have := ndParse_small_op2 l m w hl hl2 hsz hls h0 h6 h7 hm hml (by rw [g0]; exact a) (by rw [g1]; exact b) (by rw [v8, v4, n2]; exact c2)
      rw [v8, v4] at this
      exact this
    ·
     rw [if_neg c]
     have c2 := fun h => c ((sum_iff l hl _ (sumN_le _ _ _ _ _ _ _)).2 h)
     rcases hop with rfl | rfl
     ·
      exact REF 4 (told_sum_small_op1 m _ _ _ _ _ _ hml (by rw [g0]; exact a) (by rw [g1]; exact b) (by rw [v8, v4, n2]; exact c2))
     ·
      exact REF 4 (told_sum_small_op2 m _ _ _ _ _ _ hml (by rw [g0]; exact a) (by rw [g1]; exact b) (by rw [v8, v4, n2]; exact c2))
   ·
    rw [if_neg (by decide)]
    have g24 : m[24] = l.getD 64 0 := by subst hm; exact getD_inner l 32 24 (by omega) hls _
    have g25 : m[25] = l.getD 65 0 := by subst hm; exact getD_inner l 32 25 (by omega) hls _
    have v26 : vecAt m 26 6 = vecAt l 66 6 := by subst hm; exact vecAt_inner l 32 26 6 (by omega) hls
    by_cases d : l.getD 64 0 = UInt8.ofNat op
    ·
     rw [if_neg (by rw [d]; simp)]
     by_cases f : l.getD 65 0 = 1
     ·
      rw [if_neg (by rw [f]; simp)]
      by_cases c : bytesN (sumN op (vecAt l 8 16) (vecAt l 24 16) (vecAt l 48 16) (vecAt l 66 6) true (vecAt l 44 4)) 2 = List.take 2 (List.drop 42 l)
      ·
       rw [if_pos c]
       have c2 := (sum_iff l hl _ (sumN_le _ _ _ _ _ _ _)).1 c
       intro w
       rcases hop with rfl | rfl
       ·
        have := ndParse_large_op1 l m w hl hl2 hsz hls h0 h6 h7 hm hml (by rw [g0]; exact a) (by rw [g1]; exact b) (by rw [g24]; exact d) (by rw [g25]; exact f) (by rw [v8, v4, v26, n2]; exact c2)
        rw [v8, v4, v26] at this
        exact this
       ·
        have := ndParse_large_op2 l m w hl hl2 hsz hls h0 h6 h7 hm hml (by rw [g0]; exact a) (by rw [g1]; exact b) (by rw [g24]; exact d) (by rw [g25]; exact f) (by rw [v8, v4, v26, n2]; exact c2)
        rw [v8, v4, v26] at this
        exact this
      ·
       rw [if_neg c]
       have c2 := fun h => c ((sum_iff l hl _ (sumN_le _ _ _ _ _ _ _)).2 h)
       rcases hop with rfl | rfl
       ·
        exact REF 4 (told_sum_large_op1 m _ _ _ _ _ _ hml (by rw [g0]; exact a) (by rw [g1]; exact b) (by rw [g24]; exact d) (by rw [g25]; exact f) (by rw [v8, v4, v26, n2]; exact c2))
       ·
        exact REF 4 (told_sum_large_op2 m _ _ _ _ _ _ hml (by rw [g0]; exact a) (by rw [g1]; exact b) (by rw [g24]; exact d) (by rw [g25]; exact f) (by rw [v8, v4, v26, n2]; exact c2))
     ·
      rw [if_pos f]
      rcases hop with rfl | rfl
      ·
       exact REF 3 (told_bad25_op1 m _ _ _ _ _ _ hml (by rw [g0]; exact a) (by rw [g1]; exact b) (by rw [g24]; exact d) (by rw [g25]; exact f))
      ·
       exact REF 3 (told_bad25_op2 m _ _ _ _ _ _ hml (by rw [g0]; exact a) (by rw [g1]; exact b) (by rw [g24]; exact d) (by rw [g25]; exact f))
    ·
     rw [if_pos d]
     rcases hop with rfl | rfl
     ·
      exact REF 3 (told_bad24_op1 m _ _ _ _ _ _ hml (by rw [g0]; exact a) (by rw [g1]; exact b) (by rw [g24]; exact d))
     ·
      exact REF 3 (told_bad24_op2 m _ _ _ _ _ _ hml (by rw [g0]; exact a) (by rw [g1]; exact b) (by rw [g24]; exact d))
  ·
   rw [if_pos b]
   rcases hop with rfl | rfl
   ·
    exact REF 3 (told_bad1_op1 m _ _ _ _ _ _ (by omega) (by rw [g0]; exact a) (by rw [g1]; exact b))
   ·
    exact REF 3 (told_bad1_op2 m _ _ _ _ _ _ (by omega) (by rw [g0]; exact a) (by rw [g1]; exact b))
 by_cases a1 : l.getD 40 0 = 135
 ·
  rw [ndRest_op1 l sz a1]
  exact opcase 1 (.inl rfl) a1 (ndRest_op1 l sz a1)
 by_cases a2 : l.getD 40 0 = 136
 ·
  rw [ndRest_op2 l sz a2]
  exact opcase 2 (.inr rfl) a2 (ndRest_op2 l sz a2)
 rw [ndRest_no l sz a1 a2]
 exact REF 3 (told_badop m _ _ _ _ _ _ (by omega) (by rw [g0]; exact a1) (by rw [g0]; exact a2))
structure NdProg (l : List UInt8) (op : Nat) (fr to ab : Vector UInt8 16) (mac : Vector UInt8 6) (has : Bool) (fl : Vector UInt8 4) (n : Int) : Prop where
 prog : ParsesN l (ndV op fr to ab mac has fl) n
 good : n = 0 → (op = 1 ∨ op = 2) ∧ (has = false → mac = mac0)
theorem nd_prog (l : List UInt8) (hl2 : l.length ≤ 10000) : ∃ op fr to ab mac has fl n, NdProg l op fr to ab mac has fl n := by
 have bad : ∀ n : Int, n ≠ 0 → ParsesN l zeroNd n → ∃ op fr to ab mac has fl n, NdProg l op fr to ab mac has fl n := fun n hn h1 => ⟨0, ip0, ip0, ip0, mac0, false, four0, n, h1, fun h => absurd h hn⟩
 by_cases hl : l.length < 64
 ·
  exact bad 2 (by decide) (ndParse_head l 2 fun X w => headed_short l X w hl)
 by_cases hh : headOk l = false
 ·
  exact bad 3 (by decide) (ndParse_head l 3 fun X w => headed_form l X w (by omega) hl2 hh)
 have hh2 : headOk l = true := by simpa using hh
 unfold headOk at hh2
 simp only [Bool.and_eq_true, Bool.or_eq_true, beq_iff_eq] at hh2
 obtain ⟨⟨⟨q0, q6⟩, q7⟩, hs⟩ := hh2
 rw [getD_elmU _ _ _ (by omega)] at q0 q6 q7
 have h0 : l[0] = 96 := UInt8.toNat_inj.1 (by show l[0].toNat = 96; omega)
 have h6 : l[6] = 58 := UInt8.toNat_inj.1 (by show l[6].toNat = 58; omega)
 have h7 : l[7] = 255 := UInt8.toNat_inj.1 (by show l[7].toNat = 255; omega)
 by_cases hc : l.length < 40 + numAt l 4
 ·
  rcases hs with hs | hs
  ·
   omega
  ·
   exact bad 2 (by decide) (ndParse_head l 2 fun X w => headed_cut l X w (by omega) 32 hs (.inr rfl) h0 h6 h7 (by omega))
 have hp := ndRest_prog l (by omega) hl2 _ rfl hs h0 h6 h7 (by omega)
 have one : ∀ op, (op = 1 ∨ op = 2) → ndRest l (numAt l 4) = ndRest1 op l (numAt l 4) → ∃ op fr to ab mac has fl n, NdProg l op fr to ab mac has fl n := by
  intro op hop e
  rw [e] at hp
  unfold ndRest1 at hp
  by_cases b : l.getD 41 0 ≠ 0
  ·
   rw [if_pos b] at hp
   exact bad 3 (by decide) hp
  rw [if_neg b] at hp
  by_cases c : numAt l 4 = 24
  ·
   rw [if_pos c] at hp
   by_cases d : bytesN (sumN op (vecAt l 8 16) (vecAt l 24 16) (vecAt l 48 16) mac0 false (vecAt l 44 4)) 2 = List.take 2 (List.drop 42 l)
   ·
    rw [if_pos d] at hp
    exact ⟨op, _, _, _, _, _, _, 0, hp, fun _ => ⟨hop, fun _ => rfl⟩⟩
   ·
    rw [if_neg d] at hp
    exact bad 4 (by decide) hp
  rw [if_neg c] at hp
  by_cases f : l.getD 64 0 ≠ UInt8.ofNat op
  ·
   rw [if_pos f] at hp
   exact bad 3 (by decide) hp
  rw [if_neg f] at hp
  by_cases g : l.getD 65 0 ≠ 1
  ·
   rw [if_pos g] at hp
   exact bad 3 (by decide) hp
  rw [if_neg g] at hp
  by_cases d : bytesN (sumN op (vecAt l 8 16) (vecAt l 24 16) (vecAt l 48 16) (vecAt l 66 6) true (vecAt l 44 4)) 2 = List.take 2 (List.drop 42 l)
  ·
   rw [if_pos d] at hp
   exact ⟨op, _, _, _, _, _, _, 0, hp, fun _ => ⟨hop, fun h => by cases h⟩⟩
  ·
   rw [if_neg d] at hp
   exact bad 4 (by decide) hp
 by_cases a1 : l.getD 40 0 = 135
 ·
  exact one 1 (.inl rfl) (ndRest_op1 l _ a1)
 by_cases a2 : l.getD 40 0 = 136
 ·
  exact one 2 (.inr rfl) (ndRest_op2 l _ a2)
 rw [ndRest_no l _ a1 a2] at hp
 exact bad 3 (by decide) hp
end
end Go.Proofs.YtfopoijikdmiaaaGreatDoor
