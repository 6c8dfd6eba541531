/- Texts of this proof, merged: NdX3, NdX2. -/
import Derived.Test.YtckckabedgpbiaaGreatJ19
import Derived.Test.YtckckabedgpbiaaGreatRegJ
set_option linter.unusedSimpArgs false
set_option linter.unusedVariables false
set_option maxRecDepth 4000
namespace Go.Proofs.YtckckabedgpbiaaGreat
section
open Go.RowKit
section
variable (m : List UInt8) (fr to ab : Vector UInt8 16) (mac : Vector UInt8 6) (fl : Vector UInt8 4) (op0 : Int)
set_option maxRecDepth 20000 in
set_option maxHeartbeats 2000000 in
theorem told_bad24_op1 (hl : m.length = 32) (h0 : m[0] = 135) (h1 : m[1] = 0) (h24 : m[24] ≠ 1) : refused m 3 fr to ab mac fl op0 := by
 intro X w hX hXw
 have hXw2 : X < w.heap.size + 1 := by omega
 have hset : ∀ (W : World) (c : Array Value), (row W X).size = 60 → c.size = 60 → row (W.setRow X c) X = c := fun W c h1 h2 => row_setRow_same (by omega) (by omega)
 have g0 : m[0].toNat = 135 := by rw [h0]; rfl
 have g1 : m[1].toNat = 0 := by rw [h1]; rfl
 have hm4 : min 4 (m.length - 4) = 4 := by omega
 have hm8 : min 16 (m.length - 8) = 16 := by omega
 have e4 : u8s (List.take 4 (List.drop 4 m)) = u8v (vecAt m 4 4) := (u8v_vecAt _ _ _ (by omega)).symm
 have e8 : u8s (List.take 16 (List.drop 8 m)) = u8v (vecAt m 8 16) := (u8v_vecAt _ _ _ (by omega)).symm
 have n24 : m[24].toNat ≠ 1 := fun h => h24 (UInt8.toNat_inj.1 h)
 have q24 : m[24].toNat < 256 := m[24].toNat_lt
 obtain ⟨c, hc⟩ : ∃ c, m[24].toNat = c := ⟨_, rfl⟩
 rw [hc] at n24 q24
 have w1 : wrap64 (c : Int) = c := by unfold wrap64; omega
 have w1b : IntKind.i64.wrap (c : Int) = c := by rw [IntWalk.i64_left]; exact w1
 have c1 : ((c : Int) == 1) = false := by simp; omega
 clear n24 q24
 have hXw3 : X < w.heap.size + 1 + 1 := by omega
 have hm26 : min 6 (m.length - 26) = 6 := by omega
 have e26 : u8s (List.drop 26 m) = u8v (vecAt m 26 6) := by rw [u8v_vecAt _ _ _ (by omega), List.take_of_length_le (by simp; omega)]
 clear h0 h1 h24
 go_enter Tryz.func96, Tryz.ntmps96
 go_wp2_with fail
 refine (nmust_ok _ _).mono ?_
 rintro e w1 ⟨rfl, rfl⟩
 go_wp2_with fail
 go_region
 all_goals
  go_wp2_with fail
  refine wp_region_beginR [(X, (.int .i64 1 :: (u8v fr ++ (u8v to ++ (u8v (vecAt m 8 16) ++ (u8v mac ++ (.bool false :: u8v (vecAt m 4 4))))))).toArray)] rfl (by simp only [Rws]; (repeat (first | exact trivial | refine ⟨(by first | assumption | (simp [go_sem, *]; done)), (by first | omega | (simp; done) | (simp; omega)), ?_⟩))) (fun hS => ?_)
  refine qp 0 hS ?_
  refine qp 1 hS ?_
  refine qp 2 hS ?_
  refine qp 3 hS ?_
  refine qp 4 hS ?_
  refine qp 5 hS ?_
  refine qp 6 hS ?_
  refine qp 7 hS ?_
  refine qp 8 hS ?_
  refine qn 9 hS ?_
  refine qn 10 hS ?_
  refine qn 11 hS ?_
  refine qp 12 hS ?_
  refine wpAnyR_all (rs := [13]) (by kernel_rfl) (by simp) (Rws.grow _) hS (fun u1 hu1 hSW => ?_)
  intro i hi
  obtain rfl := List.mem_singleton.1 hi
  refine wpOp_step rfl (fun K hK => ?_)
  simp only [Rws] at hSW
  clear hi hS
  go_simp
  refine (nmust_no _ _).mono ?_
  rintro e w1 ⟨rfl, rfl⟩
  refine ⟨rfl, rfl, .int .i64 1 :: (u8v fr ++ (u8v to ++ (u8v (vecAt m 8 16) ++ (u8v mac ++ (.bool false :: u8v (vecAt m 4 4)))))), by simp, ?_⟩
  refine Below.trans ?_ (Below.mono hu1 (by first | (simp; done) | (simp; omega) | omega))
  (repeat (first | exact Below.refl _ _ | refine Below.al ?_ _ | refine Below.drew ?_ | refine Below.sr ?_ _ | refine Below.sc ?_ _))
set_option maxRecDepth 20000 in
set_option maxHeartbeats 2000000 in
theorem told_bad24_op2 (hl : m.length = 32) (h0 : m[0] = 136) (h1 : m[1] = 0) (h24 : m[24] ≠ 2) : refused m 3 fr to ab mac fl op0 := by
 intro X w hX hXw
 have hXw2 : X < w.heap.size + 1 := by omega
 have hset : ∀ (W : World) (c : Array Value), (row W X).size = 60 → c.size = 60 → row (W.setRow X c) X = c := fun W c h1 h2 => row_setRow_same (by omega) (by omega)
 have g0 : m[0].toNat = 136 := by rw [h0]; rfl
 have g1 : m[1].toNat = 0 := by rw [h1]; rfl
 have hm4 : min 4 (m.length - 4) = 4 := by omega
 have hm8 : min 16 (m.length - 8) = 16 := by omega
 have e4 : u8s (List.take 4 (List.drop 4 m)) = u8v (vecAt m 4 4) := (u8v_vecAt _ _ _ (by omega)).symm
 have e8 : u8s (List.take 16 (List.drop 8 m)) = u8v (vecAt m 8 16) := (u8v_vecAt _ _ _ (by omega)).symm
 have n24 : m[24].toNat ≠ 2 := fun h => h24 (UInt8.toNat_inj.1 h)
 have q24 : m[24].toNat < 256 := m[24].toNat_lt
 obtain ⟨c, hc⟩ : ∃ c, m[24].toNat = c := ⟨_, rfl⟩
 rw [hc] at n24 q24
 have w1 : wrap64 (c : Int) = c := by unfold wrap64; omega
 have w1b : IntKind.i64.wrap (c : Int) = c := by rw [IntWalk.i64_left]; exact w1
 have c1 : ((c : Int) == 2) = false := by simp; omega
 clear n24 q24
 have hXw3 : X < w.heap.size + 1 + 1 := by omega
 have hm26 : min 6 (m.length - 26) = 6 := by omega
 have e26 : u8s (List.drop 26 m) = u8v (vecAt m 26 6) := by rw [u8v_vecAt _ _ _ (by omega), List.take_of_length_le (by simp; omega)]
 clear h0 h1 h24
 go_enter Tryz.func96, Tryz.ntmps96
 go_wp2_with fail
 refine (nmust_ok _ _).mono ?_
 rintro e w1 ⟨rfl, rfl⟩
 go_wp2_with fail
 go_region
 all_goals
  go_wp2_with fail
  refine wp_region_beginR [(X, (.int .i64 2 :: (u8v fr ++ (u8v to ++ (u8v (vecAt m 8 16) ++ (u8v mac ++ (.bool false :: u8v (vecAt m 4 4))))))).toArray)] rfl (by simp only [Rws]; (repeat (first | exact trivial | refine ⟨(by first | assumption | (simp [go_sem, *]; done)), (by first | omega | (simp; done) | (simp; omega)), ?_⟩))) (fun hS => ?_)
  refine qp 0 hS ?_
  refine qp 1 hS ?_
  refine qp 2 hS ?_
  refine qp 3 hS ?_
  refine qp 4 hS ?_
  refine qp 5 hS ?_
  refine qp 6 hS ?_
  refine qp 7 hS ?_
  refine qp 8 hS ?_
  refine qn 9 hS ?_
  refine qn 10 hS ?_
  refine qn 11 hS ?_
  refine qp 12 hS ?_
  refine wpAnyR_all (rs := [13]) (by kernel_rfl) (by simp) (Rws.grow _) hS (fun u1 hu1 hSW => ?_)
  intro i hi
  obtain rfl := List.mem_singleton.1 hi
  refine wpOp_step rfl (fun K hK => ?_)
  simp only [Rws] at hSW
  clear hi hS
  go_simp
  refine (nmust_no _ _).mono ?_
  rintro e w1 ⟨rfl, rfl⟩
  refine ⟨rfl, rfl, .int .i64 2 :: (u8v fr ++ (u8v to ++ (u8v (vecAt m 8 16) ++ (u8v mac ++ (.bool false :: u8v (vecAt m 4 4)))))), by simp, ?_⟩
  refine Below.trans ?_ (Below.mono hu1 (by first | (simp; done) | (simp; omega) | omega))
  (repeat (first | exact Below.refl _ _ | refine Below.al ?_ _ | refine Below.drew ?_ | refine Below.sr ?_ _ | refine Below.sc ?_ _))
set_option maxRecDepth 20000 in
set_option maxHeartbeats 2000000 in
theorem told_bad25_op1 (hl : m.length = 32) (h0 : m[0] = 135) (h1 : m[1] = 0) (h24 : m[24] = 1) (h25 : m[25] ≠ 1) : refused m 3 fr to ab mac fl op0 := by
 intro X w hX hXw
 have hXw2 : X < w.heap.size + 1 := by omega
 have hset : ∀ (W : World) (c : Array Value), (row W X).size = 60 → c.size = 60 → row (W.setRow X c) X = c := fun W c h1 h2 => row_setRow_same (by omega) (by omega)
 have g0 : m[0].toNat = 135 := by rw [h0]; rfl
 have g1 : m[1].toNat = 0 := by rw [h1]; rfl
 have hm4 : min 4 (m.length - 4) = 4 := by omega
 have hm8 : min 16 (m.length - 8) = 16 := by omega
 have e4 : u8s (List.take 4 (List.drop 4 m)) = u8v (vecAt m 4 4) := (u8v_vecAt _ _ _ (by omega)).symm
 have e8 : u8s (List.take 16 (List.drop 8 m)) = u8v (vecAt m 8 16) := (u8v_vecAt _ _ _ (by omega)).symm
 have g24 : m[24].toNat = 1 := by rw [h24]; rfl
 have n25 : m[25].toNat ≠ 1 := fun h => h25 (UInt8.toNat_inj.1 h)
 obtain ⟨c, hc⟩ : ∃ c, m[25].toNat = c := ⟨_, rfl⟩
 rw [hc] at n25
 have c1 : ((c : Int) == 1) = false := by simp; omega
 clear n25
 have hXw3 : X < w.heap.size + 1 + 1 := by omega
 have hm26 : min 6 (m.length - 26) = 6 := by omega
 have e26 : u8s (List.drop 26 m) = u8v (vecAt m 26 6) := by rw [u8v_vecAt _ _ _ (by omega), List.take_of_length_le (by simp; omega)]
 clear h0 h1 h24 h25
 go_enter Tryz.func96, Tryz.ntmps96
 go_wp2_with fail
 refine (nmust_ok _ _).mono ?_
 rintro e w1 ⟨rfl, rfl⟩
 go_wp2_with fail
 go_region
 all_goals
  go_wp2_with fail
  refine wp_region_beginR [(X, (.int .i64 1 :: (u8v fr ++ (u8v to ++ (u8v (vecAt m 8 16) ++ (u8v mac ++ (.bool false :: u8v (vecAt m 4 4))))))).toArray)] rfl (by simp only [Rws]; (repeat (first | exact trivial | refine ⟨(by first | assumption | (simp [go_sem, *]; done)), (by first | omega | (simp; done) | (simp; omega)), ?_⟩))) (fun hS => ?_)
  refine qp 0 hS ?_
  refine qp 1 hS ?_
  refine qp 2 hS ?_
  refine qp 3 hS ?_
  refine qp 4 hS ?_
  refine qp 5 hS ?_
  refine qp 6 hS ?_
  refine qp 7 hS ?_
  refine qp 8 hS ?_
  refine qp 9 hS ?_
  refine qp 10 hS ?_
  refine qp 11 hS ?_
  refine qp 12 hS ?_
  refine wpAnyR_all (rs := [13]) (by kernel_rfl) (by simp) (Rws.grow _) hS (fun u1 hu1 hSW => ?_)
  intro i hi
  obtain rfl := List.mem_singleton.1 hi
  refine wpOp_step rfl (fun K hK => ?_)
  simp only [Rws] at hSW
  clear hi hS
  go_simp
  refine (nmust_no _ _).mono ?_
  rintro e w1 ⟨rfl, rfl⟩
  refine ⟨rfl, rfl, .int .i64 1 :: (u8v fr ++ (u8v to ++ (u8v (vecAt m 8 16) ++ (u8v mac ++ (.bool false :: u8v (vecAt m 4 4)))))), by simp, ?_⟩
  refine Below.trans ?_ (Below.mono hu1 (by first | (simp; done) | (simp; omega) | omega))
  (repeat (first | exact Below.refl _ _ | refine Below.al ?_ _ | refine Below.drew ?_ | refine Below.sr ?_ _ | refine Below.sc ?_ _))
set_option maxRecDepth 20000 in
set_option maxHeartbeats 2000000 in
theorem told_bad25_op2 (hl : m.length = 32) (h0 : m[0] = 136) (h1 : m[1] = 0) (h24 : m[24] = 2) (h25 : m[25] ≠ 1) : refused m 3 fr to ab mac fl op0 := by
 intro X w hX hXw
 have hXw2 : X < w.heap.size + 1 := by omega
 have hset : ∀ (W : World) (c : Array Value), (row W X).size = 60 → c.size = 60 → row (W.setRow X c) X = c := fun W c h1 h2 => row_setRow_same (by omega) (by omega)
 have g0 : m[0].toNat = 136 := by rw [h0]; rfl
 have g1 : m[1].toNat = 0 := by rw [h1]; rfl
 have hm4 : min 4 (m.length - 4) = 4 := by omega
 have hm8 : min 16 (m.length - 8) = 16 := by omega
 have e4 : u8s (List.take 4 (List.drop 4 m)) = u8v (vecAt m 4 4) := (u8v_vecAt _ _ _ (by omega)).symm
 have e8 : u8s (List.take 16 (List.drop 8 m)) = u8v (vecAt m 8 16) := (u8v_vecAt _ _ _ (by omega)).symm
 have g24 : m[24].toNat = 2 := by rw [h24]; rfl
 have n25 : m[25].toNat ≠ 1 := fun h => h25 (UInt8.toNat_inj.1 h)
 obtain ⟨c, hc⟩ : ∃ c, m[25].toNat = c := ⟨_, rfl⟩
 rw [hc] at n25
 have c1 : ((c : Int) == 1) = false := by simp; omega
 clear n25
 have hXw3 : X < w.heap.size + 1 + 1 := by omega
 have hm26 : min 6 (m.length - 26) = 6 := by omega
 have e26 : u8s (List.drop 26 m) = u8v (vecAt m 26 6) := by rw [u8v_vecAt _ _ _ (by omega), List.take_of_length_le (by simp; omega)]
 clear h0 h1 h24 h25
 go_enter Tryz.func96, Tryz.ntmps96
 go_wp2_with fail
 refine (nmust_ok _ _).mono ?_
 rintro e w1 ⟨rfl, rfl⟩
 go_wp2_with fail
 go_region
 all_goals
  go_wp2_with fail
  refine wp_region_beginR [(X, (.int .i64 2 :: (u8v fr ++ (u8v to ++ (u8v (vecAt m 8 16) ++ (u8v mac ++ (.bool false :: u8v (vecAt m 4 4))))))).toArray)] rfl (by simp only [Rws]; (repeat (first | exact trivial | refine ⟨(by first | assumption | (simp [go_sem, *]; done)), (by first | omega | (simp; done) | (simp; omega)), ?_⟩))) (fun hS => ?_)
  refine qp 0 hS ?_
  refine qp 1 hS ?_
  refine qp 2 hS ?_
  refine qp 3 hS ?_
  refine qp 4 hS ?_
  refine qp 5 hS ?_
  refine qp 6 hS ?_
  refine qp 7 hS ?_
  refine qp 8 hS ?_
  refine qp 9 hS ?_
  refine qp 10 hS ?_
  refine qp 11 hS ?_
  refine qp 12 hS ?_
  refine wpAnyR_all (rs := [13]) (by kernel_rfl) (by simp) (Rws.grow _) hS (fun u1 hu1 hSW => ?_)
  intro i hi
  obtain rfl := List.mem_singleton.1 hi
  refine wpOp_step rfl (fun K hK => ?_)
  simp only [Rws] at hSW
  clear hi hS
  go_simp
  refine (nmust_no _ _).mono ?_
  rintro e w1 ⟨rfl, rfl⟩
  refine ⟨rfl, rfl, .int .i64 2 :: (u8v fr ++ (u8v to ++ (u8v (vecAt m 8 16) ++ (u8v mac ++ (.bool false :: u8v (vecAt m 4 4)))))), by simp, ?_⟩
  refine Below.trans ?_ (Below.mono hu1 (by first | (simp; done) | (simp; omega) | omega))
  (repeat (first | exact Below.refl _ _ | refine Below.al ?_ _ | refine Below.drew ?_ | refine Below.sr ?_ _ | refine Below.sc ?_ _))
end
end
section
open Go.RowKit
section
variable (m : List UInt8) (fr to ab : Vector UInt8 16) (mac : Vector UInt8 6) (fl : Vector UInt8 4) (op0 : Int)
set_option maxRecDepth 20000 in
set_option maxHeartbeats 2000000 in
theorem told_sum_small_op1 (hl : m.length = 24) (h0 : m[0] = 135) (h1 : m[1] = 0)
  (hs : numAt m 2 ≠ sumN 1 fr to (vecAt m 8 16) mac false (vecAt m 4 4)) : refused m 4 fr to ab mac fl op0 := by
 intro X w hX hXw
 have hXw2 : X < w.heap.size + 1 := by omega
 have hset : ∀ (W : World) (c : Array Value), (row W X).size = 60 → c.size = 60 → row (W.setRow X c) X = c := fun W c h1 h2 => row_setRow_same (by omega) (by omega)
 have g0 : m[0].toNat = 135 := by rw [h0]; rfl
 have g1 : m[1].toNat = 0 := by rw [h1]; rfl
 have hm4 : min 4 (m.length - 4) = 4 := by omega
 have hm8 : min 16 (m.length - 8) = 16 := by omega
 have e4 : u8s (List.take 4 (List.drop 4 m)) = u8v (vecAt m 4 4) := (u8v_vecAt _ _ _ (by omega)).symm
 have e8 : u8s (List.take 16 (List.drop 8 m)) = u8v (vecAt m 8 16) := (u8v_vecAt _ _ _ (by omega)).symm
 have e8b : u8s (List.drop 8 m) = u8v (vecAt m 8 16) := by rw [← e8, List.take_of_length_le (by simp; omega)]
 have Hs := ndsum_op1 fr to (vecAt m 8 16) mac false (vecAt m 4 4)
 obtain ⟨su, hsu⟩ : ∃ s, sumN 1 fr to (vecAt m 8 16) mac false (vecAt m 4 4) = s := ⟨_, rfl⟩
 rw [hsu] at Hs
 unfold ndV at Hs
 have HS := Lib.hid Hs
 have H01 := Lib.hid (And.intro h0 (And.intro h1 hs))
 obtain ⟨sm, hsm⟩ : ∃ s, numAt m 2 = s := ⟨_, rfl⟩
 have hne : ((sm : Int) == (su : Int)) = false := by
  rw [hsm, hsu] at hs
  simp
  omega
 clear Hs h0 h1 hs hsu
 go_enter Tryz.func96, Tryz.ntmps96
 go_wp2_with fail
 refine (nmust_ok _ _).mono ?_
 rintro e w1 ⟨rfl, rfl⟩
 go_wp2_with fail
 go_region
 all_goals
  go_wp2_with fail
  refine (number_any _ _ (by simp [ByteArray.size]; omega)).mono ?_
  rintro e w1 ⟨rfl, rfl⟩
  rw [show numN (ByteArray.mk (List.take 2 (List.drop 2 m)).toArray).data.toList = sm from hsm]
  go_wp2_with fail
  refine (HS.out _).mono ?_
  rintro e w2 ⟨rfl, hb2⟩
  have z2 := (hb2).size
  try simp at z2
  go_wp2_with fail
  refine (nmust_no _ _).mono ?_
  rintro e w1 ⟨rfl, rfl⟩
  refine ⟨rfl, rfl, .int .i64 1 :: (u8v fr ++ (u8v to ++ (u8v (vecAt m 8 16) ++ (u8v mac ++ (.bool false :: u8v (vecAt m 4 4)))))), by simp, ?_⟩
  refine Below.trans ?_ (Below.mono hb2 (by first | (simp; done) | (simp; omega) | omega))
  (repeat (first | exact Below.refl _ _ | refine Below.al ?_ _ | refine Below.drew ?_ | refine Below.sr ?_ _ | refine Below.sc ?_ _))
set_option maxRecDepth 20000 in
set_option maxHeartbeats 2000000 in
theorem told_sum_small_op2 (hl : m.length = 24) (h0 : m[0] = 136) (h1 : m[1] = 0)
  (hs : numAt m 2 ≠ sumN 2 fr to (vecAt m 8 16) mac false (vecAt m 4 4)) : refused m 4 fr to ab mac fl op0 := by
 intro X w hX hXw
 have hXw2 : X < w.heap.size + 1 := by omega
 have hset : ∀ (W : World) (c : Array Value), (row W X).size = 60 → c.size = 60 → row (W.setRow X c) X = c := fun W c h1 h2 => row_setRow_same (by omega) (by omega)
 have g0 : m[0].toNat = 136 := by rw [h0]; rfl
 have g1 : m[1].toNat = 0 := by rw [h1]; rfl
 have hm4 : min 4 (m.length - 4) = 4 := by omega
 have hm8 : min 16 (m.length - 8) = 16 := by omega
 have e4 : u8s (List.take 4 (List.drop 4 m)) = u8v (vecAt m 4 4) := (u8v_vecAt _ _ _ (by omega)).symm
 have e8 : u8s (List.take 16 (List.drop 8 m)) = u8v (vecAt m 8 16) := (u8v_vecAt _ _ _ (by omega)).symm
 have e8b : u8s (List.drop 8 m) = u8v (vecAt m 8 16) := by rw [← e8, List.take_of_length_le (by simp; omega)]
 have Hs := ndsum_op2 fr to (vecAt m 8 16) mac false (vecAt m 4 4)
 obtain ⟨su, hsu⟩ : ∃ s, sumN 2 fr to (vecAt m 8 16) mac false (vecAt m 4 4) = s := ⟨_, rfl⟩
 rw [hsu] at Hs
 unfold ndV at Hs
 have HS := Lib.hid Hs
 have H01 := Lib.hid (And.intro h0 (And.intro h1 hs))
 obtain ⟨sm, hsm⟩ : ∃ s, numAt m 2 = s := ⟨_, rfl⟩
 have hne : ((sm : Int) == (su : Int)) = false := by
  rw [hsm, hsu] at hs
  simp
  omega
 clear Hs h0 h1 hs hsu
 go_enter Tryz.func96, Tryz.ntmps96
 go_wp2_with fail
 refine (nmust_ok _ _).mono ?_
 rintro e w1 ⟨rfl, rfl⟩
 go_wp2_with fail
 go_region
 all_goals
  go_wp2_with fail
  refine (number_any _ _ (by simp [ByteArray.size]; omega)).mono ?_
  rintro e w1 ⟨rfl, rfl⟩
  rw [show numN (ByteArray.mk (List.take 2 (List.drop 2 m)).toArray).data.toList = sm from hsm]
  go_wp2_with fail
  refine (HS.out _).mono ?_
  rintro e w2 ⟨rfl, hb2⟩
  have z2 := (hb2).size
  try simp at z2
  go_wp2_with fail
  refine (nmust_no _ _).mono ?_
  rintro e w1 ⟨rfl, rfl⟩
  refine ⟨rfl, rfl, .int .i64 2 :: (u8v fr ++ (u8v to ++ (u8v (vecAt m 8 16) ++ (u8v mac ++ (.bool false :: u8v (vecAt m 4 4)))))), by simp, ?_⟩
  refine Below.trans ?_ (Below.mono hb2 (by first | (simp; done) | (simp; omega) | omega))
  (repeat (first | exact Below.refl _ _ | refine Below.al ?_ _ | refine Below.drew ?_ | refine Below.sr ?_ _ | refine Below.sc ?_ _))
set_option maxRecDepth 20000 in
set_option maxHeartbeats 2000000 in
theorem told_sum_large_op1 (hl : m.length = 32) (h0 : m[0] = 135) (h1 : m[1] = 0) (h24 : m[24] = 1) (h25 : m[25] = 1)
  (hs : numAt m 2 ≠ sumN 1 fr to (vecAt m 8 16) (vecAt m 26 6) true (vecAt m 4 4)) : refused m 4 fr to ab mac fl op0 := by
 intro X w hX hXw
 have hXw2 : X < w.heap.size + 1 := by omega
 have hset : ∀ (W : World) (c : Array Value), (row W X).size = 60 → c.size = 60 → row (W.setRow X c) X = c := fun W c h1 h2 => row_setRow_same (by omega) (by omega)
 have g0 : m[0].toNat = 135 := by rw [h0]; rfl
 have g1 : m[1].toNat = 0 := by rw [h1]; rfl
 have hm4 : min 4 (m.length - 4) = 4 := by omega
 have hm8 : min 16 (m.length - 8) = 16 := by omega
 have e4 : u8s (List.take 4 (List.drop 4 m)) = u8v (vecAt m 4 4) := (u8v_vecAt _ _ _ (by omega)).symm
 have e8 : u8s (List.take 16 (List.drop 8 m)) = u8v (vecAt m 8 16) := (u8v_vecAt _ _ _ (by omega)).symm
 have g24 : m[24].toNat = 1 := by rw [h24]; rfl
 have g25 : m[25].toNat = 1 := by rw [h25]; rfl
 have hXw3 : X < w.heap.size + 1 + 1 := by omega
 have hm26 : min 6 (m.length - 26) = 6 := by omega
 have e26 : u8s (List.drop 26 m) = u8v (vecAt m 26 6) := by rw [u8v_vecAt _ _ _ (by omega), List.take_of_length_le (by simp; omega)]
 have Hs := ndsum_op1 fr to (vecAt m 8 16) (vecAt m 26 6) true (vecAt m 4 4)
 obtain ⟨su, hsu⟩ : ∃ s, sumN 1 fr to (vecAt m 8 16) (vecAt m 26 6) true (vecAt m 4 4) = s := ⟨_, rfl⟩
 rw [hsu] at Hs
 unfold ndV at Hs
 have HS := Lib.hid Hs
 have H01 := Lib.hid (And.intro h0 (And.intro h1 (And.intro h24 (And.intro h25 hs))))
 obtain ⟨sm, hsm⟩ : ∃ s, numAt m 2 = s := ⟨_, rfl⟩
 have hne : ((sm : Int) == (su : Int)) = false := by
  rw [hsm, hsu] at hs
  simp
  omega
 clear Hs h0 h1 hs h24 h25 hsu
 go_enter Tryz.func96, Tryz.ntmps96
 go_wp2_with fail
 refine (nmust_ok _ _).mono ?_
 rintro e w1 ⟨rfl, rfl⟩
 go_wp2_with fail
 go_region
 all_goals
  go_wp2_with fail
  refine wp_region_beginS (S := Held (fun w' => row w' X = (.int .i64 1 :: (u8v fr ++ (u8v to ++ (u8v (vecAt m 8 16) ++ (u8v mac ++ (.bool false :: u8v (vecAt m 4 4))))))).toArray)) rfl ?_ (fun hS => ?_)
  ·
   unfold Held
   simp [go_sem, hXw, hXw2, hXw3, hset, hX]
  refine rp 0 hS ?_
  refine rp 1 hS ?_
  refine rp 2 hS ?_
  refine rp 3 hS ?_
  refine rp 4 hS ?_
  refine rp 5 hS ?_
  refine rp 6 hS ?_
  refine rp 7 hS ?_
  refine rp 8 hS ?_
  refine rp 9 hS ?_
  refine rp 10 hS ?_
  refine rp 11 hS ?_
  refine rp 12 hS ?_
  have hS2 := hS
  unfold Held at hS2
  refine wpAnyH_all (rs := [13]) (by kernel_rfl) (by simp) ?_
  intro i hi
  obtain rfl := List.mem_singleton.1 hi
  refine wpOp_step rfl (fun K hK => ?_)
  clear hi hS
  go_simp
  refine (nmust_ok _ _).mono ?_
  rintro e w1 ⟨rfl, rfl⟩
  refine hK _ _ (wpAnyH_same hS2 (fun hS => ?_))
  clear hK K
  refine wpAnyH_done (by kernel_rfl) ?_ _
  go_wp2_with fail
  refine (number_any _ _ (by simp [ByteArray.size]; omega)).mono ?_
  rintro e w1 ⟨rfl, rfl⟩
  rw [show numN (ByteArray.mk (List.take 2 (List.drop 2 m)).toArray).data.toList = sm from hsm]
  go_wp2_with fail
  refine (HS.out _).mono ?_
  rintro e w2 ⟨rfl, hb2⟩
  have z2 := (hb2).size
  try simp at z2
  go_wp2_with fail
  refine (nmust_no _ _).mono ?_
  rintro e w1 ⟨rfl, rfl⟩
  refine ⟨rfl, rfl, .int .i64 1 :: (u8v fr ++ (u8v to ++ (u8v (vecAt m 8 16) ++ (u8v (vecAt m 26 6) ++ (.bool true :: u8v (vecAt m 4 4)))))), by simp, ?_⟩
  refine Below.trans ?_ (Below.mono hb2 (by first | (simp; done) | (simp; omega) | omega))
  (repeat (first | exact Below.refl _ _ | refine Below.al ?_ _ | refine Below.drew ?_ | refine Below.sr ?_ _ | refine Below.sc ?_ _))
set_option maxRecDepth 20000 in
set_option maxHeartbeats 2000000 in
theorem told_sum_large_op2 (hl : m.length = 32) (h0 : m[0] = 136) (h1 : m[1] = 0) (h24 : m[24] = 2) (h25 : m[25] = 1)
  (hs : numAt m 2 ≠ sumN 2 fr to (vecAt m 8 16) (vecAt m 26 6) true (vecAt m 4 4)) : refused m 4 fr to ab mac fl op0 := by
 intro X w hX hXw
 have hXw2 : X < w.heap.size + 1 := by omega
 have hset : ∀ (W : World) (c : Array Value), (row W X).size = 60 → c.size = 60 → row (W.setRow X c) X = c := fun W c h1 h2 => row_setRow_same (by omega) (by omega)
 have g0 : m[0].toNat = 136 := by rw [h0]; rfl
 have g1 : m[1].toNat = 0 := by rw [h1]; rfl
 have hm4 : min 4 (m.length - 4) = 4 := by omega
 have hm8 : min 16 (m.length - 8) = 16 := by omega
 have e4 : u8s (List.take 4 (List.drop 4 m)) = u8v (vecAt m 4 4) := (u8v_vecAt _ _ _ (by omega)).symm
 have e8 : u8s (List.take 16 (List.drop 8 m)) = u8v (vecAt m 8 16) := (u8v_vecAt _ _ _ (by omega)).symm
 have g24 : m[24].toNat = 2 := by rw [h24]; rfl
 have g25 : m[25].toNat = 1 := by rw [h25]; rfl
 have hXw3 : X < w.heap.size + 1 + 1 := by omega
 have hm26 : min 6 (m.length - 26) = 6 := by omega
 have e26 : u8s (List.drop 26 m) = u8v (vecAt m 26 6) := by rw [u8v_vecAt _ _ _ (by omega), List.take_of_length_le (by simp; omega)]
 have Hs := ndsum_op2 fr to (vecAt m 8 16) (vecAt m 26 6) true (vecAt m 4 4)
 obtain ⟨su, hsu⟩ : ∃ s, sumN 2 fr to (vecAt m 8 16) (vecAt m 26 6) true (vecAt m 4 4) = s := ⟨_, rfl⟩
 rw [hsu] at Hs
 unfold ndV at Hs
 have HS := Lib.hid Hs
 have H01 := Lib.hid (And.intro h0 (And.intro h1 (And.intro h24 (And.intro h25 hs))))
 obtain ⟨sm, hsm⟩ : ∃ s, numAt m 2 = s := ⟨_, rfl⟩
 have hne : ((sm : Int) == (su : Int)) = false := by
  rw [hsm, hsu] at hs
  simp
  omega
 clear Hs h0 h1 hs h24 h25 hsu
 go_enter Tryz.func96, Tryz.ntmps96
 go_wp2_with fail
 refine (nmust_ok _ _).mono ?_
 rintro e w1 ⟨rfl, rfl⟩
 go_wp2_with fail
 go_region
 all_goals
  go_wp2_with fail
  refine wp_region_beginS (S := Held (fun w' => row w' X = (.int .i64 2 :: (u8v fr ++ (u8v to ++ (u8v (vecAt m 8 16) ++ (u8v mac ++ (.bool false :: u8v (vecAt m 4 4))))))).toArray)) rfl ?_ (fun hS => ?_)
  ·
   unfold Held
   simp [go_sem, hXw, hXw2, hXw3, hset, hX]
  refine rp 0 hS ?_
  refine rp 1 hS ?_
  refine rp 2 hS ?_
  refine rp 3 hS ?_
  refine rp 4 hS ?_
  refine rp 5 hS ?_
  refine rp 6 hS ?_
  refine rp 7 hS ?_
  refine rp 8 hS ?_
  refine rp 9 hS ?_
  refine rp 10 hS ?_
  refine rp 11 hS ?_
  refine rp 12 hS ?_
  have hS2 := hS
  unfold Held at hS2
  refine wpAnyH_all (rs := [13]) (by kernel_rfl) (by simp) ?_
  intro i hi
  obtain rfl := List.mem_singleton.1 hi
  refine wpOp_step rfl (fun K hK => ?_)
  clear hi hS
  go_simp
  refine (nmust_ok _ _).mono ?_
  rintro e w1 ⟨rfl, rfl⟩
  refine hK _ _ (wpAnyH_same hS2 (fun hS => ?_))
  clear hK K
  refine wpAnyH_done (by kernel_rfl) ?_ _
  go_wp2_with fail
  refine (number_any _ _ (by simp [ByteArray.size]; omega)).mono ?_
  rintro e w1 ⟨rfl, rfl⟩
  rw [show numN (ByteArray.mk (List.take 2 (List.drop 2 m)).toArray).data.toList = sm from hsm]
  go_wp2_with fail
  refine (HS.out _).mono ?_
  rintro e w2 ⟨rfl, hb2⟩
  have z2 := (hb2).size
  try simp at z2
  go_wp2_with fail
  refine (nmust_no _ _).mono ?_
  rintro e w1 ⟨rfl, rfl⟩
  refine ⟨rfl, rfl, .int .i64 2 :: (u8v fr ++ (u8v to ++ (u8v (vecAt m 8 16) ++ (u8v (vecAt m 26 6) ++ (.bool true :: u8v (vecAt m 4 4)))))), by simp, ?_⟩
  refine Below.trans ?_ (Below.mono hb2 (by first | (simp; done) | (simp; omega) | omega))
  (repeat (first | exact Below.refl _ _ | refine Below.al ?_ _ | refine Below.drew ?_ | refine Below.sr ?_ _ | refine Below.sc ?_ _))
end
end
end Go.Proofs.YtckckabedgpbiaaGreat
