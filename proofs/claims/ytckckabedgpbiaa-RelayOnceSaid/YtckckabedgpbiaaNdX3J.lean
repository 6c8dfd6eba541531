/- Contracts of package nd: messages whose station's head is wrong. -/
import Derived.Test.YtckckabedgpbiaaNdXJ
import Derived.Test.YtckckabedgpbiaaRegJ
set_option linter.unusedSimpArgs false
set_option linter.unusedVariables false
set_option maxRecDepth 4000
namespace Go.Proofs.Ytckckabedgpbiaa
open Go.RowKit
section
variable (m : List UInt8) (fr to ab : Vector UInt8 16) (mac : Vector UInt8 6) (fl : Vector UInt8 4) (op0 : Int)
set_option maxRecDepth 20000 in
set_option maxHeartbeats 2000000 in
theorem told_bad24_op1 (hl : m.length = 32) (h0 : m[0] = 135) (h1 : m[1] = 0) (h24 : m[24] ≠ 1) : refused m 3 fr to ab mac fl op0 := by
 intro X w hX hXw
 have hXw2 : X < w.heap.size + 1 := by omega
 have hset : ∀ (W : World) (c : Array Value), (row W X).size = 60 → c.size = 60 → row (W.setRow X c) X = c := fun W c h1 h2 => row_setRow_same (by omega) (by omega)
 have g0 : m[0].toNat = 135 := by rw [h0]; rfl
 have g1 : m[1].toNat = 0 := by rw [h1]; rfl
 have hm4 : min 4 (m.length - 4) = 4 := by omega
 have hm8 : min 16 (m.length - 8) = 16 := by omega
 have e4 : u8s (List.take 4 (List.drop 4 m)) = u8v (vecAt m 4 4) := (u8v_vecAt _ _ _ (by omega)).symm
 have e8 : u8s (List.take 16 (List.drop 8 m)) = u8v (vecAt m 8 16) := (u8v_vecAt _ _ _ (by omega)).symm
 have n24 : m[24].toNat ≠ 1 := fun h => h24 (UInt8.toNat_inj.1 h)
 have q24 : m[24].toNat < 256 := m[24].toNat_lt
 obtain ⟨c, hc⟩ : ∃ c, m[24].toNat = c := ⟨_, rfl⟩
 rw [hc] at n24 q24
 have w1 : wrap64 (c : Int) = c := by unfold wrap64; omega
 have w1b : IntKind.i64.wrap (c : Int) = c := by rw [IntWalk.i64_left]; exact w1
 have c1 : ((c : Int) == 1) = false := by simp; omega
 clear n24 q24
 have hXw3 : X < w.heap.size + 1 + 1 := by omega
 have hm26 : min 6 (m.length - 26) = 6 := by omega
 have e26 : u8s (List.drop 26 m) = u8v (vecAt m 26 6) := by rw [u8v_vecAt _ _ _ (by omega), List.take_of_length_le (by simp; omega)]
 clear h0 h1 h24
 go_enter Try.func79, Try.ntmps79
 go_wp2_with fail
 refine (nmust_ok _ _).mono ?_
 rintro e w1 ⟨rfl, rfl⟩
 go_wp2_with fail
 go_region
 all_goals
  go_wp2_with fail
  refine wp_region_beginR [(X, (.int .i64 1 :: (u8v fr ++ (u8v to ++ (u8v (vecAt m 8 16) ++ (u8v mac ++ (.bool false :: u8v (vecAt m 4 4))))))).toArray)] rfl (by simp only [Rws]; (repeat (first | exact trivial | refine ⟨(by first | assumption | (simp [go_sem, *]; done)), (by first | omega | (simp; done) | (simp; omega)), ?_⟩))) (fun hS => ?_)
  refine qp 0 hS ?_
  refine qp 1 hS ?_
  refine qp 2 hS ?_
  refine qp 3 hS ?_
  refine qp 4 hS ?_
  refine qp 5 hS ?_
  refine qp 6 hS ?_
  refine qp 7 hS ?_
  refine qp 8 hS ?_
  refine wpAnyR_take (i := 9) (v := undef) (by simp only [List.getElem?_toArray, List.getElem?_cons_succ, List.getElem?_cons_zero]; rfl) (by kernel_rfl) (by kernel_rfl) (by kernel_rfl) (by first | exact fun _ _ _ h => h | exact fun _ _ _ h => by cases h.1) (Rws.grow _) (Or.inr ⟨by rfl, by rfl⟩) hS ?_
  (try simp only [Act.put, List.setIfInBounds_toArray, List.set_cons_zero, List.set_cons_succ])
  refine wpAnyR_take (i := 10) (v := undef) (by simp only [List.getElem?_toArray, List.getElem?_cons_succ, List.getElem?_cons_zero]; rfl) (by kernel_rfl) (by kernel_rfl) (by kernel_rfl) (by first | exact fun _ _ _ h => h | exact fun _ _ _ h => by cases h.1) (Rws.grow _) (Or.inr ⟨by rfl, by rfl⟩) hS ?_
  (try simp only [Act.put, List.setIfInBounds_toArray, List.set_cons_zero, List.set_cons_succ])
  refine wpAnyR_take (i := 11) (v := undef) (by simp only [List.getElem?_toArray, List.getElem?_cons_succ, List.getElem?_cons_zero]; rfl) (by kernel_rfl) (by kernel_rfl) (by kernel_rfl) (by first | exact fun _ _ _ h => h | exact fun _ _ _ h => by cases h.1) (Rws.grow _) (Or.inr ⟨by rfl, by rfl⟩) hS ?_
  (try simp only [Act.put, List.setIfInBounds_toArray, List.set_cons_zero, List.set_cons_succ])
  refine qp 12 hS ?_
  refine wpAnyR_all (rs := [13]) (by kernel_rfl) (by simp) (Rws.grow _) hS (fun u1 hu1 hSW => ?_)
  intro i hi
  obtain rfl := List.mem_singleton.1 hi
  refine wpOp_step rfl (fun K hK => ?_)
  simp only [Rws] at hSW
  clear hi hS
  go_simp
  refine (nmust_no _ _).mono ?_
  rintro e w1 ⟨rfl, rfl⟩
  refine ⟨rfl, rfl, .int .i64 1 :: (u8v fr ++ (u8v to ++ (u8v (vecAt m 8 16) ++ (u8v mac ++ (.bool false :: u8v (vecAt m 4 4)))))), by simp, ?_⟩
  refine Below.trans ?_ (Below.mono hu1 (by first | (simp; done) | (simp; omega) | omega))
  (repeat (first | exact Below.refl _ _ | refine Below.al ?_ _ | refine Below.drew ?_ | refine Below.sr ?_ _ | refine Below.sc ?_ _))
set_option maxRecDepth 20000 in
set_option maxHeartbeats 2000000 in
theorem told_bad24_op2 (hl : m.length = 32) (h0 : m[0] = 136) (h1 : m[1] = 0) (h24 : m[24] ≠ 2) : refused m 3 fr to ab mac fl op0 := by
 intro X w hX hXw
 have hXw2 : X < w.heap.size + 1 := by omega
 have hset : ∀ (W : World) (c : Array Value), (row W X).size = 60 → c.size = 60 → row (W.setRow X c) X = c := fun W c h1 h2 => row_setRow_same (by omega) (by omega)
 have g0 : m[0].toNat = 136 := by rw [h0]; rfl
 have g1 : m[1].toNat = 0 := by rw [h1]; rfl
 have hm4 : min 4 (m.length - 4) = 4 := by omega
 have hm8 : min 16 (m.length - 8) = 16 := by omega
 have e4 : u8s (List.take 4 (List.drop 4 m)) = u8v (vecAt m 4 4) := (u8v_vecAt _ _ _ (by omega)).symm
 have e8 : u8s (List.take 16 (List.drop 8 m)) = u8v (vecAt m 8 16) := (u8v_vecAt _ _ _ (by omega)).symm
 have n24 : m[24].toNat ≠ 2 := fun h => h24 (UInt8.toNat_inj.1 h)
 have q24 : m[24].toNat < 256 := m[24].toNat_lt
 obtain ⟨c, hc⟩ : ∃ c, m[24].toNat = c := ⟨_, rfl⟩
 rw [hc] at n24 q24
 have w1 : wrap64 (c : Int) = c := by unfold wrap64; omega
 have w1b : IntKind.i64.wrap (c : Int) = c := by rw [IntWalk.i64_left]; exact w1
 have c1 : ((c : Int) == 2) = false := by simp; omega
 clear n24 q24
 have hXw3 : X < w.heap.size + 1 + 1 := by omega
 have hm26 : min 6 (m.length - 26) = 6 := by omega
 have e26 : u8s (List.drop 26 m) = u8v (vecAt m 26 6) := by rw [u8v_vecAt _ _ _ (by omega), List.take_of_length_le (by simp; omega)]
 clear h0 h1 h24
 go_enter Try.func79, Try.ntmps79
 go_wp2_with fail
 refine (nmust_ok _ _).mono ?_
 rintro e w1 ⟨rfl, rfl⟩
 go_wp2_with fail
 go_region
 all_goals
  go_wp2_with fail
  refine wp_region_beginR [(X, (.int .i64 2 :: (u8v fr ++ (u8v to ++ (u8v (vecAt m 8 16) ++ (u8v mac ++ (.bool false :: u8v (vecAt m 4 4))))))).toArray)] rfl (by simp only [Rws]; (repeat (first | exact trivial | refine ⟨(by first | assumption | (simp [go_sem, *]; done)), (by first | omega | (simp; done) | (simp; omega)), ?_⟩))) (fun hS => ?_)
  refine qp 0 hS ?_
  refine qp 1 hS ?_
  refine qp 2 hS ?_
  refine qp 3 hS ?_
  refine qp 4 hS ?_
  refine qp 5 hS ?_
  refine qp 6 hS ?_
  refine qp 7 hS ?_
  refine qp 8 hS ?_
  refine wpAnyR_take (i := 9) (v := undef) (by simp only [List.getElem?_toArray, List.getElem?_cons_succ, List.getElem?_cons_zero]; rfl) (by kernel_rfl) (by kernel_rfl) (by kernel_rfl) (by first | exact fun _ _ _ h => h | exact fun _ _ _ h => by cases h.1) (Rws.grow _) (Or.inr ⟨by rfl, by rfl⟩) hS ?_
  (try simp only [Act.put, List.setIfInBounds_toArray, List.set_cons_zero, List.set_cons_succ])
  refine wpAnyR_take (i := 10) (v := undef) (by simp only [List.getElem?_toArray, List.getElem?_cons_succ, List.getElem?_cons_zero]; rfl) (by kernel_rfl) (by kernel_rfl) (by kernel_rfl) (by first | exact fun _ _ _ h => h | exact fun _ _ _ h => by cases h.1) (Rws.grow _) (Or.inr ⟨by rfl, by rfl⟩) hS ?_
  (try simp only [Act.put, List.setIfInBounds_toArray, List.set_cons_zero, List.set_cons_succ])
  refine wpAnyR_take (i := 11) (v := undef) (by simp only [List.getElem?_toArray, List.getElem?_cons_succ, List.getElem?_cons_zero]; rfl) (by kernel_rfl) (by kernel_rfl) (by kernel_rfl) (by first | exact fun _ _ _ h => h | exact fun _ _ _ h => by cases h.1) (Rws.grow _) (Or.inr ⟨by rfl, by rfl⟩) hS ?_
  (try simp only [Act.put, List.setIfInBounds_toArray, List.set_cons_zero, List.set_cons_succ])
  refine qp 12 hS ?_
  refine wpAnyR_all (rs := [13]) (by kernel_rfl) (by simp) (Rws.grow _) hS (fun u1 hu1 hSW => ?_)
  intro i hi
  obtain rfl := List.mem_singleton.1 hi
  refine wpOp_step rfl (fun K hK => ?_)
  simp only [Rws] at hSW
  clear hi hS
  go_simp
  refine (nmust_no _ _).mono ?_
  rintro e w1 ⟨rfl, rfl⟩
  refine ⟨rfl, rfl, .int .i64 2 :: (u8v fr ++ (u8v to ++ (u8v (vecAt m 8 16) ++ (u8v mac ++ (.bool false :: u8v (vecAt m 4 4)))))), by simp, ?_⟩
  refine Below.trans ?_ (Below.mono hu1 (by first | (simp; done) | (simp; omega) | omega))
  (repeat (first | exact Below.refl _ _ | refine Below.al ?_ _ | refine Below.drew ?_ | refine Below.sr ?_ _ | refine Below.sc ?_ _))
set_option maxRecDepth 20000 in
set_option maxHeartbeats 2000000 in
theorem told_bad25_op1 (hl : m.length = 32) (h0 : m[0] = 135) (h1 : m[1] = 0) (h24 : m[24] = 1) (h25 : m[25] ≠ 1) : refused m 3 fr to ab mac fl op0 := by
 intro X w hX hXw
 have hXw2 : X < w.heap.size + 1 := by omega
 have hset : ∀ (W : World) (c : Array Value), (row W X).size = 60 → c.size = 60 → row (W.setRow X c) X = c := fun W c h1 h2 => row_setRow_same (by omega) (by omega)
 have g0 : m[0].toNat = 135 := by rw [h0]; rfl
 have g1 : m[1].toNat = 0 := by rw [h1]; rfl
 have hm4 : min 4 (m.length - 4) = 4 := by omega
 have hm8 : min 16 (m.length - 8) = 16 := by omega
 have e4 : u8s (List.take 4 (List.drop 4 m)) = u8v (vecAt m 4 4) := (u8v_vecAt _ _ _ (by omega)).symm
 have e8 : u8s (List.take 16 (List.drop 8 m)) = u8v (vecAt m 8 16) := (u8v_vecAt _ _ _ (by omega)).symm
 have g24 : m[24].toNat = 1 := by rw [h24]; rfl
 have n25 : m[25].toNat ≠ 1 := fun h => h25 (UInt8.toNat_inj.1 h)
 obtain ⟨c, hc⟩ : ∃ c, m[25].toNat = c := ⟨_, rfl⟩
 rw [hc] at n25
 have c1 : ((c : Int) == 1) = false := by simp; omega
 clear n25
 have hXw3 : X < w.heap.size + 1 + 1 := by omega
 have hm26 : min 6 (m.length - 26) = 6 := by omega
 have e26 : u8s (List.drop 26 m) = u8v (vecAt m 26 6) := by rw [u8v_vecAt _ _ _ (by omega), List.take_of_length_le (by simp; omega)]
 clear h0 h1 h24 h25
 go_enter Try.func79, Try.ntmps79
 go_wp2_with fail
 refine (nmust_ok _ _).mono ?_
 rintro e w1 ⟨rfl, rfl⟩
 go_wp2_with fail
 go_region
 all_goals
  go_wp2_with fail
  refine wp_region_beginR [(X, (.int .i64 1 :: (u8v fr ++ (u8v to ++ (u8v (vecAt m 8 16) ++ (u8v mac ++ (.bool false :: u8v (vecAt m 4 4))))))).toArray)] rfl (by simp only [Rws]; (repeat (first | exact trivial | refine ⟨(by first | assumption | (simp [go_sem, *]; done)), (by first | omega | (simp; done) | (simp; omega)), ?_⟩))) (fun hS => ?_)
  refine qp 0 hS ?_
  refine qp 1 hS ?_
  refine qp 2 hS ?_
  refine qp 3 hS ?_
  refine qp 4 hS ?_
  refine qp 5 hS ?_
  refine qp 6 hS ?_
  refine qp 7 hS ?_
  refine qp 8 hS ?_
  refine qp 9 hS ?_
  refine qp 10 hS ?_
  refine qp 11 hS ?_
  refine qp 12 hS ?_
  refine wpAnyR_all (rs := [13]) (by kernel_rfl) (by simp) (Rws.grow _) hS (fun u1 hu1 hSW => ?_)
  intro i hi
  obtain rfl := List.mem_singleton.1 hi
  refine wpOp_step rfl (fun K hK => ?_)
  simp only [Rws] at hSW
  clear hi hS
  go_simp
  refine (nmust_no _ _).mono ?_
  rintro e w1 ⟨rfl, rfl⟩
  refine ⟨rfl, rfl, .int .i64 1 :: (u8v fr ++ (u8v to ++ (u8v (vecAt m 8 16) ++ (u8v mac ++ (.bool false :: u8v (vecAt m 4 4)))))), by simp, ?_⟩
  refine Below.trans ?_ (Below.mono hu1 (by first | (simp; done) | (simp; omega) | omega))
  (repeat (first | exact Below.refl _ _ | refine Below.al ?_ _ | refine Below.drew ?_ | refine Below.sr ?_ _ | refine Below.sc ?_ _))
set_option maxRecDepth 20000 in
set_option maxHeartbeats 2000000 in
theorem told_bad25_op2 (hl : m.length = 32) (h0 : m[0] = 136) (h1 : m[1] = 0) (h24 : m[24] = 2) (h25 : m[25] ≠ 1) : refused m 3 fr to ab mac fl op0 := by
 intro X w hX hXw
 have hXw2 : X < w.heap.size + 1 := by omega
 have hset : ∀ (W : World) (c : Array Value), (row W X).size = 60 → c.size = 60 → row (W.setRow X c) X = c := fun W c h1 h2 => row_setRow_same (by omega) (by omega)
 have g0 : m[0].toNat = 136 := by rw [h0]; rfl
 have g1 : m[1].toNat = 0 := by rw [h1]; rfl
 have hm4 : min 4 (m.length - 4) = 4 := by omega
 have hm8 : min 16 (m.length - 8) = 16 := by omega
 have e4 : u8s (List.take 4 (List.drop 4 m)) = u8v (vecAt m 4 4) := (u8v_vecAt _ _ _ (by omega)).symm
 have e8 : u8s (List.take 16 (List.drop 8 m)) = u8v (vecAt m 8 16) := (u8v_vecAt _ _ _ (by omega)).symm
 have g24 : m[24].toNat = 2 := by rw [h24]; rfl
 have n25 : m[25].toNat ≠ 1 := fun h => h25 (UInt8.toNat_inj.1 h)
 obtain ⟨c, hc⟩ : ∃ c, m[25].toNat = c := ⟨_, rfl⟩
 rw [hc] at n25
 have c1 : ((c : Int) == 1) = false := by simp; omega
 clear n25
 have hXw3 : X < w.heap.size + 1 + 1 := by omega
 have hm26 : min 6 (m.length - 26) = 6 := by omega
 have e26 : u8s (List.drop 26 m) = u8v (vecAt m 26 6) := by rw [u8v_vecAt _ _ _ (by omega), List.take_of_length_le (by simp; omega)]
 clear h0 h1 h24 h25
 go_enter Try.func79, Try.ntmps79
 go_wp2_with fail
 refine (nmust_ok _ _).mono ?_
 rintro e w1 ⟨rfl, rfl⟩
 go_wp2_with fail
 go_region
 all_goals
  go_wp2_with fail
  refine wp_region_beginR [(X, (.int .i64 2 :: (u8v fr ++ (u8v to ++ (u8v (vecAt m 8 16) ++ (u8v mac ++ (.bool false :: u8v (vecAt m 4 4))))))).toArray)] rfl (by simp only [Rws]; (repeat (first | exact trivial | refine ⟨(by first | assumption | (simp [go_sem, *]; done)), (by first | omega | (simp; done) | (simp; omega)), ?_⟩))) (fun hS => ?_)
  refine qp 0 hS ?_
  refine qp 1 hS ?_
  refine qp 2 hS ?_
  refine qp 3 hS ?_
  refine qp 4 hS ?_
  refine qp 5 hS ?_
  refine qp 6 hS ?_
  refine qp 7 hS ?_
  refine qp 8 hS ?_
  refine qp 9 hS ?_
  refine qp 10 hS ?_
  refine qp 11 hS ?_
  refine qp 12 hS ?_
  refine wpAnyR_all (rs := [13]) (by kernel_rfl) (by simp) (Rws.grow _) hS (fun u1 hu1 hSW => ?_)
  intro i hi
  obtain rfl := List.mem_singleton.1 hi
  refine wpOp_step rfl (fun K hK => ?_)
  simp only [Rws] at hSW
  clear hi hS
  go_simp
  refine (nmust_no _ _).mono ?_
  rintro e w1 ⟨rfl, rfl⟩
  refine ⟨rfl, rfl, .int .i64 2 :: (u8v fr ++ (u8v to ++ (u8v (vecAt m 8 16) ++ (u8v mac ++ (.bool false :: u8v (vecAt m 4 4)))))), by simp, ?_⟩
  refine Below.trans ?_ (Below.mono hu1 (by first | (simp; done) | (simp; omega) | omega))
  (repeat (first | exact Below.refl _ _ | refine Below.al ?_ _ | refine Below.drew ?_ | refine Below.sr ?_ _ | refine Below.sc ?_ _))
end
end Go.Proofs.Ytckckabedgpbiaa
