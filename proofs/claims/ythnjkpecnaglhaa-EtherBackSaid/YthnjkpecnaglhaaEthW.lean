/- The walk of the law EtherBack. -/
import Derived.Test.YthnjkpecnaglhaaEthL
set_option linter.unusedSimpArgs false
set_option linter.unusedVariables false
namespace Go.Proofs.Ythnjkpecnaglhaa
open Go.ChangeShapes Go.WideShapes Go.ChangeAt Go.RowKit
section
variable (dst src : Vector UInt8 6) (ty : Int) (body : List UInt8) (vlan prio : Int) (w : World)
set_option maxHeartbeats 1000000 in
theorem etherBack_long (hl : ¬ body.length ≤ 2000) (hm : body.length ≤ maxLen) :
    Calls Try.prog 10 #[.agg (ethV dst src ty body vlan prio).toArray] w fun e W' => e = .returned (.bool true) ∧ Below w.heap.size w W' := by
  unfold maxLen at hm
  have hl1 : (2000 : Int) < body.length := by omega
  unfold ethV
  go_enter Try.func10, Try.ntmps10
  go_wp2_with fail
  refine (awake08_any _).mono ?_
  rintro e w1 ⟨rfl, hb1⟩
  have z1 := (hb1).size
  try simp at z1
  have ra : row w1 (w.heap.size) = (u8v dst ++ (u8v src ++ [Value.int .i64 ty, .string ⟨body.toArray⟩, .int .i64 vlan, .int .i64 prio])).toArray := by rw [row_below hb1 (by first | (simp; done) | (simp; omega) | omega)]; simp [go_sem]; (try rfl)
  replace hb1 := below_of hb1 (show Below (w).heap.size w _ from by (repeat (first | exact Below.refl _ _ | refine Below.alloc ?_ (by first | (simp; done) | (simp; omega) | omega) _ | refine Below.drew ?_ | refine Below.setRow ?_ (by first | (simp; done) | (simp; omega) | omega) _ | refine Below.setCell ?_ (by first | (simp; done) | (simp; omega) | omega) _))) (by first | (simp; done) | (simp; omega) | omega)
  go_wp2_with fail
  refine (awake08_any _).mono ?_
  rintro e w2 ⟨rfl, hb2⟩
  go_wp2_with fail
  go_ret
  refine ⟨rfl, ?_⟩
  refine Below.trans ?_ (Below.mono hb2 (by first | (simp; done) | (simp; omega) | omega))
  exact hb1
set_option maxRecDepth 20000 in
set_option maxHeartbeats 2000000 in
theorem etherBack_bad (hl : body.length ≤ 2000) (hr : rightB ty vlan prio body.length = false) :
    Calls Try.prog 10 #[.agg (ethV dst src ty body vlan prio).toArray] w fun e W' => e = .returned (.bool true) ∧ Below w.heap.size w W' := by
  have hl1 : ¬ (2000 : Int) < body.length := by omega
  have HR := Lib.hid hr
  clear hr
  unfold ethV
  go_enter Try.func10, Try.ntmps10
  go_wp2_with fail
  refine (awake08_any _).mono ?_
  rintro e w1 ⟨rfl, hb1⟩
  have z1 := (hb1).size
  try simp at z1
  have ra : row w1 (w.heap.size) = (u8v dst ++ (u8v src ++ [Value.int .i64 ty, .string ⟨body.toArray⟩, .int .i64 vlan, .int .i64 prio])).toArray := by rw [row_below hb1 (by first | (simp; done) | (simp; omega) | omega)]; simp [go_sem]; (try rfl)
  replace hb1 := below_of hb1 (show Below (w).heap.size w _ from by (repeat (first | exact Below.refl _ _ | refine Below.alloc ?_ (by first | (simp; done) | (simp; omega) | omega) _ | refine Below.drew ?_ | refine Below.setRow ?_ (by first | (simp; done) | (simp; omega) | omega) _ | refine Below.setCell ?_ (by first | (simp; done) | (simp; omega) | omega) _))) (by first | (simp; done) | (simp; omega) | omega)
  go_wp2_with fail
  refine (of08_any dst src ty body vlan prio _).mono ?_
  rintro e w2 ⟨rfl, hb2⟩
  have z2 := (hb2).size
  try simp at z2
  replace ra := (row_below hb2 (by omega)).trans ra
  unfold ethV
  go_wp2_with fail
  refine (ethPrint_out dst src ty body vlan prio _ HR.out).mono ?_
  rintro e w3 ⟨rfl, hb3⟩
  have z3 := (hb3).size
  try simp at z3
  replace ra := (row_below hb3 (by omega)).trans ra
  go_wp2_with fail
  refine (of08_any dst src ty body vlan prio _).mono ?_
  rintro e w4 ⟨rfl, hb4⟩
  have z4 := (hb4).size
  try simp at z4
  unfold ethV
  go_wp2_with fail
  refine (right_any dst src ty body vlan prio _).mono ?_
  rintro e w5 ⟨rfl, hb5⟩
  rw [HR.out]
  go_wp2_with fail
  go_ret
  refine ⟨rfl, ?_⟩
  refine Below.trans ?_ (Below.mono hb5 (by first | (simp; done) | (simp; omega) | omega))
  refine Below.trans ?_ (Below.mono hb4 (by first | (simp; done) | (simp; omega) | omega))
  refine Below.trans ?_ (Below.mono hb3 (by first | (simp; done) | (simp; omega) | omega))
  refine Below.trans ?_ (Below.mono hb2 (by first | (simp; done) | (simp; omega) | omega))
  exact hb1
set_option maxRecDepth 20000 in
set_option maxHeartbeats 2000000 in
theorem etherBack_good (hl : body.length ≤ 2000) (hr : rightB ty vlan prio body.length = true) :
    Calls Try.prog 10 #[.agg (ethV dst src ty body vlan prio).toArray] w fun e W' => e = .returned (.bool true) ∧ Below w.heap.size w W' := by
  have hl1 : ¬ (2000 : Int) < body.length := by omega
  have HP := Lib.hid (ethParse_print dst src ty body vlan prio hr)
  have hs : (ethS dst src ty body vlan prio).length ≤ 1000000 := by have := ethS_small dst src ty body vlan prio hr; omega
  have HR := Lib.hid hr
  clear hr
  unfold ethV
  go_enter Try.func10, Try.ntmps10
  go_wp2_with fail
  refine (awake08_any _).mono ?_
  rintro e w1 ⟨rfl, hb1⟩
  have z1 := (hb1).size
  try simp at z1
  have ra : row w1 (w.heap.size) = (u8v dst ++ (u8v src ++ [Value.int .i64 ty, .string ⟨body.toArray⟩, .int .i64 vlan, .int .i64 prio])).toArray := by rw [row_below hb1 (by first | (simp; done) | (simp; omega) | omega)]; simp [go_sem]; (try rfl)
  replace hb1 := below_of hb1 (show Below (w).heap.size w _ from by (repeat (first | exact Below.refl _ _ | refine Below.alloc ?_ (by first | (simp; done) | (simp; omega) | omega) _ | refine Below.drew ?_ | refine Below.setRow ?_ (by first | (simp; done) | (simp; omega) | omega) _ | refine Below.setCell ?_ (by first | (simp; done) | (simp; omega) | omega) _))) (by first | (simp; done) | (simp; omega) | omega)
  go_wp2_with fail
  refine (of08_any dst src ty body vlan prio _).mono ?_
  rintro e w2 ⟨rfl, hb2⟩
  have z2 := (hb2).size
  try simp at z2
  replace ra := (row_below hb2 (by omega)).trans ra
  unfold ethV
  go_wp2_with fail
  refine (ethPrint_any dst src ty body vlan prio _ HR.out).mono ?_
  rintro e w3 ⟨rfl, hb3⟩
  have z3 := (hb3).size
  try simp at z3
  replace ra := (row_below hb3 (by omega)).trans ra
  go_wp2_with fail
  refine (ethParse_ok _ ⟨dst, src, ty, body, vlan, prio⟩ _ hs HP.out).mono ?_
  rintro e w4 ⟨rfl, hb4⟩
  have z4 := (hb4).size
  try simp at z4
  replace ra := (row_below hb4 (by omega)).trans ra
  have q4 : w.heap.size < w4.heap.size := by omega
  unfold ethV
  go_wp2_with fail
  refine wp_region_beginS (S := Held (fun w' => row w' w.heap.size = (u8v dst ++ (u8v src ++ [Value.int .i64 ty, .string ⟨body.toArray⟩, .int .i64 vlan, .int .i64 prio])).toArray ∧ row w' w4.heap.size = (u8v dst ++ (u8v src ++ [Value.int .i64 ty, .string ⟨body.toArray⟩, .int .i64 vlan, .int .i64 prio])).toArray)) rfl ?_ (fun hS => ?_)
  · unfold Held
    simp [go_sem, *]
  refine wpAnyH_take (i := 0) (v := ?_) (by simp only [List.getElem?_toArray, List.getElem?_cons_succ, List.getElem?_cons_zero]; rfl) (by kernel_rfl) (by kernel_rfl) (by kernel_rfl) (by exact fun _ _ _ h => h) (Or.inl ⟨by rfl, ?_⟩) hS ?_
  rotate_left
  · intro w' hS'
    unfold Held at hS'
    go_simp
    rfl
  (try simp only [Act.put, List.setIfInBounds_toArray, List.set_cons_zero, List.set_cons_succ])
  refine wpAnyH_take (i := 1) (v := ?_) (by simp only [List.getElem?_toArray, List.getElem?_cons_succ, List.getElem?_cons_zero]; rfl) (by kernel_rfl) (by kernel_rfl) (by kernel_rfl) (by exact fun _ _ _ h => h) (Or.inl ⟨by rfl, ?_⟩) hS ?_
  rotate_left
  · intro w' hS'
    unfold Held at hS'
    go_simp
    rfl
  (try simp only [Act.put, List.setIfInBounds_toArray, List.set_cons_zero, List.set_cons_succ])
  refine wpAnyH_take (i := 2) (v := ?_) (by simp only [List.getElem?_toArray, List.getElem?_cons_succ, List.getElem?_cons_zero]; rfl) (by kernel_rfl) (by kernel_rfl) (by kernel_rfl) (by exact fun _ _ _ h => h) (Or.inl ⟨by rfl, ?_⟩) hS ?_
  rotate_left
  · intro w' hS'
    unfold Held at hS'
    go_simp
    rfl
  (try simp only [Act.put, List.setIfInBounds_toArray, List.set_cons_zero, List.set_cons_succ])
  refine wpAnyH_take (i := 3) (v := ?_) (by simp only [List.getElem?_toArray, List.getElem?_cons_succ, List.getElem?_cons_zero]; rfl) (by kernel_rfl) (by kernel_rfl) (by kernel_rfl) (by exact fun _ _ _ h => h) (Or.inl ⟨by rfl, ?_⟩) hS ?_
  rotate_left
  · intro w' hS'
    unfold Held at hS'
    go_simp
    rfl
  (try simp only [Act.put, List.setIfInBounds_toArray, List.set_cons_zero, List.set_cons_succ])
  refine wpAnyH_take (i := 5) (v := ?_) (by simp only [List.getElem?_toArray, List.getElem?_cons_succ, List.getElem?_cons_zero]; rfl) (by kernel_rfl) (by kernel_rfl) (by kernel_rfl) (by exact fun _ _ _ h => h) (Or.inl ⟨by rfl, ?_⟩) hS ?_
  rotate_left
  · intro w' hS'
    unfold Held at hS'
    go_simp
    rfl
  (try simp only [Act.put, List.setIfInBounds_toArray, List.set_cons_zero, List.set_cons_succ])
  refine wpAnyH_all (rs := [4]) (by kernel_rfl) (by simp) ?_
  intro i hi
  obtain rfl := List.mem_singleton.1 hi
  refine wpOp_step rfl (fun K hK => ?_)
  clear hi hS
  go_simp
  refine (plain08_any dst src ty body vlan prio _).mono ?_
  rintro e w5 ⟨rfl, hb5⟩
  have z5 := (hb5).size
  try simp at z5
  unfold ethV
  refine hK _ _ (wpAnyH_same ?_ (fun hS => ?_))
  · unfold Held
    refine ⟨?_, ?_⟩ <;> (rw [row_below hb5 (by first | (simp; done) | (simp; omega) | omega)]; simp [go_sem, *])
  clear hK K
  have h6 := hS
  unfold Held at h6
  obtain ⟨ra5, rb5⟩ := h6
  refine wpAnyH_take (i := 6) (v := ?_) (by simp only [List.getElem?_toArray, List.getElem?_cons_succ, List.getElem?_cons_zero]; rfl) (by kernel_rfl) (by kernel_rfl) (by kernel_rfl) (by exact fun _ _ _ h => h) (Or.inl ⟨by rfl, ?_⟩) hS ?_
  rotate_left
  · intro w' hS'
    unfold Held at hS'
    go_simp
    rfl
  (try simp only [Act.put, List.setIfInBounds_toArray, List.set_cons_zero, List.set_cons_succ])
  refine wpAnyH_take (i := 7) (v := ?_) (by simp only [List.getElem?_toArray, List.getElem?_cons_succ, List.getElem?_cons_zero]; rfl) (by kernel_rfl) (by kernel_rfl) (by kernel_rfl) (by exact fun _ _ _ h => h) (Or.inl ⟨by rfl, ?_⟩) hS ?_
  rotate_left
  · intro w' hS'
    unfold Held at hS'
    go_simp
    rfl
  (try simp only [Act.put, List.setIfInBounds_toArray, List.set_cons_zero, List.set_cons_succ])
  refine wpAnyH_take (i := 8) (v := ?_) (by simp only [List.getElem?_toArray, List.getElem?_cons_succ, List.getElem?_cons_zero]; rfl) (by kernel_rfl) (by kernel_rfl) (by kernel_rfl) (by exact fun _ _ _ h => h) (Or.inl ⟨by rfl, ?_⟩) hS ?_
  rotate_left
  · intro w' hS'
    unfold Held at hS'
    go_simp
    rfl
  (try simp only [Act.put, List.setIfInBounds_toArray, List.set_cons_zero, List.set_cons_succ])
  refine wpAnyH_take (i := 9) (v := ?_) (by simp only [List.getElem?_toArray, List.getElem?_cons_succ, List.getElem?_cons_zero]; rfl) (by kernel_rfl) (by kernel_rfl) (by kernel_rfl) (by exact fun _ _ _ h => h) (Or.inl ⟨by rfl, ?_⟩) hS ?_
  rotate_left
  · intro w' hS'
    unfold Held at hS'
    go_simp
    rfl
  (try simp only [Act.put, List.setIfInBounds_toArray, List.set_cons_zero, List.set_cons_succ])
  refine wpAnyH_all (rs := [10]) (by kernel_rfl) (by simp) ?_
  intro i hi
  obtain rfl := List.mem_singleton.1 hi
  refine wpOp_step rfl (fun K hK => ?_)
  clear hi hS
  go_simp
  refine (right_any dst src ty body vlan prio _).mono ?_
  rintro e w6 ⟨rfl, hb6⟩
  rw [HR.out]
  refine hK _ _ (wpAnyH_same ?_ (fun hS => ?_))
  · unfold Held
    refine ⟨?_, ?_⟩ <;> (rw [row_below hb6 (by first | (simp; done) | (simp; omega) | omega)]; simp [go_sem, *])
  clear hK K
  refine wpAnyH_take (i := 11) (v := ?_) (by simp only [List.getElem?_toArray, List.getElem?_cons_succ, List.getElem?_cons_zero]; rfl) (by kernel_rfl) (by kernel_rfl) (by kernel_rfl) (by exact fun _ _ _ h => h) (Or.inl ⟨by rfl, ?_⟩) hS ?_
  rotate_left
  · intro w' hS'
    unfold Held at hS'
    go_simp
    rfl
  (try simp only [Act.put, List.setIfInBounds_toArray, List.set_cons_zero, List.set_cons_succ])
  refine wpAnyH_take (i := 12) (v := ?_) (by simp only [List.getElem?_toArray, List.getElem?_cons_succ, List.getElem?_cons_zero]; rfl) (by kernel_rfl) (by kernel_rfl) (by kernel_rfl) (by exact fun _ _ _ h => h) (Or.inl ⟨by rfl, ?_⟩) hS ?_
  rotate_left
  · intro w' hS'
    unfold Held at hS'
    go_simp
    rfl
  (try simp only [Act.put, List.setIfInBounds_toArray, List.set_cons_zero, List.set_cons_succ])
  refine wpAnyH_done (by kernel_rfl) ?_ _
  go_wp2_with fail
  go_ret
  refine ⟨rfl, ?_⟩
  refine Below.trans ?_ (Below.mono hb6 (by first | (simp; done) | (simp; omega) | omega))
  (repeat (first | refine Below.alloc ?_ (by first | (simp; done) | (simp; omega) | omega) _ | refine Below.drew ?_ | refine Below.setRow ?_ (by first | (simp; done) | (simp; omega) | omega) _ | refine Below.setCell ?_ (by first | (simp; done) | (simp; omega) | omega) _))
  refine Below.trans ?_ (Below.mono hb5 (by first | (simp; done) | (simp; omega) | omega))
  (repeat (first | refine Below.alloc ?_ (by first | (simp; done) | (simp; omega) | omega) _ | refine Below.drew ?_ | refine Below.setRow ?_ (by first | (simp; done) | (simp; omega) | omega) _ | refine Below.setCell ?_ (by first | (simp; done) | (simp; omega) | omega) _))
  refine Below.trans ?_ (Below.mono hb4 (by first | (simp; done) | (simp; omega) | omega))
  refine Below.trans ?_ (Below.mono hb3 (by first | (simp; done) | (simp; omega) | omega))
  refine Below.trans ?_ (Below.mono hb2 (by first | (simp; done) | (simp; omega) | omega))
  exact hb1
end
theorem etherBack_walk (W : World) (base : Nat) (args : Array Value) (hlen : args.size = Try.f10.params.size) (hval : ∀ (j : Nat) t v, Try.f10.params[j]? = some t → args[j]? = some v → Value.okWide Try.prog W .any base t v) :
    Calls Try.prog 10 args W fun e W' => e = .returned (.bool true) ∧ Below W.heap.size W W' := by
  obtain ⟨l⟩ := args
  match l, hlen with
  | [v0], _ =>
  have k0 := hval 0 64 v0 rfl rfl
  obtain ⟨dst, src, ty, body, vlan, prio, rfl, hv, hm⟩ := open_eth k0
  by_cases hl : body.length ≤ 2000
  · cases hr : rightB ty vlan prio body.length with
    | false => exact etherBack_bad dst src ty body vlan prio W hl hr
    | true => exact etherBack_good dst src ty body vlan prio W hl hr
  · exact etherBack_long dst src ty body vlan prio W hl hm
end Go.Proofs.Ythnjkpecnaglhaa
