/- What the laws of package ether share. -/
import Derived.Test.YthnjkpecnaglhaaEthP
import Derived.Test.YthnjkpecnaglhaaFrame
import Derived.Deep.OwnRows
set_option linter.unusedSimpArgs false
set_option linter.unusedVariables false
namespace Go.Proofs.Ythnjkpecnaglhaa
open Go.ChangeShapes Go.WideShapes Go.ChangeAt Go.RowKit
theorem goods_eth {vs : List Value} (hg : goods (leaves 6 (.int .u8) ++ (leaves 6 (.int .u8) ++ [.int .i64, .str, .int .i64, .int .i64])) vs) :
    ∃ (dst src : Vector UInt8 6) (ty : Int) (body : List UInt8) (vlan prio : Int), vs = ethV dst src ty body vlan prio ∧ IntKind.i64.has vlan ∧ body.length ≤ maxLen := by
  obtain ⟨dst, r1, e1, h1⟩ := goods_u8 hg
  obtain ⟨src, r2, e2, h2⟩ := goods_u8 h1
  obtain ⟨ty, r3, e3, hty, h3⟩ := goods_int h2
  obtain ⟨body, r4, e4, hb, h4⟩ := goods_str h3
  obtain ⟨vlan, r5, e5, hv, h5⟩ := goods_int h4
  obtain ⟨prio, r6, e6, hp, h6⟩ := goods_int h5
  have e7 := goods_nil h6
  exact ⟨dst, src, ty, body.toList, vlan, prio, by rw [e1, e2, e3, e4, e5, e6, e7]; simp [ethV], hv, by simpa using hb⟩
theorem open_eth {W : World} {base : Nat} {v : Value} (h : Value.okWide Try.prog W .any base 64 v) :
    ∃ (dst src : Vector UInt8 6) (ty : Int) (body : List UInt8) (vlan prio : Int), v = .agg (ethV dst src ty body vlan prio).toArray ∧ IntKind.i64.has vlan ∧ body.length ≤ maxLen := by
  obtain ⟨vs, hv, hg⟩ := open_plain Try.underlying64 rfl (by kernel_rfl) (by kernel_rfl) h
  obtain ⟨dst, src, ty, body, vlan, prio, e, h⟩ := goods_eth hg
  exact ⟨dst, src, ty, body, vlan, prio, by rw [hv, e], h⟩
set_option maxHeartbeats 1000000 in
theorem of08_any (dst src : Vector UInt8 6) (ty : Int) (body : List UInt8) (vlan prio : Int) (w : World) :
    Calls Try.prog 32 #[.agg (ethV dst src ty body vlan prio).toArray] w fun e w' => e = .returned (.agg (ethV dst src ty body vlan prio).toArray) ∧ Below w.heap.size w w' := by
  unfold ethV
  go_enter Try.func32, Try.ntmps32
  go_wp2
  ((try simp only [Exit.inBlock, Exit.then]); refine bodyPost_ret (results_1 rfl (resOk_row rfl ?_)) rfl ?_; (simp [go_sem]))
  refine ⟨by simp [go_sem], ?_⟩
  (repeat (first | exact Below.refl _ _ | refine Below.alloc ?_ (by first | (simp; done) | (simp; omega) | omega) _ | refine Below.drew ?_ | refine Below.setRow ?_ (by first | (simp; done) | (simp; omega) | omega) _ | refine Below.setCell ?_ (by first | (simp; done) | (simp; omega) | omega) _))
set_option maxHeartbeats 1000000 in
theorem plain08_any (dst src : Vector UInt8 6) (ty : Int) (body : List UInt8) (vlan prio : Int) (w : World) :
    Calls Try.prog 35 #[.agg (ethV dst src ty body vlan prio).toArray] w fun e w' => e = .returned (.agg (ethV dst src ty body vlan prio).toArray) ∧ Below w.heap.size w w' := by
  unfold ethV
  go_enter Try.func35, Try.ntmps35
  go_wp2
  ((try simp only [Exit.inBlock, Exit.then]); refine bodyPost_ret (results_1 rfl (resOk_row rfl ?_)) rfl ?_; (simp [go_sem]))
  refine ⟨by simp [go_sem], ?_⟩
  (repeat (first | exact Below.refl _ _ | refine Below.alloc ?_ (by first | (simp; done) | (simp; omega) | omega) _ | refine Below.drew ?_ | refine Below.setRow ?_ (by first | (simp; done) | (simp; omega) | omega) _ | refine Below.setCell ?_ (by first | (simp; done) | (simp; omega) | omega) _))
theorem ethParse_ok (l : List UInt8) (d : EthD) (w : World) (hl : l.length ≤ 1000000) (h : ethParse l = .ok d) :
    Calls Try.prog 34 #[.string ⟨l.toArray⟩] w fun e w' => e = .returned (.tuple #[.agg (ethV d.dst d.src d.ty d.body d.vlan d.prio).toArray, .int .i64 0]) ∧ Below w.heap.size w w' := by
  have := ethParse_any l w hl
  rwa [h] at this
@[simp, go_sem] theorem zeroEth_cells : zeros 12 (Value.int .u8 0) ++ Value.int .i64 0 :: Value.string ⟨#[]⟩ :: zeros 2 (Value.int .i64 0) = u8v mac0 ++ (u8v mac0 ++ [Value.int .i64 0, .string ⟨#[]⟩, .int .i64 0, .int .i64 0]) := rfl
theorem zeroEth_eq : zeroEth = ethV mac0 mac0 0 [] 0 0 := rfl
theorem ethParse_err (l : List UInt8) (n : Int) (w : World) (hl : l.length ≤ 1000000) (h : ethParse l = .error n) :
    Calls Try.prog 34 #[.string ⟨l.toArray⟩] w fun e w' => e = .returned (.tuple #[.agg (ethV mac0 mac0 0 [] 0 0).toArray, .int .i64 n]) ∧ Below w.heap.size w w' := by
  have := ethParse_any l w hl
  rw [h] at this
  rwa [← zeroEth_eq]
set_option maxRecDepth 20000 in
set_option maxHeartbeats 2000000 in
theorem awake08_any (w : World) : Calls Try.prog 31 #[] w fun e w' => e = .returned (.bool true) ∧ Below w.heap.size w w' := by
  have hp := ethParse_print mac0 mac0 2048 [] (-1) 0 rfl
  have he : ethS mac0 mac0 2048 [] (-1) 0 = [0, 0, 0, 0, 0, 0, 0, 0, 0, 0, 0, 0, 8, 0] := by decide +kernel
  rw [he] at hp
  have HP := Lib.hid hp
  clear hp he
  have hmk := run_make_row' (P := Try.prog) 61 5 (.int .u8 0) 1 Try.underlying61 (by kernel_rfl) rfl .i64 .i64 12 (by omega) (by omega) w
  rw [show madeCells #[Value.int .u8 0] 12 = (u8s [0, 0, 0, 0, 0, 0, 0, 0, 0, 0, 0, 0]).toArray from by kernel_rfl] at hmk
  simp only [show ((12 : Nat) : Int) = 12 from rfl] at hmk
  go_enter Try.func31, Try.ntmps31
  go_wp2_with fail
  refine (ethParse_ok _ ⟨mac0, mac0, 2048, [], -1, 0⟩ _ (by decide) HP.out).mono ?_
  rintro e w1 ⟨rfl, hb1⟩
  have z1 := (hb1).size
  try simp at z1
  replace hb1 := below_of hb1 (show Below (w).heap.size w _ from by (repeat (first | exact Below.refl _ _ | refine Below.alloc ?_ (by first | (simp; done) | (simp; omega) | omega) _ | refine Below.drew ?_ | refine Below.setRow ?_ (by first | (simp; done) | (simp; omega) | omega) _ | refine Below.setCell ?_ (by first | (simp; done) | (simp; omega) | omega) _))) (by first | (simp; done) | (simp; omega) | omega)
  unfold ethV
  go_wp2_with fail
  go_ret
  refine ⟨rfl, ?_⟩
  (repeat (first | refine Below.alloc ?_ (by first | (simp; done) | (simp; omega) | omega) _ | refine Below.drew ?_ | refine Below.setRow ?_ (by first | (simp; done) | (simp; omega) | omega) _ | refine Below.setCell ?_ (by first | (simp; done) | (simp; omega) | omega) _))
  exact hb1
theorem ethS_small (dst src : Vector UInt8 6) (ty : Int) (body : List UInt8) (vlan prio : Int) (hr : rightB ty vlan prio body.length = true) :
    (ethS dst src ty body vlan prio).length ≤ 1518 ∧ 14 ≤ (ethS dst src ty body vlan prio).length := by
  have h := ethS_len dst src ty body vlan prio hr
  simp [rightB] at hr
  by_cases hv : 0 ≤ vlan
  · rw [if_pos hv] at h
    omega
  · rw [if_neg hv] at h
    omega
end Go.Proofs.Ythnjkpecnaglhaa
