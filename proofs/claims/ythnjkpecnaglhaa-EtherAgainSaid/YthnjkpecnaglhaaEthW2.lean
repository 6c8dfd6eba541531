/- The walk of the law EtherAgain. -/
import Derived.Test.YthnjkpecnaglhaaEthL
set_option linter.unusedSimpArgs false
set_option linter.unusedVariables false
namespace Go.Proofs.Ythnjkpecnaglhaa
open Go.ChangeShapes Go.WideShapes Go.ChangeAt Go.RowKit
section
variable (l : List UInt8) (w : World)
set_option maxHeartbeats 1000000 in
theorem etherAgain_long (hl : ¬ l.length ≤ 2000) (hm : l.length ≤ maxLen) :
    Calls Try.prog 11 #[.string ⟨l.toArray⟩] w fun e W' => e = .returned (.bool true) ∧ Below w.heap.size w W' := by
  unfold maxLen at hm
  have hl1 : (2000 : Int) < l.length := by omega
  go_enter Try.func11, Try.ntmps11
  go_wp2_with fail
  refine (awake08_any _).mono ?_
  rintro e w1 ⟨rfl, hb1⟩
  have z1 := (hb1).size
  try simp at z1
  go_wp2_with fail
  refine (awake08_any _).mono ?_
  rintro e w2 ⟨rfl, hb2⟩
  go_wp2_with fail
  go_ret
  refine ⟨rfl, ?_⟩
  refine Below.trans ?_ (Below.mono hb2 (by first | (simp; done) | (simp; omega) | omega))
  exact hb1
set_option maxRecDepth 20000 in
set_option maxHeartbeats 2000000 in
theorem etherAgain_err (n : Int) (hl : l.length ≤ 2000) (hp : ethParse l = .error n) (hn : (n != 0) = true) :
    Calls Try.prog 11 #[.string ⟨l.toArray⟩] w fun e W' => e = .returned (.bool true) ∧ Below w.heap.size w W' := by
  have hl1 : ¬ (2000 : Int) < l.length := by omega
  have HP := Lib.hid hp
  clear hp
  go_enter Try.func11, Try.ntmps11
  go_wp2_with fail
  refine (awake08_any _).mono ?_
  rintro e w1 ⟨rfl, hb1⟩
  have z1 := (hb1).size
  try simp at z1
  go_wp2_with fail
  refine (ethParse_err l n _ (by omega) HP.out).mono ?_
  rintro e w2 ⟨rfl, hb2⟩
  have z2 := (hb2).size
  try simp at z2
  unfold ethV
  go_wp2_with fail
  go_ret
  refine ⟨by simp, ?_⟩
  (repeat (first | refine Below.alloc ?_ (by first | (simp; done) | (simp; omega) | omega) _ | refine Below.drew ?_ | refine Below.setRow ?_ (by first | (simp; done) | (simp; omega) | omega) _ | refine Below.setCell ?_ (by first | (simp; done) | (simp; omega) | omega) _))
  refine Below.trans ?_ (Below.mono hb2 (by first | (simp; done) | (simp; omega) | omega))
  exact hb1
set_option maxRecDepth 20000 in
set_option maxHeartbeats 2000000 in
theorem etherAgain_good (d : EthD) (hl : l.length ≤ 2000) (hp : ethParse l = .ok d) :
    Calls Try.prog 11 #[.string ⟨l.toArray⟩] w fun e W' => e = .returned (.bool true) ∧ Below w.heap.size w W' := by
  have hl1 : ¬ (2000 : Int) < l.length := by omega
  obtain ⟨hr, hle, htk⟩ := ethParse_again l d hp
  obtain ⟨dst, src, ty, body, vlan, prio⟩ := d
  simp only at hr hle htk
  have HP := Lib.hid hp
  clear hp
  have HP2 := Lib.hid (ethParse_print dst src ty body vlan prio hr)
  obtain ⟨t, ht⟩ : ∃ t, ethS dst src ty body vlan prio = t := ⟨_, rfl⟩
  have Hpr : ∀ w, Calls Try.prog 24 #[.agg (ethV dst src ty body vlan prio).toArray] w _ := fun w => ethPrint_any dst src ty body vlan prio w hr
  have HR := Lib.hid hr
  clear hr
  rw [ht] at hle htk HP2 Hpr
  have HPR := Lib.hid Hpr
  clear Hpr ht
  have hle1 : (t.length : Int) ≤ l.length := by omega
  have hmin : min t.length l.length = t.length := by omega
  have htk2 : l.take t.length = t := htk.symm
  clear htk
  go_enter Try.func11, Try.ntmps11
  go_wp2_with fail
  refine (awake08_any _).mono ?_
  rintro e w1 ⟨rfl, hb1⟩
  have z1 := (hb1).size
  try simp at z1
  go_wp2_with fail
  refine (ethParse_ok l _ _ (by omega) HP.out).mono ?_
  rintro e w2 ⟨rfl, hb2⟩
  have z2 := (hb2).size
  try simp at z2
  unfold ethV
  go_wp2_with fail
  refine (HPR.out _).mono ?_
  rintro e w3 ⟨rfl, hb3⟩
  have z3 := (hb3).size
  try simp at z3
  have ra : row w3 (w2.heap.size) = (u8v dst ++ (u8v src ++ [Value.int .i64 ty, .string ⟨body.toArray⟩, .int .i64 vlan, .int .i64 prio])).toArray := by rw [row_below hb3 (by first | (simp; done) | (simp; omega) | omega)]; simp [go_sem]; (try rfl)
  go_wp2_with fail
  refine (ethParse_ok t _ _ (by omega) HP2.out).mono ?_
  rintro e w4 ⟨rfl, hb4⟩
  have z4 := (hb4).size
  try simp at z4
  replace ra := (row_below hb4 (by omega)).trans ra
  have q4 : w2.heap.size < w4.heap.size := by omega
  unfold ethV
  go_wp2_with fail
  refine (right_any dst src ty body vlan prio _).mono ?_
  rintro e w5 ⟨rfl, hb5⟩
  rw [HR.out]
  have z5 := (hb5).size
  try simp at z5
  replace ra := Eq.trans (row_below hb5 (b := w2.heap.size) (by first | (simp; done) | (simp; omega) | omega)) (Eq.trans (by simp [go_sem, (show w2.heap.size < (w4).heap.size by omega)]) ra)
  have rb : row w5 (w4.heap.size) = (u8v dst ++ (u8v src ++ [Value.int .i64 ty, .string ⟨body.toArray⟩, .int .i64 vlan, .int .i64 prio])).toArray := by rw [row_below hb5 (by first | (simp; done) | (simp; omega) | omega)]; simp [go_sem]; (try rfl)
  go_wp2_with fail
  go_ret
  refine ⟨by simp, ?_⟩
  refine Below.trans ?_ (Below.mono hb5 (by first | (simp; done) | (simp; omega) | omega))
  (repeat (first | refine Below.alloc ?_ (by first | (simp; done) | (simp; omega) | omega) _ | refine Below.drew ?_ | refine Below.setRow ?_ (by first | (simp; done) | (simp; omega) | omega) _ | refine Below.setCell ?_ (by first | (simp; done) | (simp; omega) | omega) _))
  refine Below.trans ?_ (Below.mono hb4 (by first | (simp; done) | (simp; omega) | omega))
  refine Below.trans ?_ (Below.mono hb3 (by first | (simp; done) | (simp; omega) | omega))
  (repeat (first | refine Below.alloc ?_ (by first | (simp; done) | (simp; omega) | omega) _ | refine Below.drew ?_ | refine Below.setRow ?_ (by first | (simp; done) | (simp; omega) | omega) _ | refine Below.setCell ?_ (by first | (simp; done) | (simp; omega) | omega) _))
  refine Below.trans ?_ (Below.mono hb2 (by first | (simp; done) | (simp; omega) | omega))
  exact hb1
end
theorem ethParse_err0 (l : List UInt8) (n : Int) (h : ethParse l = .error n) : (n != 0) = true := by
  unfold ethParse at h
  have hR : ∀ k m v p, ethRest l k m v p = .error n → (n != 0) = true := by
    intro k m v p h
    unfold ethRest at h
    repeat' split at h
    all_goals first | (cases h; rfl) | (cases h; done)
  repeat' split at h
  all_goals first | exact hR _ _ _ _ h | (cases h; rfl)
theorem etherAgain_walk (W : World) (base : Nat) (args : Array Value) (hlen : args.size = Try.f11.params.size) (hval : ∀ (j : Nat) t v, Try.f11.params[j]? = some t → args[j]? = some v → Value.okWide Try.prog W .any base t v) :
    Calls Try.prog 11 args W fun e W' => e = .returned (.bool true) ∧ Below W.heap.size W W' := by
  obtain ⟨l⟩ := args
  match l, hlen with
  | [v0], _ =>
  have k0 := hval 0 9 v0 rfl rfl
  obtain ⟨s, rfl, hm⟩ := open_str Try.underlying9 k0
  by_cases hl : s.length ≤ 2000
  · cases hr : ethParse s with
    | error n => exact etherAgain_err s W n hl hr (ethParse_err0 s n hr)
    | ok d => exact etherAgain_good s W d hl hr
  · exact etherAgain_long s W hl hm
end Go.Proofs.Ythnjkpecnaglhaa
