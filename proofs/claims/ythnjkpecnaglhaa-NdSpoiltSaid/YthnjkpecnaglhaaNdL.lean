/- What the laws of package nd share. -/
import Derived.Test.YthnjkpecnaglhaaNdF
import Derived.Test.YthnjkpecnaglhaaFrame
set_option linter.unusedSimpArgs false
set_option linter.unusedVariables false
namespace Go.Proofs.Ythnjkpecnaglhaa
open Go.ChangeShapes Go.WideShapes Go.ChangeAt Go.RowKit
theorem goods_nd {vs : List Value} (hg : goods (.int .i64 :: (leaves 16 (.int .u8) ++ (leaves 16 (.int .u8) ++ (leaves 16 (.int .u8) ++ (leaves 6 (.int .u8) ++ (.bool :: (leaves 4 (.int .u8) ++ []))))))) vs) :
    ∃ (op : Int) (fr to ab : Vector UInt8 16) (mac : Vector UInt8 6) (has : Bool) (fl : Vector UInt8 4), vs = ndV op fr to ab mac has fl := by
  obtain ⟨op, r1, e1, _, h1⟩ := goods_int hg
  obtain ⟨fr, r2, e2, h2⟩ := goods_u8 h1
  obtain ⟨to, r3, e3, h3⟩ := goods_u8 h2
  obtain ⟨ab, r4, e4, h4⟩ := goods_u8 h3
  obtain ⟨mac, r5, e5, h5⟩ := goods_u8 h4
  obtain ⟨has, r6, e6, h6⟩ := goods_bool h5
  obtain ⟨fl, r7, e7, h7⟩ := goods_u8 h6
  have e8 := goods_nil h7
  exact ⟨op, fr, to, ab, mac, has, fl, by rw [e1, e2, e3, e4, e5, e6, e7, e8]; simp [ndV]⟩
theorem open_nd {W : World} {base : Nat} {v : Value} (h : Value.okWide Try.prog W .any base 52 v) :
    ∃ (op : Int) (fr to ab : Vector UInt8 16) (mac : Vector UInt8 6) (has : Bool) (fl : Vector UInt8 4), v = .agg (ndV op fr to ab mac has fl).toArray := by
  obtain ⟨vs, hv, hg⟩ := open_plain Try.underlying52 rfl (by kernel_rfl) (by kernel_rfl) h
  obtain ⟨op, fr, to, ab, mac, has, fl, e⟩ := goods_nd hg
  exact ⟨op, fr, to, ab, mac, has, fl, by rw [hv, e]⟩
section
variable (op : Int) (fr to ab : Vector UInt8 16) (mac : Vector UInt8 6) (has : Bool) (fl : Vector UInt8 4) (w : World)
set_option maxRecDepth 20000 in
set_option maxHeartbeats 2000000 in
theorem of10_any : Calls Try.prog 27 #[.agg (ndV op fr to ab mac has fl).toArray] w fun e w' => e = .returned (.agg (ndV op fr to ab mac has fl).toArray) ∧ Below w.heap.size w w' := by
  unfold ndV
  go_enter Try.func27, Try.ntmps27
  go_wp2
  ((try simp only [Exit.inBlock, Exit.then]); refine bodyPost_ret (results_1 rfl (resOk_row rfl ?_)) rfl ?_; (simp [go_sem]))
  refine ⟨by simp [go_sem], ?_⟩
  (repeat (first | exact Below.refl _ _ | refine Below.alloc ?_ (by first | (simp; done) | (simp; omega) | omega) _ | refine Below.drew ?_ | refine Below.setRow ?_ (by first | (simp; done) | (simp; omega) | omega) _ | refine Below.setCell ?_ (by first | (simp; done) | (simp; omega) | omega) _))
set_option maxRecDepth 20000 in
set_option maxHeartbeats 2000000 in
theorem plain10_any : Calls Try.prog 30 #[.agg (ndV op fr to ab mac has fl).toArray] w fun e w' => e = .returned (.agg (ndV op fr to ab mac has fl).toArray) ∧ Below w.heap.size w w' := by
  unfold ndV
  go_enter Try.func30, Try.ntmps30
  go_wp2
  ((try simp only [Exit.inBlock, Exit.then]); refine bodyPost_ret (results_1 rfl (resOk_row rfl ?_)) rfl ?_; (simp [go_sem]))
  refine ⟨by simp [go_sem], ?_⟩
  (repeat (first | exact Below.refl _ _ | refine Below.alloc ?_ (by first | (simp; done) | (simp; omega) | omega) _ | refine Below.drew ?_ | refine Below.setRow ?_ (by first | (simp; done) | (simp; omega) | omega) _ | refine Below.setCell ?_ (by first | (simp; done) | (simp; omega) | omega) _))
set_option maxRecDepth 20000 in
set_option maxHeartbeats 2000000 in
theorem right10_badop (h1 : (op == 1) = false) (h2 : (op == 2) = false) : Calls Try.prog 28 #[.agg (ndV op fr to ab mac has fl).toArray] w fun e w' => e = .returned (.bool false) ∧ Below w.heap.size w w' := by
  unfold ndV
  go_enter Try.func28, Try.ntmps28
  go_wp2
  go_ret
  refine ⟨by simp, ?_⟩
  (repeat (first | exact Below.refl _ _ | refine Below.alloc ?_ (by first | (simp; done) | (simp; omega) | omega) _ | refine Below.drew ?_ | refine Below.setRow ?_ (by first | (simp; done) | (simp; omega) | omega) _ | refine Below.setCell ?_ (by first | (simp; done) | (simp; omega) | omega) _))
set_option maxRecDepth 20000 in
set_option maxHeartbeats 2000000 in
theorem ndPrint_badop (h1 : (op != 1) = true) (h2 : (op != 2) = true) : Calls Try.prog 26 #[.agg (ndV op fr to ab mac has fl).toArray] w fun e w' => e = .returned (.tuple #[.string ⟨#[]⟩, .int .i64 3]) ∧ Below w.heap.size w w' := by
  unfold ndV
  go_enter Try.func26, Try.ntmps26
  go_wp2_with fail
  go_ret2
  refine ⟨by simp, ?_⟩
  (repeat (first | exact Below.refl _ _ | refine Below.alloc ?_ (by first | (simp; done) | (simp; omega) | omega) _ | refine Below.drew ?_ | refine Below.setRow ?_ (by first | (simp; done) | (simp; omega) | omega) _ | refine Below.setCell ?_ (by first | (simp; done) | (simp; omega) | omega) _))
end
set_option maxRecDepth 20000 in
set_option maxHeartbeats 2000000 in
theorem right10_badmac1 (fr to ab : Vector UInt8 16) (mac : Vector UInt8 6) (fl : Vector UInt8 4) (w : World) (h1 : (mac == mac0) = false) : Calls Try.prog 28 #[.agg (ndV 1 fr to ab mac false fl).toArray] w fun e w' => e = .returned (.bool false) ∧ Below w.heap.size w w' := by
  unfold ndV
  go_enter Try.func28, Try.ntmps28
  go_wp2
  go_ret
  refine ⟨by simp, ?_⟩
  (repeat (first | exact Below.refl _ _ | refine Below.alloc ?_ (by first | (simp; done) | (simp; omega) | omega) _ | refine Below.drew ?_ | refine Below.setRow ?_ (by first | (simp; done) | (simp; omega) | omega) _ | refine Below.setCell ?_ (by first | (simp; done) | (simp; omega) | omega) _))
set_option maxRecDepth 20000 in
set_option maxHeartbeats 2000000 in
theorem ndPrint_badmac1 (fr to ab : Vector UInt8 16) (mac : Vector UInt8 6) (fl : Vector UInt8 4) (w : World) (h0 : (mac == mac0) = false) (h1 : (mac != mac0) = true) : Calls Try.prog 26 #[.agg (ndV 1 fr to ab mac false fl).toArray] w fun e w' => e = .returned (.tuple #[.string ⟨#[]⟩, .int .i64 3]) ∧ Below w.heap.size w w' := by
  unfold ndV
  go_enter Try.func26, Try.ntmps26
  go_wp2_with fail
  go_ret2
  refine ⟨by simp, ?_⟩
  (repeat (first | exact Below.refl _ _ | refine Below.alloc ?_ (by first | (simp; done) | (simp; omega) | omega) _ | refine Below.drew ?_ | refine Below.setRow ?_ (by first | (simp; done) | (simp; omega) | omega) _ | refine Below.setCell ?_ (by first | (simp; done) | (simp; omega) | omega) _))
set_option maxRecDepth 20000 in
set_option maxHeartbeats 2000000 in
theorem right10_badmac2 (fr to ab : Vector UInt8 16) (mac : Vector UInt8 6) (fl : Vector UInt8 4) (w : World) (h1 : (mac == mac0) = false) : Calls Try.prog 28 #[.agg (ndV 2 fr to ab mac false fl).toArray] w fun e w' => e = .returned (.bool false) ∧ Below w.heap.size w w' := by
  unfold ndV
  go_enter Try.func28, Try.ntmps28
  go_wp2
  go_ret
  refine ⟨by simp, ?_⟩
  (repeat (first | exact Below.refl _ _ | refine Below.alloc ?_ (by first | (simp; done) | (simp; omega) | omega) _ | refine Below.drew ?_ | refine Below.setRow ?_ (by first | (simp; done) | (simp; omega) | omega) _ | refine Below.setCell ?_ (by first | (simp; done) | (simp; omega) | omega) _))
set_option maxRecDepth 20000 in
set_option maxHeartbeats 2000000 in
theorem ndPrint_badmac2 (fr to ab : Vector UInt8 16) (mac : Vector UInt8 6) (fl : Vector UInt8 4) (w : World) (h0 : (mac == mac0) = false) (h1 : (mac != mac0) = true) : Calls Try.prog 26 #[.agg (ndV 2 fr to ab mac false fl).toArray] w fun e w' => e = .returned (.tuple #[.string ⟨#[]⟩, .int .i64 3]) ∧ Below w.heap.size w w' := by
  unfold ndV
  go_enter Try.func26, Try.ntmps26
  go_wp2_with fail
  go_ret2
  refine ⟨by simp, ?_⟩
  (repeat (first | exact Below.refl _ _ | refine Below.alloc ?_ (by first | (simp; done) | (simp; omega) | omega) _ | refine Below.drew ?_ | refine Below.setRow ?_ (by first | (simp; done) | (simp; omega) | omega) _ | refine Below.setCell ?_ (by first | (simp; done) | (simp; omega) | omega) _))
set_option maxRecDepth 20000 in
set_option maxHeartbeats 2000000 in
theorem awake10_any (w : World) : Calls Try.prog 25 #[] w fun e w' => e = .returned (.bool true) ∧ Below w.heap.size w w' := by
  have Hp : ∀ w, Calls Try.prog 26 #[.agg (ndV 1 ip0 ip0 ip0 mac0 false four0).toArray] w _ := fun w => ndPrintS_op1 ip0 ip0 ip0 four0 w
  have hl : (ndS 1 ip0 ip0 ip0 mac0 false four0).length = 64 := ndS_length _ _ _ _ _ _ _
  have h6 := nd_6 1 ip0 ip0 ip0 mac0 false four0 [] (by rw [List.length_append, hl]; decide)
  simp only [List.append_nil] at h6
  obtain ⟨s, hs⟩ : ∃ s, ndS 1 ip0 ip0 ip0 mac0 false four0 = s := ⟨_, rfl⟩
  simp only [hs] at Hp hl h6
  have hk : 6 < s.length := by omega
  have g6 : s[6].toNat = 58 := by rw [h6]; rfl
  have HP := Lib.hid Hp
  clear Hp hs h6
  have hl2 : (s.length : Int) = 64 := by omega
  go_enter Try.func25, Try.ntmps25
  go_wp2_with fail
  refine (HP.out _).mono ?_
  rintro e w1 ⟨rfl, hb1⟩
  go_wp2_with fail
  go_ret
  exact ⟨by simp, hb1⟩
end Go.Proofs.Ythnjkpecnaglhaa
