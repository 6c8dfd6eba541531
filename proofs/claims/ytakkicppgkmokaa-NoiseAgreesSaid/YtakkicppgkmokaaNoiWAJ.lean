/- The walk of the law NoiseAgrees. -/
import Derived.Test.YtakkicppgkmokaaNoiVJ
import Derived.Test.YtakkicppgkmokaaCmpJ
import Derived.Test.YtakkicppgkmokaaEqbJ
set_option linter.unusedSimpArgs false
set_option linter.unusedVariables false
set_option maxRecDepth 4000
namespace Go.Proofs.Ytakkicppgkmokaa
open Go.ChangeShapes Go.WideShapes Go.ChangeAt Go.RowKit
attribute [local irreducible] greetL hailT replyL oneK twoK
set_option maxRecDepth 20000 in
set_option maxHeartbeats 4000000 in
theorem noiseAgrees_any (psk a b : List UInt8) (w : World) (hp : psk.length = 32) (ha : a.length = 32) (hb : b.length = 32) :
    Calls Try.prog 4 #[.agg (u8s psk).toArray, .agg (u8s a).toArray, .agg (u8s b).toArray] w fun e w' => e = .returned (.bool true) ∧ Below w.heap.size w w' := by
  have H1 := Lib.hid (fun w => hello_any psk a w hp ha)
  have H2 := Lib.hid (fun w => reply_any psk a b w hp hb)
  have H3 := Lib.hid (fun S w hr => ends_any psk a b S w ha hb hr)
  have lg := greetL_length psk a
  have lr := replyL_length psk a b
  have l1 := oneK_length psk a b
  have l2 := twoK_length psk a b
  obtain ⟨g, hg⟩ : ∃ g, greetL psk a = g := ⟨_, rfl⟩
  obtain ⟨r, hr⟩ : ∃ g, replyL psk a b = g := ⟨_, rfl⟩
  obtain ⟨x, hx⟩ : ∃ g, oneK psk a b = g := ⟨_, rfl⟩
  obtain ⟨y, hy⟩ : ∃ g, twoK psk a b = g := ⟨_, rfl⟩
  obtain ⟨T, hT⟩ : ∃ g, hailT psk a = g := ⟨_, rfl⟩
  rw [hg] at H1 H2 lg
  rw [hT] at H1 H3
  rw [hr] at H2 H3 lr
  rw [hx] at H2 H3 l1
  rw [hy] at H2 H3 l2
  have lgI : (g.length : Int) = 48 := by omega
  have lrI : (r.length : Int) = 48 := by omega
  have LG := Lib.hid lg
  have LR := Lib.hid lr
  have F1 : fits (leaves 32 (.int .u8) ++ leaves 32 (.int .u8)) (u8s x ++ u8s y) = true := by have := fits_two x y l1 l2; rwa [List.append_nil] at this
  have F2 := fits_u8s' x l1
  have F3 := fits_u8s' y l2
  have C1 := ceq_two_same x y
  have C2 := ceq_u8s_same x
  have C3 := ceq_u8s_same y
  clear hg hr hx hy hT lg lr
  go_enter Try.func4, Try.ntmps4
  obtain ⟨W, hW⟩ : ∃ x, ((w.alloc (.cells (u8s psk).toArray 23)).alloc (.cells (u8s a).toArray 23)).alloc (.cells (u8s b).toArray 23) = x := ⟨_, rfl⟩
  have rP : row W w.heap.size = (u8s psk).toArray := by rw [← hW]; simp [go_sem]
  have rA : row W (w.heap.size + 1) = (u8s a).toArray := by rw [← hW]; simp [go_sem]
  have rB : row W (w.heap.size + 2) = (u8s b).toArray := by rw [← hW]; simp [go_sem]
  have zW : W.heap.size = w.heap.size + 3 := by rw [← hW]; simp
  have bW : Below w.heap.size w W := by
    rw [← hW]
    (repeat (first | exact Below.refl _ _ | refine Below.alloc ?_ (by first | (simp; done) | (simp; omega) | omega) _ | refine Below.drew ?_ | refine Below.setRow ?_ (by first | (simp; done) | (simp; omega) | omega) _ | refine Below.setCell ?_ (by first | (simp; done) | (simp; omega) | omega) _))
  go_wp2_with fail
  clear hW
  refine (awake13_any _).mono ?_
  rintro e w1 ⟨rfl, b1⟩
  have z1 := b1.size
  have rP1 := (row_below b1 (by omega)).trans rP
  have rA1 := (row_below b1 (by omega)).trans rA
  have rB1 := (row_below b1 (by omega)).trans rB
  have bb1 := bW.trans (b1.mono (by omega))
  clear b1 rP rA rB bW
  go_wp2_with fail
  refine (H1.out _).mono ?_
  rintro e w2 ⟨S, rfl, gS, zS, rS, b2⟩
  have z2 := b2.size
  have rP2 := (row_below b2 (by omega)).trans rP1
  have rB2 := (row_below b2 (by omega)).trans rB1
  have bb2 := bb1.trans (b2.mono (by omega))
  clear b2 rP1 rA1 rB1 bb1
  go_wp2_with fail
  refine (H2.out _).mono ?_
  rintro e w3 ⟨rfl, b3⟩
  have z3 := b3.size
  have rS3 := (row_below b3 zS).trans rS
  have bb3 := bb2.trans (b3.mono (by omega))
  clear b3 rP2 rB2 bb2 rS
  obtain ⟨W4, hW4⟩ : ∃ v, w3.alloc (.cells (u8s y ++ u8s x).toArray 29) = v := ⟨_, rfl⟩
  have rK4 : row W4 w3.heap.size = (u8s y ++ u8s x).toArray := by rw [← hW4]; simp [go_sem]
  have b4 : Below w3.heap.size w3 W4 := by
    rw [← hW4]
    (repeat (first | exact Below.refl _ _ | refine Below.alloc ?_ (by first | (simp; done) | (simp; omega) | omega) _ | refine Below.drew ?_ | refine Below.setRow ?_ (by first | (simp; done) | (simp; omega) | omega) _ | refine Below.setCell ?_ (by first | (simp; done) | (simp; omega) | omega) _))
  have z4 : W4.heap.size = w3.heap.size + 1 := by rw [← hW4]; simp
  have rS4 := (row_below b4 (by omega)).trans rS3
  have bb4 := bb3.trans (b4.mono (by omega))
  go_wp2_with fail
  clear hW4 b4 rS3 bb3
  refine (H3.out _ _ rS4).mono ?_
  rintro e w5 ⟨rfl, b5⟩
  have z5 := b5.size
  have rS5 := (row_below b5 (by omega)).trans rS4
  have rK5 := (row_below b5 (by omega)).trans rK4
  have bb5 := bb4.trans (b5.mono (by omega))
  clear b5 rS4 rK4 bb4
  obtain ⟨W6, hW6⟩ : ∃ v, w5.alloc (.cells (u8s x ++ u8s y).toArray 29) = v := ⟨_, rfl⟩
  have rL6 : row W6 w5.heap.size = (u8s x ++ u8s y).toArray := by rw [← hW6]; simp [go_sem]
  have b6 : Below w5.heap.size w5 W6 := by
    rw [← hW6]
    (repeat (first | exact Below.refl _ _ | refine Below.alloc ?_ (by first | (simp; done) | (simp; omega) | omega) _ | refine Below.drew ?_ | refine Below.setRow ?_ (by first | (simp; done) | (simp; omega) | omega) _ | refine Below.setCell ?_ (by first | (simp; done) | (simp; omega) | omega) _))
  have z6 : W6.heap.size = w5.heap.size + 1 := by rw [← hW6]; simp
  have rS6 := (row_below b6 (by omega)).trans rS5
  have rK6 := (row_below b6 (by omega)).trans rK5
  have bb6 := bb5.trans (b6.mono (by omega))
  go_wp2_with fail
  clear hW6 b6 rS5 rK5 bb5
  refine (H3.out _ _ rS6).mono ?_
  rintro e w7 ⟨rfl, b7⟩
  have z7 := b7.size
  have rL7 := (row_below b7 (by omega)).trans rL6
  have rK7 := (row_below b7 (by omega)).trans rK6
  have bb7 := bb6.trans (b7.mono (by omega))
  clear b7 rS6 rK6 rL6 bb6
  obtain ⟨W8, hW8⟩ : ∃ v, w7.alloc (.cells (u8s x ++ u8s y).toArray 29) = v := ⟨_, rfl⟩
  have rM8 : row W8 w7.heap.size = (u8s x ++ u8s y).toArray := by rw [← hW8]; simp [go_sem]
  have b8 : Below w7.heap.size w7 W8 := by
    rw [← hW8]
    (repeat (first | exact Below.refl _ _ | refine Below.alloc ?_ (by first | (simp; done) | (simp; omega) | omega) _ | refine Below.drew ?_ | refine Below.setRow ?_ (by first | (simp; done) | (simp; omega) | omega) _ | refine Below.setCell ?_ (by first | (simp; done) | (simp; omega) | omega) _))
  have z8 : W8.heap.size = w7.heap.size + 1 := by rw [← hW8]; simp
  have rL8 := (row_below b8 (by omega)).trans rL7
  have rK8 := (row_below b8 (by omega)).trans rK7
  have bb8 := bb7.trans (b8.mono (by omega))
  go_wp2_with fail
  go_ret
  refine ⟨by simp, bb8⟩
theorem noiseAgrees_walk (W : World) (base : Nat) (args : Array Value) (hlen : args.size = Try.f4.params.size) (hval : ∀ (j : Nat) t v, Try.f4.params[j]? = some t → args[j]? = some v → Value.okWide Try.prog W .any base t v) :
    Calls Try.prog 4 args W fun e W' => e = .returned (.bool true) ∧ Below W.heap.size W W' := by
  obtain ⟨l⟩ := args
  match l, hlen with
  | [v0, v1, v2], _ =>
  obtain ⟨p, rfl, hp⟩ := open_key (hval 0 23 v0 rfl rfl)
  obtain ⟨a, rfl, ha⟩ := open_key (hval 1 23 v1 rfl rfl)
  obtain ⟨b, rfl, hb⟩ := open_key (hval 2 23 v2 rfl rfl)
  exact noiseAgrees_any p a b W hp ha hb
end Go.Proofs.Ytakkicppgkmokaa
