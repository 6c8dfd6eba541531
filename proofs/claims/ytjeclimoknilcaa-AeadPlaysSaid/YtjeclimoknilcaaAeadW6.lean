/- The walk of the law AeadPlays. -/
import Derived.Test.YtjeclimoknilcaaAeadW2
import Derived.Test.YtjeclimoknilcaaRfG
set_option linter.unusedSimpArgs false
set_option linter.unusedVariables false
namespace Go.Proofs.Ytjeclimoknilcaa
open Go.ChangeShapes Go.WideShapes Go.ChangeAt Go.RowKit
set_option maxRecDepth 20000 in
theorem aeadPlays_long1 (k beside s : List UInt8) (n : Nat) (w : World) (g1 : (400 : Int) < beside.length) :
    Calls Try.prog 3 #[.agg (u8s k).toArray, .int .u64 n, .string ⟨beside.toArray⟩, .string ⟨s.toArray⟩] w fun e w' => e = .returned (.bool true) ∧ Below w.heap.size w w' := by
  go_enter Try.func3, Try.ntmps3
  go_wp2_with fail
  (with_reducible refine (awake05_any _).mono ?_)
  rintro e w1 ⟨rfl, b1⟩
  go_wp2_with fail
  (with_reducible refine (awake05_any _).mono ?_)
  rintro e w2 ⟨rfl, b2⟩
  go_wp2_with fail
  go_ret
  exact ⟨rfl, Below.trans (by (repeat (first | exact Below.refl _ _ | refine Below.alloc ?_ (by first | (simp; done) | (simp; omega) | omega) _ | refine Below.drew ?_ | refine Below.setRow ?_ (by first | (simp; done) | (simp; omega) | omega) _ | refine Below.setCell ?_ (by first | (simp; done) | (simp; omega) | omega) _))) (Below.trans (b1.mono (by simp)) (b2.mono (by have := b1.size; simp at this; omega)))⟩
set_option maxRecDepth 20000 in
theorem aeadPlays_long2 (k beside s : List UInt8) (n : Nat) (w : World) (g1 : ¬ (400 : Int) < beside.length) (g2 : (400 : Int) < s.length) :
    Calls Try.prog 3 #[.agg (u8s k).toArray, .int .u64 n, .string ⟨beside.toArray⟩, .string ⟨s.toArray⟩] w fun e w' => e = .returned (.bool true) ∧ Below w.heap.size w w' := by
  go_enter Try.func3, Try.ntmps3
  go_wp2_with fail
  (with_reducible refine (awake05_any _).mono ?_)
  rintro e w1 ⟨rfl, b1⟩
  go_wp2_with fail
  (with_reducible refine (awake05_any _).mono ?_)
  rintro e w2 ⟨rfl, b2⟩
  go_wp2_with fail
  go_ret
  exact ⟨rfl, Below.trans (by (repeat (first | exact Below.refl _ _ | refine Below.alloc ?_ (by first | (simp; done) | (simp; omega) | omega) _ | refine Below.drew ?_ | refine Below.setRow ?_ (by first | (simp; done) | (simp; omega) | omega) _ | refine Below.setCell ?_ (by first | (simp; done) | (simp; omega) | omega) _))) (Below.trans (b1.mono (by simp)) (b2.mono (by have := b1.size; simp at this; omega)))⟩
set_option maxRecDepth 20000 in
set_option maxHeartbeats 1000000 in
theorem aeadPlays_good (k beside s : List UInt8) (n : Nat) (w : World) (hn : n < 18446744073709551616) (hk : k.length = 32) (hb : beside.length ≤ 400) (hs : s.length ≤ 400) :
    Calls Try.prog 3 #[.agg (u8s k).toArray, .int .u64 n, .string ⟨beside.toArray⟩, .string ⟨s.toArray⟩] w fun e w' => e = .returned (.bool true) ∧ Below w.heap.size w w' := by
  have HE := Lib.hid (fun w => eight_any n w hn)
  have HN := Lib.hid (fun w => nonce_any n w)
  have HS := Lib.hid (fun w => seal_any k (nonceL n) beside s w hk (nonceL_length n) (by omega) (by omega))
  have HT := Lib.hid (fun w => tag_any k (nonceL n) beside s w hk (nonceL_length n) (by omega) (by omega))
  have HSR := Lib.hid (fun w => sealR_any k (nonceL n) beside s w hk (nonceL_length n) (by omega) (by omega))
  have HTR := Lib.hid (fun w => tagR_any k (nonceL n) beside s w hk (nonceL_length n) (by omega) (by omega))
  have hl8 := num8_length n
  obtain ⟨S, eS⟩ : ∃ x, sealL k (nonceL n) beside s = x := ⟨_, rfl⟩
  obtain ⟨T, eT⟩ : ∃ x, tagL k (nonceL n) beside s = x := ⟨_, rfl⟩
  have eN : nonceL n = 0 :: 0 :: 0 :: 0 :: num8 n := rfl
  obtain ⟨E, eE⟩ : ∃ x, num8 n = x := ⟨_, rfl⟩
  rw [eE] at eN
  obtain ⟨m, em⟩ : ∃ x, nonceL n = x := ⟨_, rfl⟩
  rw [em] at eN
  simp only [eS, eT, eE, em] at HE HN HS HT HSR HTR hl8
  have HM := Lib.hid eN
  clear eS eT eE em eN
  have g1 : ¬ (400 : Int) < beside.length := by omega
  have g2 : ¬ (400 : Int) < s.length := by omega
  have g3 : E.length ≤ 100 := by omega
  clear hb hs hl8
  go_enter Try.func3, Try.ntmps3
  go_wp2_with fail
  (with_reducible refine (awake05_any _).mono ?_)
  rintro e w1 ⟨rfl, b1⟩
  have z1 := b1.size
  simp at z1
  have r1 : row w1 w.heap.size = (u8s k).toArray := by rw [row_below b1 (by simp)]; simp [go_sem]
  have B1 : Below w.heap.size w w1 := Below.trans (by (repeat (first | exact Below.refl _ _ | refine Below.alloc ?_ (by first | (simp; done) | (simp; omega) | omega) _ | refine Below.drew ?_ | refine Below.setRow ?_ (by first | (simp; done) | (simp; omega) | omega) _ | refine Below.setCell ?_ (by first | (simp; done) | (simp; omega) | omega) _))) (b1.mono (by simp))
  clear b1
  go_wp2_with fail
  (with_reducible refine (HE.out _).mono ?_)
  rintro e w2 ⟨rfl, b2⟩
  have z2 := b2.size
  have r2 := (row_below b2 (by omega)).trans r1
  have B2 := B1.trans (b2.mono (by omega))
  clear b2 B1 r1
  go_wp2_with fail
  rw [show (0 :: 0 :: 0 :: 0 :: E : List UInt8) = m from HM.out.symm]
  (with_reducible refine (HS.out _).mono ?_)
  rintro e w3 ⟨rfl, b3⟩
  have z3 := b3.size
  have r3 := (row_below b3 (by omega)).trans r2
  have B3 := B2.trans (b3.mono (by omega))
  clear b3 B2 r2
  go_wp2_with fail
  (with_reducible refine (HT.out _).mono ?_)
  rintro e w4 ⟨rfl, b4⟩
  have z4 := b4.size
  have r4 := (row_below b4 (by omega)).trans r3
  have B4 := B3.trans (b4.mono (by omega))
  clear b4 B3 r3
  go_wp2_with fail
  (with_reducible refine (HN.out _).mono ?_)
  rintro e w5 ⟨rfl, b5⟩
  have z5 := b5.size
  have r5 := (row_below b5 (by omega)).trans r4
  have B5 := B4.trans (b5.mono (by omega))
  clear b5 B4 r4
  go_wp2_with fail
  (with_reducible refine (HSR.out _).mono ?_)
  rintro e w6 ⟨rfl, b6⟩
  have z6 := b6.size
  have r6 := (row_below b6 (by omega)).trans r5
  have B6 := B5.trans (b6.mono (by omega))
  clear b6 B5 r5
  go_wp2_with fail
  (with_reducible refine (HTR.out _).mono ?_)
  rintro e w7 ⟨rfl, b7⟩
  have B7 := B6.trans (b7.mono (by omega))
  clear b7 B6 r6
  go_wp2_with fail
  go_ret
  exact ⟨by simp, B7⟩
theorem aeadPlays_walk (W : World) (base : Nat) (args : Array Value) (hlen : args.size = Try.f3.params.size) (hval : ∀ (j : Nat) t v, Try.f3.params[j]? = some t → args[j]? = some v → Value.okWide Try.prog W .any base t v) :
    Calls Try.prog 3 args W fun e W' => e = .returned (.bool true) ∧ Below W.heap.size W W' := by
  obtain ⟨l⟩ := args
  match l, hlen with
  | [v0, v1, v2, v3], _ =>
  obtain ⟨k, rfl, hk⟩ := open_key (hval 0 23 v0 rfl rfl)
  obtain ⟨n, rfl, hn⟩ := open_num Try.underlying24 (hval 1 24 v1 rfl rfl)
  obtain ⟨b, rfl, hb⟩ := open_str Try.underlying9 (hval 2 9 v2 rfl rfl)
  obtain ⟨s, rfl, hs⟩ := open_str Try.underlying9 (hval 3 9 v3 rfl rfl)
  obtain ⟨m, rfl, hm⟩ := u64_nat2 hn
  by_cases h1 : b.length ≤ 400
  · by_cases h2 : s.length ≤ 400
    · exact aeadPlays_good k b s m W hm hk h1 h2
    · exact aeadPlays_long2 k b s m W (by omega) (by omega)
  · exact aeadPlays_long1 k b s m W (by omega)
end Go.Proofs.Ytjeclimoknilcaa
