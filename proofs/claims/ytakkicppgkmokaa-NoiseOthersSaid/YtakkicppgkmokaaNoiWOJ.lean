/- The walk of the law NoiseOthers. -/
import Derived.Test.YtakkicppgkmokaaNoiVJ
import Derived.Test.YtakkicppgkmokaaCmpJ
import Derived.Test.YtakkicppgkmokaaEqbJ
import Derived.Test.YtakkicppgkmokaaSrSJ
set_option linter.unusedSimpArgs false
set_option linter.unusedVariables false
set_option maxRecDepth 4000
namespace Go.Proofs.Ytakkicppgkmokaa
open Go.ChangeShapes Go.WideShapes Go.ChangeAt Go.RowKit
theorem greetL_tag (psk oth a : List UInt8) : greetL psk a = greetL oth a ↔ tagT (greetT psk a) = tagT (greetT oth a) := by
  unfold greetL
  exact ⟨fun h => List.append_cancel_left h, fun h => by rw [h]⟩
attribute [local irreducible] greetL hailT replyL oneK twoK shaK ansL
section
variable (psk oth a b s t : List UInt8) (w : World)
set_option maxRecDepth 20000 in
set_option maxHeartbeats 4000000 in
theorem noiseOthers_long1 (hs : 300 < s.length) : Calls Try.prog 3 #[.agg (u8s psk).toArray, .agg (u8s oth).toArray, .agg (u8s a).toArray, .agg (u8s b).toArray, .string ⟨s.toArray⟩, .string ⟨t.toArray⟩] w fun e w' => e = .returned (.bool true) ∧ Below w.heap.size w w' := by
  have h1 : (300 : Int) < (s.length : Int) := by omega
  go_enter Try.func3, Try.ntmps3
  obtain ⟨W, hW⟩ : ∃ x, (((w.alloc (.cells (u8s psk).toArray 23)).alloc (.cells (u8s oth).toArray 23)).alloc (.cells (u8s a).toArray 23)).alloc (.cells (u8s b).toArray 23) = x := ⟨_, rfl⟩
  have rP : row W w.heap.size = (u8s psk).toArray := by rw [← hW]; simp [go_sem]
  have rO : row W (w.heap.size + 1) = (u8s oth).toArray := by rw [← hW]; simp [go_sem]
  have rA : row W (w.heap.size + 2) = (u8s a).toArray := by rw [← hW]; simp [go_sem]
  have rB : row W (w.heap.size + 3) = (u8s b).toArray := by rw [← hW]; simp [go_sem]
  have zW : W.heap.size = w.heap.size + 4 := by rw [← hW]; simp
  have bW : Below w.heap.size w W := by
    rw [← hW]
    (repeat (first | exact Below.refl _ _ | refine Below.alloc ?_ (by first | (simp; done) | (simp; omega) | omega) _ | refine Below.drew ?_ | refine Below.setRow ?_ (by first | (simp; done) | (simp; omega) | omega) _ | refine Below.setCell ?_ (by first | (simp; done) | (simp; omega) | omega) _))
  go_wp2_with fail
  clear hW
  refine (awake13_any _).mono ?_
  rintro e w1 ⟨rfl, b1⟩
  have z1 := b1.size
  have rP_1 := (row_below b1 (by omega)).trans rP
  have rO_1 := (row_below b1 (by omega)).trans rO
  have rA_1 := (row_below b1 (by omega)).trans rA
  have rB_1 := (row_below b1 (by omega)).trans rB
  have bb1 := bW.trans (b1.mono (by omega))
  clear b1 rP rO rA rB bW
  go_wp2_with fail
  refine (awake13_any _).mono ?_
  rintro e w2 ⟨rfl, b2⟩
  have z2 := b2.size
  have rP_2 := (row_below b2 (by omega)).trans rP_1
  have rO_2 := (row_below b2 (by omega)).trans rO_1
  have rA_2 := (row_below b2 (by omega)).trans rA_1
  have rB_2 := (row_below b2 (by omega)).trans rB_1
  have bb2 := bb1.trans (b2.mono (by omega))
  clear b2 rP_1 rO_1 rA_1 rB_1 bb1
  go_wp2_with fail
  go_ret
  exact ⟨rfl, bb2⟩
set_option maxRecDepth 20000 in
set_option maxHeartbeats 4000000 in
theorem noiseOthers_long2 (hs : s.length ≤ 300) (ht : 300 < t.length) : Calls Try.prog 3 #[.agg (u8s psk).toArray, .agg (u8s oth).toArray, .agg (u8s a).toArray, .agg (u8s b).toArray, .string ⟨s.toArray⟩, .string ⟨t.toArray⟩] w fun e w' => e = .returned (.bool true) ∧ Below w.heap.size w w' := by
  have h1 : ¬ (300 : Int) < (s.length : Int) := by omega
  have h2 : (300 : Int) < (t.length : Int) := by omega
  go_enter Try.func3, Try.ntmps3
  obtain ⟨W, hW⟩ : ∃ x, (((w.alloc (.cells (u8s psk).toArray 23)).alloc (.cells (u8s oth).toArray 23)).alloc (.cells (u8s a).toArray 23)).alloc (.cells (u8s b).toArray 23) = x := ⟨_, rfl⟩
  have rP : row W w.heap.size = (u8s psk).toArray := by rw [← hW]; simp [go_sem]
  have rO : row W (w.heap.size + 1) = (u8s oth).toArray := by rw [← hW]; simp [go_sem]
  have rA : row W (w.heap.size + 2) = (u8s a).toArray := by rw [← hW]; simp [go_sem]
  have rB : row W (w.heap.size + 3) = (u8s b).toArray := by rw [← hW]; simp [go_sem]
  have zW : W.heap.size = w.heap.size + 4 := by rw [← hW]; simp
  have bW : Below w.heap.size w W := by
    rw [← hW]
    (repeat (first | exact Below.refl _ _ | refine Below.alloc ?_ (by first | (simp; done) | (simp; omega) | omega) _ | refine Below.drew ?_ | refine Below.setRow ?_ (by first | (simp; done) | (simp; omega) | omega) _ | refine Below.setCell ?_ (by first | (simp; done) | (simp; omega) | omega) _))
  go_wp2_with fail
  clear hW
  refine (awake13_any _).mono ?_
  rintro e w1 ⟨rfl, b1⟩
  have z1 := b1.size
  have rP_1 := (row_below b1 (by omega)).trans rP
  have rO_1 := (row_below b1 (by omega)).trans rO
  have rA_1 := (row_below b1 (by omega)).trans rA
  have rB_1 := (row_below b1 (by omega)).trans rB
  have bb1 := bW.trans (b1.mono (by omega))
  clear b1 rP rO rA rB bW
  go_wp2_with fail
  refine (awake13_any _).mono ?_
  rintro e w2 ⟨rfl, b2⟩
  have z2 := b2.size
  have rP_2 := (row_below b2 (by omega)).trans rP_1
  have rO_2 := (row_below b2 (by omega)).trans rO_1
  have rA_2 := (row_below b2 (by omega)).trans rA_1
  have rB_2 := (row_below b2 (by omega)).trans rB_1
  have bb2 := bb1.trans (b2.mono (by omega))
  clear b2 rP_1 rO_1 rA_1 rB_1 bb1
  go_wp2_with fail
  go_ret
  exact ⟨rfl, bb2⟩
set_option maxRecDepth 20000 in
set_option maxHeartbeats 4000000 in
theorem noiseOthers_same (hs : s.length ≤ 300) (ht : t.length ≤ 300) (hp : psk.length = 32) (ho : psk = oth) : Calls Try.prog 3 #[.agg (u8s psk).toArray, .agg (u8s oth).toArray, .agg (u8s a).toArray, .agg (u8s b).toArray, .string ⟨s.toArray⟩, .string ⟨t.toArray⟩] w fun e w' => e = .returned (.bool true) ∧ Below w.heap.size w w' := by
  have h1 : ¬ (300 : Int) < (s.length : Int) := by omega
  have h2 : ¬ (300 : Int) < (t.length : Int) := by omega
  subst ho
  have F1 := fits_u8s' psk hp
  have C1 := ceq_u8s_same psk
  go_enter Try.func3, Try.ntmps3
  obtain ⟨W, hW⟩ : ∃ x, (((w.alloc (.cells (u8s psk).toArray 23)).alloc (.cells (u8s psk).toArray 23)).alloc (.cells (u8s a).toArray 23)).alloc (.cells (u8s b).toArray 23) = x := ⟨_, rfl⟩
  have rP : row W w.heap.size = (u8s psk).toArray := by rw [← hW]; simp [go_sem]
  have rO : row W (w.heap.size + 1) = (u8s psk).toArray := by rw [← hW]; simp [go_sem]
  have rA : row W (w.heap.size + 2) = (u8s a).toArray := by rw [← hW]; simp [go_sem]
  have rB : row W (w.heap.size + 3) = (u8s b).toArray := by rw [← hW]; simp [go_sem]
  have zW : W.heap.size = w.heap.size + 4 := by rw [← hW]; simp
  have bW : Below w.heap.size w W := by
    rw [← hW]
    (repeat (first | exact Below.refl _ _ | refine Below.alloc ?_ (by first | (simp; done) | (simp; omega) | omega) _ | refine Below.drew ?_ | refine Below.setRow ?_ (by first | (simp; done) | (simp; omega) | omega) _ | refine Below.setCell ?_ (by first | (simp; done) | (simp; omega) | omega) _))
  go_wp2_with fail
  clear hW
  refine (awake13_any _).mono ?_
  rintro e w1 ⟨rfl, b1⟩
  have z1 := b1.size
  have rP_1 := (row_below b1 (by omega)).trans rP
  have rO_1 := (row_below b1 (by omega)).trans rO
  have rA_1 := (row_below b1 (by omega)).trans rA
  have rB_1 := (row_below b1 (by omega)).trans rB
  have bb1 := bW.trans (b1.mono (by omega))
  clear b1 rP rO rA rB bW
  go_wp2_with fail
  refine (awake13_any _).mono ?_
  rintro e w2 ⟨rfl, b2⟩
  have z2 := b2.size
  have rP_2 := (row_below b2 (by omega)).trans rP_1
  have rO_2 := (row_below b2 (by omega)).trans rO_1
  have rA_2 := (row_below b2 (by omega)).trans rA_1
  have rB_2 := (row_below b2 (by omega)).trans rB_1
  have bb2 := bb1.trans (b2.mono (by omega))
  clear b2 rP_1 rO_1 rA_1 rB_1 bb1
  go_wp2_with fail
  go_ret
  exact ⟨rfl, bb2⟩
set_option maxRecDepth 20000 in
set_option maxHeartbeats 4000000 in
theorem noiseOthers_yes (hs : s.length ≤ 300) (ht : t.length ≤ 300) (hp : psk.length = 32) (hol : oth.length = 32) (ha : a.length = 32) (hb : b.length = 32) (ho : psk ≠ oth) (he : tagT (greetT psk a) = tagT (greetT oth a)) : Calls Try.prog 3 #[.agg (u8s psk).toArray, .agg (u8s oth).toArray, .agg (u8s a).toArray, .agg (u8s b).toArray, .string ⟨s.toArray⟩, .string ⟨t.toArray⟩] w fun e w' => e = .returned (.bool true) ∧ Below w.heap.size w w' := by
  have g1 : ¬ (300 : Int) < (s.length : Int) := by omega
  have g2 : ¬ (300 : Int) < (t.length : Int) := by omega
  have g3 : ¬ 9223372036854775807 < s.length + t.length := by omega
  have F1 := fits_u8s' psk hp
  have F2 := fits_u8s' oth hol
  have C1 : ceq (u8s psk) (u8s oth) = false := by rw [ceq_u8s psk oth (by omega)]; simpa using ho
  have H1 := Lib.hid (fun w => hello_any psk a w hp ha)
  have H2 := fun w => hello_any oth a w hol ha
  have HH := Lib.hid (fun w => hash_any s t w (by omega) (by omega))
  have HR := Lib.hid (fun w => sum01_any (s ++ t) w (by rw [List.length_append]; omega))
  have hyl := shaK_length (s ++ t)
  obtain ⟨Y, hY⟩ : ∃ Y, shaK (s ++ t) = Y := ⟨_, rfl⟩
  rw [hY] at HH HR hyl
  have F3 := fits_u8s' Y hyl
  have C3 := ceq_u8s_same Y
  clear hY
  have HA0 := fun w => answer_yes oth b (pubL a) (tagT (greetT psk a)) w hol hb (pubL_length _) (tagT_length _) (by rw [ans_opens, he])
  rw [show pubL a ++ tagT (greetT psk a) = greetL psk a by unfold greetL; rfl] at HA0
  rw [← (greetL_tag psk oth a).2 he] at H2
  have kA := keyA_length (ansT4 oth b (pubL a) (tagT (greetT psk a)))
  have kB := keyB_length (ansT4 oth b (pubL a) (tagT (greetT psk a)))
  obtain ⟨x, hx⟩ : ∃ x, keyA (ansT4 oth b (pubL a) (tagT (greetT psk a))) = x := ⟨_, rfl⟩
  obtain ⟨y, hy⟩ : ∃ x, keyB (ansT4 oth b (pubL a) (tagT (greetT psk a))) = x := ⟨_, rfl⟩
  obtain ⟨u, hu⟩ : ∃ x, ansL oth b (pubL a) (tagT (greetT psk a)) = x := ⟨_, rfl⟩
  simp only [hx, hy, hu] at HA0 kA kB
  obtain ⟨g, hg⟩ : ∃ x, greetL psk a = x := ⟨_, rfl⟩
  rw [hg] at HA0 H1 H2
  have HA := Lib.hid HA0
  have K2 := Lib.hid H2
  clear HA0 H2 hx hy hu hg he ho
  go_enter Try.func3, Try.ntmps3
  obtain ⟨W, hW⟩ : ∃ x, (((w.alloc (.cells (u8s psk).toArray 23)).alloc (.cells (u8s oth).toArray 23)).alloc (.cells (u8s a).toArray 23)).alloc (.cells (u8s b).toArray 23) = x := ⟨_, rfl⟩
  have rP : row W w.heap.size = (u8s psk).toArray := by rw [← hW]; simp [go_sem]
  have rO : row W (w.heap.size + 1) = (u8s oth).toArray := by rw [← hW]; simp [go_sem]
  have rA : row W (w.heap.size + 2) = (u8s a).toArray := by rw [← hW]; simp [go_sem]
  have rB : row W (w.heap.size + 3) = (u8s b).toArray := by rw [← hW]; simp [go_sem]
  have zW : W.heap.size = w.heap.size + 4 := by rw [← hW]; simp
  have bW : Below w.heap.size w W := by
    rw [← hW]
    (repeat (first | exact Below.refl _ _ | refine Below.alloc ?_ (by first | (simp; done) | (simp; omega) | omega) _ | refine Below.drew ?_ | refine Below.setRow ?_ (by first | (simp; done) | (simp; omega) | omega) _ | refine Below.setCell ?_ (by first | (simp; done) | (simp; omega) | omega) _))
  go_wp2_with fail
  clear hW
  refine (awake13_any _).mono ?_
  rintro e w1 ⟨rfl, b1⟩
  have z1 := b1.size
  have rP_1 := (row_below b1 (by omega)).trans rP
  have rO_1 := (row_below b1 (by omega)).trans rO
  have rA_1 := (row_below b1 (by omega)).trans rA
  have rB_1 := (row_below b1 (by omega)).trans rB
  have bb1 := bW.trans (b1.mono (by omega))
  clear b1 rP rO rA rB bW
  go_wp2_with fail
  refine (H1.out _).mono ?_
  rintro e w2 ⟨S, rfl, gS, zS, rS, b2⟩
  have z2 := b2.size
  have rP_2 := (row_below b2 (by omega)).trans rP_1
  have rO_2 := (row_below b2 (by omega)).trans rO_1
  have rA_2 := (row_below b2 (by omega)).trans rA_1
  have rB_2 := (row_below b2 (by omega)).trans rB_1
  have bb2 := bb1.trans (b2.mono (by omega))
  clear b2 rP_1 rO_1 rA_1 rB_1 bb1
  go_wp2_with fail
  refine (K2.out _).mono ?_
  rintro e w3 ⟨S2, rfl, gS2, zS2, rS2, b3⟩
  have z3 := b3.size
  have rP_3 := (row_below b3 (by omega)).trans rP_2
  have rO_3 := (row_below b3 (by omega)).trans rO_2
  have rA_3 := (row_below b3 (by omega)).trans rA_2
  have rB_3 := (row_below b3 (by omega)).trans rB_2
  have bb3 := bb2.trans (b3.mono (by omega))
  clear b3 rP_2 rO_2 rA_2 rB_2 bb2
  go_wp2_with fail
  refine (HA.out _).mono ?_
  rintro e w4 ⟨rfl, b4⟩
  have z4 := b4.size
  have rP_4 := (row_below b4 (by omega)).trans rP_3
  have rO_4 := (row_below b4 (by omega)).trans rO_3
  have rA_4 := (row_below b4 (by omega)).trans rA_3
  have rB_4 := (row_below b4 (by omega)).trans rB_3
  have bb4 := bb3.trans (b4.mono (by omega))
  clear b4 rP_3 rO_3 rA_3 rB_3 bb3
  obtain ⟨W5, hW5⟩ : ∃ v, w4.alloc (.cells (u8s y ++ u8s x).toArray 29) = v := ⟨_, rfl⟩
  have rK_5 : row W5 w4.heap.size = (u8s y ++ u8s x).toArray := by rw [← hW5]; simp [go_sem]
  have b5 : Below w4.heap.size w4 W5 := by
    rw [← hW5]
    (repeat (first | exact Below.refl _ _ | refine Below.alloc ?_ (by first | (simp; done) | (simp; omega) | omega) _ | refine Below.drew ?_ | refine Below.setRow ?_ (by first | (simp; done) | (simp; omega) | omega) _ | refine Below.setCell ?_ (by first | (simp; done) | (simp; omega) | omega) _))
  have z5 : W5.heap.size = w4.heap.size + 1 := by rw [← hW5]; simp
  have rP_5 := (row_below b5 (by omega)).trans rP_4
  have rO_5 := (row_below b5 (by omega)).trans rO_4
  have rA_5 := (row_below b5 (by omega)).trans rA_4
  have rB_5 := (row_below b5 (by omega)).trans rB_4
  have bb5 := bb4.trans (b5.mono (by omega))
  go_wp2_with fail
  clear hW5 b5 rP_4 rO_4 rA_4 rB_4 bb4
  refine (HH.out _).mono ?_
  rintro e w6 ⟨rfl, b6⟩
  have z6 := b6.size
  have rP_6 := (row_below b6 (by omega)).trans rP_5
  have rO_6 := (row_below b6 (by omega)).trans rO_5
  have rA_6 := (row_below b6 (by omega)).trans rA_5
  have rB_6 := (row_below b6 (by omega)).trans rB_5
  have rK_6 := (row_below b6 (by omega)).trans rK_5
  have bb6 := bb5.trans (b6.mono (by omega))
  clear b6 rP_5 rO_5 rA_5 rB_5 rK_5 bb5
  go_wp2_with fail
  refine (HR.out _).mono ?_
  rintro e w7 ⟨rfl, b7⟩
  have z7 := b7.size
  have rP_7 := (row_below b7 (by omega)).trans rP_6
  have rO_7 := (row_below b7 (by omega)).trans rO_6
  have rA_7 := (row_below b7 (by omega)).trans rA_6
  have rB_7 := (row_below b7 (by omega)).trans rB_6
  have rK_7 := (row_below b7 (by omega)).trans rK_6
  have bb7 := bb6.trans (b7.mono (by omega))
  clear b7 rP_6 rO_6 rA_6 rB_6 rK_6 bb6
  go_wp2_with fail
  go_ret
  exact ⟨by first | (simp; done) | simpa using hne, bb7⟩
set_option maxRecDepth 20000 in
set_option maxHeartbeats 4000000 in
theorem noiseOthers_no (hs : s.length ≤ 300) (ht : t.length ≤ 300) (hp : psk.length = 32) (hol : oth.length = 32) (ha : a.length = 32) (hb : b.length = 32) (ho : psk ≠ oth) (he : tagT (greetT psk a) ≠ tagT (greetT oth a)) : Calls Try.prog 3 #[.agg (u8s psk).toArray, .agg (u8s oth).toArray, .agg (u8s a).toArray, .agg (u8s b).toArray, .string ⟨s.toArray⟩, .string ⟨t.toArray⟩] w fun e w' => e = .returned (.bool true) ∧ Below w.heap.size w w' := by
  have g1 : ¬ (300 : Int) < (s.length : Int) := by omega
  have g2 : ¬ (300 : Int) < (t.length : Int) := by omega
  have g3 : ¬ 9223372036854775807 < s.length + t.length := by omega
  have F1 := fits_u8s' psk hp
  have F2 := fits_u8s' oth hol
  have C1 : ceq (u8s psk) (u8s oth) = false := by rw [ceq_u8s psk oth (by omega)]; simpa using ho
  have H1 := Lib.hid (fun w => hello_any psk a w hp ha)
  have H2 := fun w => hello_any oth a w hol ha
  have HH := Lib.hid (fun w => hash_any s t w (by omega) (by omega))
  have HR := Lib.hid (fun w => sum01_any (s ++ t) w (by rw [List.length_append]; omega))
  have hyl := shaK_length (s ++ t)
  obtain ⟨Y, hY⟩ : ∃ Y, shaK (s ++ t) = Y := ⟨_, rfl⟩
  rw [hY] at HH HR hyl
  have F3 := fits_u8s' Y hyl
  have C3 := ceq_u8s_same Y
  clear hY
  have HA0 := fun w => answer_no oth b (pubL a) (tagT (greetT psk a)) w hol hb (pubL_length _) (tagT_length _) (by rw [ans_opens]; exact fun h => he h.symm)
  rw [show pubL a ++ tagT (greetT psk a) = greetL psk a by unfold greetL; rfl] at HA0
  have hne : greetL psk a ≠ greetL oth a := fun h => he ((greetL_tag psk oth a).1 h)
  obtain ⟨g, hg⟩ : ∃ x, greetL psk a = x := ⟨_, rfl⟩
  obtain ⟨q, hq⟩ : ∃ x, greetL oth a = x := ⟨_, rfl⟩
  rw [hg] at HA0 H1 hne
  rw [hq] at H2 hne
  have HA := Lib.hid HA0
  have K2 := Lib.hid H2
  clear HA0 H2 hg hq he ho
  go_enter Try.func3, Try.ntmps3
  obtain ⟨W, hW⟩ : ∃ x, (((w.alloc (.cells (u8s psk).toArray 23)).alloc (.cells (u8s oth).toArray 23)).alloc (.cells (u8s a).toArray 23)).alloc (.cells (u8s b).toArray 23) = x := ⟨_, rfl⟩
  have rP : row W w.heap.size = (u8s psk).toArray := by rw [← hW]; simp [go_sem]
  have rO : row W (w.heap.size + 1) = (u8s oth).toArray := by rw [← hW]; simp [go_sem]
  have rA : row W (w.heap.size + 2) = (u8s a).toArray := by rw [← hW]; simp [go_sem]
  have rB : row W (w.heap.size + 3) = (u8s b).toArray := by rw [← hW]; simp [go_sem]
  have zW : W.heap.size = w.heap.size + 4 := by rw [← hW]; simp
  have bW : Below w.heap.size w W := by
    rw [← hW]
    (repeat (first | exact Below.refl _ _ | refine Below.alloc ?_ (by first | (simp; done) | (simp; omega) | omega) _ | refine Below.drew ?_ | refine Below.setRow ?_ (by first | (simp; done) | (simp; omega) | omega) _ | refine Below.setCell ?_ (by first | (simp; done) | (simp; omega) | omega) _))
  go_wp2_with fail
  clear hW
  refine (awake13_any _).mono ?_
  rintro e w1 ⟨rfl, b1⟩
  have z1 := b1.size
  have rP_1 := (row_below b1 (by omega)).trans rP
  have rO_1 := (row_below b1 (by omega)).trans rO
  have rA_1 := (row_below b1 (by omega)).trans rA
  have rB_1 := (row_below b1 (by omega)).trans rB
  have bb1 := bW.trans (b1.mono (by omega))
  clear b1 rP rO rA rB bW
  go_wp2_with fail
  refine (H1.out _).mono ?_
  rintro e w2 ⟨S, rfl, gS, zS, rS, b2⟩
  have z2 := b2.size
  have rP_2 := (row_below b2 (by omega)).trans rP_1
  have rO_2 := (row_below b2 (by omega)).trans rO_1
  have rA_2 := (row_below b2 (by omega)).trans rA_1
  have rB_2 := (row_below b2 (by omega)).trans rB_1
  have bb2 := bb1.trans (b2.mono (by omega))
  clear b2 rP_1 rO_1 rA_1 rB_1 bb1
  go_wp2_with fail
  refine (K2.out _).mono ?_
  rintro e w3 ⟨S2, rfl, gS2, zS2, rS2, b3⟩
  have z3 := b3.size
  have rP_3 := (row_below b3 (by omega)).trans rP_2
  have rO_3 := (row_below b3 (by omega)).trans rO_2
  have rA_3 := (row_below b3 (by omega)).trans rA_2
  have rB_3 := (row_below b3 (by omega)).trans rB_2
  have bb3 := bb2.trans (b3.mono (by omega))
  clear b3 rP_2 rO_2 rA_2 rB_2 bb2
  go_wp2_with fail
  refine (HA.out _).mono ?_
  rintro e w4 ⟨rfl, b4⟩
  have z4 := b4.size
  have rP_4 := (row_below b4 (by omega)).trans rP_3
  have rO_4 := (row_below b4 (by omega)).trans rO_3
  have rA_4 := (row_below b4 (by omega)).trans rA_3
  have rB_4 := (row_below b4 (by omega)).trans rB_3
  have bb4 := bb3.trans (b4.mono (by omega))
  clear b4 rP_3 rO_3 rA_3 rB_3 bb3
  obtain ⟨U5, hU5⟩ : ∃ v, w4.alloc (.cells (zeros 64 (Value.int .u8 0)).toArray 29) = v := ⟨_, rfl⟩
  have rU5 : row U5 w4.heap.size = (zeros 64 (Value.int .u8 0)).toArray := by rw [← hU5]; simp [go_sem]
  have zU5 : U5.heap.size = w4.heap.size + 1 := by rw [← hU5]; simp
  obtain ⟨V5, hV5⟩ : ∃ v, U5.setRow w4.heap.size (zeros 64 (Value.int .u8 0)).toArray = v := ⟨_, rfl⟩
  have rK_5 : row V5 w4.heap.size = (zeros 64 (Value.int .u8 0)).toArray := by rw [← hV5]; exact row_setRow_same (by rw [rU5]; simp) (by rw [rU5])
  have b5 : Below w4.heap.size w4 V5 := by
    rw [← hV5, ← hU5]
    (repeat (first | exact Below.refl _ _ | refine Below.alloc ?_ (by first | (simp; done) | (simp; omega) | omega) _ | refine Below.drew ?_ | refine Below.setRow ?_ (by first | (simp; done) | (simp; omega) | omega) _ | refine Below.setCell ?_ (by first | (simp; done) | (simp; omega) | omega) _))
  have z5 : V5.heap.size = w4.heap.size + 1 := by rw [← hV5, setRow_size]; exact zU5
  have rP_5 := (row_below b5 (by omega)).trans rP_4
  have rO_5 := (row_below b5 (by omega)).trans rO_4
  have rA_5 := (row_below b5 (by omega)).trans rA_4
  have rB_5 := (row_below b5 (by omega)).trans rB_4
  have bb5 := bb4.trans (b5.mono (by omega))
  go_wp2_with fail
  clear hU5 hV5 rU5 zU5 b5 rP_4 rO_4 rA_4 rB_4 bb4
  refine (HH.out _).mono ?_
  rintro e w6 ⟨rfl, b6⟩
  have z6 := b6.size
  have rP_6 := (row_below b6 (by omega)).trans rP_5
  have rO_6 := (row_below b6 (by omega)).trans rO_5
  have rA_6 := (row_below b6 (by omega)).trans rA_5
  have rB_6 := (row_below b6 (by omega)).trans rB_5
  have rK_6 := (row_below b6 (by omega)).trans rK_5
  have bb6 := bb5.trans (b6.mono (by omega))
  clear b6 rP_5 rO_5 rA_5 rB_5 rK_5 bb5
  go_wp2_with fail
  refine (HR.out _).mono ?_
  rintro e w7 ⟨rfl, b7⟩
  have z7 := b7.size
  have rP_7 := (row_below b7 (by omega)).trans rP_6
  have rO_7 := (row_below b7 (by omega)).trans rO_6
  have rA_7 := (row_below b7 (by omega)).trans rA_6
  have rB_7 := (row_below b7 (by omega)).trans rB_6
  have rK_7 := (row_below b7 (by omega)).trans rK_6
  have bb7 := bb6.trans (b7.mono (by omega))
  clear b7 rP_6 rO_6 rA_6 rB_6 rK_6 bb6
  go_wp2_with fail
  go_ret
  exact ⟨by first | (simp; done) | simpa using hne, bb7⟩
end
theorem noiseOthers_walk (W : World) (base : Nat) (args : Array Value) (hlen : args.size = Try.f3.params.size) (hval : ∀ (j : Nat) t v, Try.f3.params[j]? = some t → args[j]? = some v → Value.okWide Try.prog W .any base t v) :
    Calls Try.prog 3 args W fun e W' => e = .returned (.bool true) ∧ Below W.heap.size W W' := by
  obtain ⟨l⟩ := args
  match l, hlen with
  | [v0, v1, v2, v3, v4, v5], _ =>
  obtain ⟨p, rfl, hp⟩ := open_key (hval 0 23 v0 rfl rfl)
  obtain ⟨o, rfl, ho⟩ := open_key (hval 1 23 v1 rfl rfl)
  obtain ⟨a, rfl, ha⟩ := open_key (hval 2 23 v2 rfl rfl)
  obtain ⟨b, rfl, hb⟩ := open_key (hval 3 23 v3 rfl rfl)
  obtain ⟨s, rfl, hs⟩ := open_str Try.underlying9 (hval 4 9 v4 rfl rfl)
  obtain ⟨t, rfl, ht⟩ := open_str Try.underlying9 (hval 5 9 v5 rfl rfl)
  by_cases h1 : s.length ≤ 300
  · by_cases h2 : t.length ≤ 300
    · by_cases h3 : p = o
      · exact h3 ▸ noiseOthers_same p p a b s t W h1 h2 hp rfl
      · by_cases h4 : tagT (greetT p a) = tagT (greetT o a)
        · exact noiseOthers_yes p o a b s t W h1 h2 hp ho ha hb h3 h4
        · exact noiseOthers_no p o a b s t W h1 h2 hp ho ha hb h3 h4
    · exact noiseOthers_long2 p o a b s t W h1 (by omega)
  · exact noiseOthers_long1 p o a b s t W (by omega)
end Go.Proofs.Ytakkicppgkmokaa
