/- The walk of the law NoiseClamps. -/
import Derived.Test.YtakkicppgkmokaaNoiVJ
import Derived.Test.YtakkicppgkmokaaCmpJ
import Derived.Test.YtakkicppgkmokaaEqbJ
set_option linter.unusedSimpArgs false
set_option linter.unusedVariables false
set_option maxRecDepth 4000
namespace Go.Proofs.Ytakkicppgkmokaa
open Go.ChangeShapes Go.WideShapes Go.ChangeAt Go.RowKit
/-! ### plain: secrets that are alike as scalars -/
theorem sharedK_clamp (a u : List UInt8) (ha : a.length = 32) : sharedK (clampL a) u = sharedK a u := by
  unfold sharedK
  rw [clamp_clamp a ha]
theorem pubL_clamp (a : List UInt8) (ha : a.length = 32) : pubL (clampL a) = pubL a := sharedK_clamp a _ ha
theorem like_greet (psk a : List UInt8) (ha : a.length = 32) : Like (greetT psk (clampL a)) (greetT psk a) := by
  unfold greetT
  rw [pubL_clamp a ha]
  exact (like_begin psk a (clampL a)).met _
theorem greetL_clamp (psk a : List UInt8) (ha : a.length = 32) : greetL psk (clampL a) = greetL psk a := by rw [greetL, greetL, pubL_clamp a ha, (like_greet psk a ha).tag]
theorem like_ans3 (psk b p x : List UInt8) (hb : b.length = 32) : Like (ansT3 psk (clampL b) p x) (ansT3 psk b p x) := by
  unfold ansT3 ansT2 ansT1 ansT0
  rw [sharedK_clamp b p hb, pubL_clamp b hb]
  exact ((((like_begin psk b (clampL b)).met _).took _).met _).chain _
theorem ansL_clamp (psk b p x : List UInt8) (hb : b.length = 32) : ansL psk (clampL b) p x = ansL psk b p x := by rw [ansL, ansL, pubL_clamp b hb, (like_ans3 psk b p x hb).tag]
theorem like_ans4 (psk b p x : List UInt8) (hb : b.length = 32) : Like (ansT4 psk (clampL b) p x) (ansT4 psk b p x) := by
  unfold ansT4
  rw [(like_ans3 psk b p x hb).tag]
  exact (like_ans3 psk b p x hb).took _
theorem replyL_clampA (psk a b : List UInt8) (ha : a.length = 32) : replyL psk (clampL a) b = replyL psk a b := by rw [replyL, replyL, pubL_clamp a ha, (like_greet psk a ha).tag]
theorem replyL_clampB (psk a b : List UInt8) (hb : b.length = 32) : replyL psk a (clampL b) = replyL psk a b := ansL_clamp _ _ _ _ hb
theorem oneK_clampA (psk a b : List UInt8) (ha : a.length = 32) : oneK psk (clampL a) b = oneK psk a b := by rw [oneK, oneK, pubL_clamp a ha, (like_greet psk a ha).tag]
theorem twoK_clampA (psk a b : List UInt8) (ha : a.length = 32) : twoK psk (clampL a) b = twoK psk a b := by rw [twoK, twoK, pubL_clamp a ha, (like_greet psk a ha).tag]
theorem oneK_clampB (psk a b : List UInt8) (hb : b.length = 32) : oneK psk a (clampL b) = oneK psk a b := (like_ans4 _ _ _ _ hb).keyA
theorem twoK_clampB (psk a b : List UInt8) (hb : b.length = 32) : twoK psk a (clampL b) = twoK psk a b := (like_ans4 _ _ _ _ hb).keyB
attribute [local irreducible] greetL hailT replyL oneK twoK clampL
set_option maxRecDepth 20000 in
set_option maxHeartbeats 4000000 in
theorem noiseClamps_any (psk a b : List UInt8) (w : World) (hp : psk.length = 32) (ha : a.length = 32) (hb : b.length = 32) :
    Calls Try.prog 6 #[.agg (u8s psk).toArray, .agg (u8s a).toArray, .agg (u8s b).toArray] w fun e w' => e = .returned (.bool true) ∧ Below w.heap.size w w' := by
  have hc : (clampL a).length = 32 := by rw [clampL_length _]; exact ha
  have hd : (clampL b).length = 32 := by rw [clampL_length _]; exact hb
  have HC1 := Lib.hid (fun w => clamp_any a w ha)
  have HC2 := Lib.hid (fun w => clamp_any b w hb)
  have H1 := Lib.hid (fun w => hello_any psk a w hp ha)
  have H1c := fun w => hello_any psk (clampL a) w hp hc
  rw [greetL_clamp psk a ha] at H1c
  have H2 := Lib.hid (fun w => reply_any psk a b w hp hb)
  have H2d := fun w => reply_any psk a (clampL b) w hp hd
  rw [replyL_clampB psk a b hb, oneK_clampB psk a b hb, twoK_clampB psk a b hb] at H2d
  have H3 := Lib.hid (fun S w hr => ends_any psk a b S w ha hb hr)
  have H3c := fun S w hr => ends_any psk (clampL a) b S w hc hb hr
  rw [replyL_clampA psk a b ha, oneK_clampA psk a b ha, twoK_clampA psk a b ha] at H3c
  have lg := greetL_length psk a
  have lr := replyL_length psk a b
  have l1 := oneK_length psk a b
  have l2 := twoK_length psk a b
  obtain ⟨g, hg⟩ : ∃ g, greetL psk a = g := ⟨_, rfl⟩
  obtain ⟨r, hr⟩ : ∃ g, replyL psk a b = g := ⟨_, rfl⟩
  obtain ⟨x, hx⟩ : ∃ g, oneK psk a b = g := ⟨_, rfl⟩
  obtain ⟨y, hy⟩ : ∃ g, twoK psk a b = g := ⟨_, rfl⟩
  obtain ⟨T, hT⟩ : ∃ g, hailT psk a = g := ⟨_, rfl⟩
  obtain ⟨T2, hT2⟩ : ∃ g, hailT psk (clampL a) = g := ⟨_, rfl⟩
  rw [hg] at H1 H1c H2 H2d lg
  rw [hT] at H1 H3
  rw [hT2] at H1c H3c
  rw [hr] at H2 H2d H3 H3c lr
  rw [hx] at H2 H2d H3 H3c l1
  rw [hy] at H2 H2d H3 H3c l2
  obtain ⟨c, ec⟩ : ∃ g, clampL a = g := ⟨_, rfl⟩
  obtain ⟨d, ed⟩ : ∃ g, clampL b = g := ⟨_, rfl⟩
  rw [ec] at HC1 H1c hc
  rw [ed] at HC2 H2d hd
  have K1 := Lib.hid H1c
  have K2 := Lib.hid H2d
  have K3 := Lib.hid H3c
  have F1 : fits (leaves 32 (.int .u8) ++ leaves 32 (.int .u8)) (u8s x ++ u8s y) = true := by have := fits_two x y l1 l2; rwa [List.append_nil] at this
  have F2 : fits (leaves 32 (.int .u8) ++ leaves 32 (.int .u8)) (u8s y ++ u8s x) = true := by have := fits_two y x l2 l1; rwa [List.append_nil] at this
  have C1 := ceq_two_same x y
  have C2 := ceq_two_same y x
  clear hg hr hx hy hT hT2 lg lr H1c H2d H3c ec ed
  go_enter Try.func6, Try.ntmps6
  obtain ⟨W, hW⟩ : ∃ x, ((w.alloc (.cells (u8s psk).toArray 23)).alloc (.cells (u8s a).toArray 23)).alloc (.cells (u8s b).toArray 23) = x := ⟨_, rfl⟩
  have rP : row W w.heap.size = (u8s psk).toArray := by rw [← hW]; simp [go_sem]
  have rA : row W (w.heap.size + 1) = (u8s a).toArray := by rw [← hW]; simp [go_sem]
  have rB : row W (w.heap.size + 2) = (u8s b).toArray := by rw [← hW]; simp [go_sem]
  have zW : W.heap.size = w.heap.size + 3 := by rw [← hW]; simp
  have bW : Below w.heap.size w W := by
    rw [← hW]
    (repeat (first | exact Below.refl _ _ | refine Below.alloc ?_ (by first | (simp; done) | (simp; omega) | omega) _ | refine Below.drew ?_ | refine Below.setRow ?_ (by first | (simp; done) | (simp; omega) | omega) _ | refine Below.setCell ?_ (by first | (simp; done) | (simp; omega) | omega) _))
  go_wp2_with fail
  clear hW
  refine (awake13_any _).mono ?_
  rintro e w1 ⟨rfl, b1⟩
  have z1 := b1.size
  have rP_1 := (row_below b1 (by omega)).trans rP
  have rA_1 := (row_below b1 (by omega)).trans rA
  have rB_1 := (row_below b1 (by omega)).trans rB
  have bb1 := bW.trans (b1.mono (by omega))
  clear b1 rP rA rB bW
  go_wp2_with fail
  have rA' : row w1 (w.heap.size + 1) = (u8s a).toArray := rA_1
  have rB' : row w1 (w.heap.size + 1 + 1) = (u8s b).toArray := rB_1
  refine wp_region_beginR [(w.heap.size + 1, (u8s a).toArray), (w.heap.size + 1 + 1, (u8s b).toArray)] rfl (by simp only [Rws]; (repeat (first | exact trivial | refine ⟨(by first | assumption | (simp [go_sem, *]; done)), (by first | omega | (simp; done) | (simp; omega)), ?_⟩))) (fun hS => ?_)
  refine wpAnyR_take (i := 0) (v := ?_) (by simp only [List.getElem?_toArray, List.getElem?_cons_succ, List.getElem?_cons_zero]; rfl) (by kernel_rfl) (by kernel_rfl) (by kernel_rfl) (by first | exact fun _ _ _ h => h | exact fun _ _ _ h => by cases h.1) (Rws.grow _) (Or.inl ⟨by rfl, ?_⟩) hS ?_
  rotate_left
  · intro w' hS'
    simp only [Rws] at hS'
    go_simp
    refine ⟨?_, Below.refl _ _⟩
    rfl
  (try simp only [Act.put, List.setIfInBounds_toArray, List.set_cons_zero, List.set_cons_succ])
  refine wpAnyR_take (i := 2) (v := ?_) (by simp only [List.getElem?_toArray, List.getElem?_cons_succ, List.getElem?_cons_zero]; rfl) (by kernel_rfl) (by kernel_rfl) (by kernel_rfl) (by first | exact fun _ _ _ h => h | exact fun _ _ _ h => by cases h.1) (Rws.grow _) (Or.inl ⟨by rfl, ?_⟩) hS ?_
  rotate_left
  · intro w' hS'
    simp only [Rws] at hS'
    go_simp
    refine ⟨?_, Below.refl _ _⟩
    rfl
  (try simp only [Act.put, List.setIfInBounds_toArray, List.set_cons_zero, List.set_cons_succ])
  refine wpAnyR_take (i := 1) (v := ?_) (by simp only [List.getElem?_toArray, List.getElem?_cons_succ, List.getElem?_cons_zero]; rfl) (by kernel_rfl) (by kernel_rfl) (by kernel_rfl) (by first | exact fun _ _ _ h => h | exact fun _ _ _ h => by cases h.1) (Rws.grow _) (Or.inl ⟨by rfl, ?_⟩) hS ?_
  rotate_left
  · intro w' hS'
    simp only [Rws] at hS'
    go_simp
    with_reducible refine (HC1.out _).mono ?_
    rintro e w'' ⟨rfl, hb⟩
    refine ⟨_, rfl, ?_, hb⟩
    rfl
  (try simp only [Act.put, List.setIfInBounds_toArray, List.set_cons_zero, List.set_cons_succ])
  refine wpAnyR_take (i := 3) (v := ?_) (by simp only [List.getElem?_toArray, List.getElem?_cons_succ, List.getElem?_cons_zero]; rfl) (by kernel_rfl) (by kernel_rfl) (by kernel_rfl) (by first | exact fun _ _ _ h => h | exact fun _ _ _ h => by cases h.1) (Rws.grow _) (Or.inl ⟨by rfl, ?_⟩) hS ?_
  rotate_left
  · intro w' hS'
    simp only [Rws] at hS'
    go_simp
    with_reducible refine (HC2.out _).mono ?_
    rintro e w'' ⟨rfl, hb⟩
    refine ⟨_, rfl, ?_, hb⟩
    rfl
  (try simp only [Act.put, List.setIfInBounds_toArray, List.set_cons_zero, List.set_cons_succ])
  refine wpAnyR_pair (i := 4) (j := 5) (k := 6) (m := 7) (zi := (zeros 32 (Value.int .u8 0)).toArray) (zj := (zeros 32 (Value.int .u8 0)).toArray) (cA := (u8s c).toArray) (cB := (u8s d).toArray) (by simp only [List.getElem?_toArray, List.getElem?_cons_succ, List.getElem?_cons_zero]; rfl) (by simp only [List.getElem?_toArray, List.getElem?_cons_succ, List.getElem?_cons_zero]; rfl) (by simp only [List.getElem?_toArray, List.getElem?_cons_succ, List.getElem?_cons_zero]; rfl) (by simp only [List.getElem?_toArray, List.getElem?_cons_succ, List.getElem?_cons_zero]; rfl) ⟨rfl, rfl, fun a w => by go_simp; (refine ⟨?_, ?_⟩ <;> rfl)⟩ ⟨rfl, rfl, fun a w => by go_simp; (refine ⟨?_, ?_⟩ <;> rfl)⟩ (by decide) (by decide) (by kernel_rfl) (by kernel_rfl) (by kernel_rfl) (by kernel_rfl) (by kernel_rfl) (by kernel_rfl) rfl rfl rfl rfl (by simp [*]) (by simp [*]) (by simp) (by simp) (by simp; (try omega)) (fun A B w1 hr => by
    simp only [Act.put, List.setIfInBounds_toArray, List.set_cons_zero, List.set_cons_succ, ptr]
    go_simp
    try rfl) (fun A B w1 hr => by
    simp only [Act.put, List.setIfInBounds_toArray, List.set_cons_zero, List.set_cons_succ, ptr]
    go_simp
    try rfl) hS (fun N U w2 gN gU nN zN zU b2 rN rU => ?_)
  (try simp only [Act.put, List.setIfInBounds_toArray, List.set_cons_zero, List.set_cons_succ])
  replace gN : (w1).heap.size ≤ N := gN
  replace gU : (w1).heap.size ≤ U := gU
  replace b2 : Below (w1).heap.size w1 w2 := Below.trans (Below.drew (Below.refl _ _)) b2
  have zw2 := (b2).size
  simp only [ptr]
  clear hS
  have rP_2 := (row_below b2 (by omega)).trans rP_1
  have rA_2 := (row_below b2 (by omega)).trans rA_1
  have rB_2 := (row_below b2 (by omega)).trans rB_1
  have bb2 := bb1.trans (b2.mono (by omega))
  have zN2 := zN
  clear b2 rA' rB' rP_1 rA_1 rB_1 bb1
  go_wp2_with fail
  refine (H1.out _).mono ?_
  rintro e w3 ⟨S, rfl, gS, zS, rS, b3⟩
  have z3 := b3.size
  have rP_3 := (row_below b3 (by omega)).trans rP_2
  have rA_3 := (row_below b3 (by omega)).trans rA_2
  have rB_3 := (row_below b3 (by omega)).trans rB_2
  have rC_3 := (row_below b3 (by omega)).trans rN
  have rD_3 := (row_below b3 (by omega)).trans rU
  have bb3 := bb2.trans (b3.mono (by omega))
  clear b3 rP_2 rA_2 rB_2 rN rU bb2
  go_wp2_with fail
  refine (K1.out _).mono ?_
  rintro e w4 ⟨S2, rfl, gS2, zS2, rS2, b4⟩
  have z4 := b4.size
  have rP_4 := (row_below b4 (by omega)).trans rP_3
  have rA_4 := (row_below b4 (by omega)).trans rA_3
  have rB_4 := (row_below b4 (by omega)).trans rB_3
  have rC_4 := (row_below b4 (by omega)).trans rC_3
  have rD_4 := (row_below b4 (by omega)).trans rD_3
  have rS_4 := (row_below b4 (by omega)).trans rS
  have bb4 := bb3.trans (b4.mono (by omega))
  clear b4 rP_3 rA_3 rB_3 rC_3 rD_3 rS bb3
  go_wp2_with fail
  refine (H2.out _).mono ?_
  rintro e w5 ⟨rfl, b5⟩
  have z5 := b5.size
  have rP_5 := (row_below b5 (by omega)).trans rP_4
  have rA_5 := (row_below b5 (by omega)).trans rA_4
  have rB_5 := (row_below b5 (by omega)).trans rB_4
  have rC_5 := (row_below b5 (by omega)).trans rC_4
  have rD_5 := (row_below b5 (by omega)).trans rD_4
  have rS_5 := (row_below b5 (by omega)).trans rS_4
  have rS2_5 := (row_below b5 (by omega)).trans rS2
  have bb5 := bb4.trans (b5.mono (by omega))
  clear b5 rP_4 rA_4 rB_4 rC_4 rD_4 rS_4 rS2 bb4
  obtain ⟨W6, hW6⟩ : ∃ v, w5.alloc (.cells (u8s y ++ u8s x).toArray 29) = v := ⟨_, rfl⟩
  have rK_6 : row W6 w5.heap.size = (u8s y ++ u8s x).toArray := by rw [← hW6]; simp [go_sem]
  have b6 : Below w5.heap.size w5 W6 := by
    rw [← hW6]
    (repeat (first | exact Below.refl _ _ | refine Below.alloc ?_ (by first | (simp; done) | (simp; omega) | omega) _ | refine Below.drew ?_ | refine Below.setRow ?_ (by first | (simp; done) | (simp; omega) | omega) _ | refine Below.setCell ?_ (by first | (simp; done) | (simp; omega) | omega) _))
  have z6 : W6.heap.size = w5.heap.size + 1 := by rw [← hW6]; simp
  have rP_6 := (row_below b6 (by omega)).trans rP_5
  have rA_6 := (row_below b6 (by omega)).trans rA_5
  have rB_6 := (row_below b6 (by omega)).trans rB_5
  have rC_6 := (row_below b6 (by omega)).trans rC_5
  have rD_6 := (row_below b6 (by omega)).trans rD_5
  have rS_6 := (row_below b6 (by omega)).trans rS_5
  have rS2_6 := (row_below b6 (by omega)).trans rS2_5
  have bb6 := bb5.trans (b6.mono (by omega))
  go_wp2_with fail
  clear hW6 b6 rP_5 rA_5 rB_5 rC_5 rD_5 rS_5 rS2_5 bb5
  refine (K2.out _).mono ?_
  rintro e w7 ⟨rfl, b7⟩
  have z7 := b7.size
  have rP_7 := (row_below b7 (by omega)).trans rP_6
  have rA_7 := (row_below b7 (by omega)).trans rA_6
  have rB_7 := (row_below b7 (by omega)).trans rB_6
  have rC_7 := (row_below b7 (by omega)).trans rC_6
  have rD_7 := (row_below b7 (by omega)).trans rD_6
  have rS_7 := (row_below b7 (by omega)).trans rS_6
  have rS2_7 := (row_below b7 (by omega)).trans rS2_6
  have rK_7 := (row_below b7 (by omega)).trans rK_6
  have bb7 := bb6.trans (b7.mono (by omega))
  clear b7 rP_6 rA_6 rB_6 rC_6 rD_6 rS_6 rS2_6 rK_6 bb6
  obtain ⟨W8, hW8⟩ : ∃ v, w7.alloc (.cells (u8s y ++ u8s x).toArray 29) = v := ⟨_, rfl⟩
  have rL_8 : row W8 w7.heap.size = (u8s y ++ u8s x).toArray := by rw [← hW8]; simp [go_sem]
  have b8 : Below w7.heap.size w7 W8 := by
    rw [← hW8]
    (repeat (first | exact Below.refl _ _ | refine Below.alloc ?_ (by first | (simp; done) | (simp; omega) | omega) _ | refine Below.drew ?_ | refine Below.setRow ?_ (by first | (simp; done) | (simp; omega) | omega) _ | refine Below.setCell ?_ (by first | (simp; done) | (simp; omega) | omega) _))
  have z8 : W8.heap.size = w7.heap.size + 1 := by rw [← hW8]; simp
  have rP_8 := (row_below b8 (by omega)).trans rP_7
  have rA_8 := (row_below b8 (by omega)).trans rA_7
  have rB_8 := (row_below b8 (by omega)).trans rB_7
  have rC_8 := (row_below b8 (by omega)).trans rC_7
  have rD_8 := (row_below b8 (by omega)).trans rD_7
  have rS_8 := (row_below b8 (by omega)).trans rS_7
  have rS2_8 := (row_below b8 (by omega)).trans rS2_7
  have rK_8 := (row_below b8 (by omega)).trans rK_7
  have bb8 := bb7.trans (b8.mono (by omega))
  go_wp2_with fail
  clear hW8 b8 rP_7 rA_7 rB_7 rC_7 rD_7 rS_7 rS2_7 rK_7 bb7
  refine (H3.out _ _ rS_8).mono ?_
  rintro e w9 ⟨rfl, b9⟩
  have z9 := b9.size
  have rP_9 := (row_below b9 (by omega)).trans rP_8
  have rA_9 := (row_below b9 (by omega)).trans rA_8
  have rB_9 := (row_below b9 (by omega)).trans rB_8
  have rC_9 := (row_below b9 (by omega)).trans rC_8
  have rD_9 := (row_below b9 (by omega)).trans rD_8
  have rS_9 := (row_below b9 (by omega)).trans rS_8
  have rS2_9 := (row_below b9 (by omega)).trans rS2_8
  have rK_9 := (row_below b9 (by omega)).trans rK_8
  have rL_9 := (row_below b9 (by omega)).trans rL_8
  have bb9 := bb8.trans (b9.mono (by omega))
  clear b9 rP_8 rA_8 rB_8 rC_8 rD_8 rS_8 rS2_8 rK_8 rL_8 bb8
  obtain ⟨W10, hW10⟩ : ∃ v, w9.alloc (.cells (u8s x ++ u8s y).toArray 29) = v := ⟨_, rfl⟩
  have rM_10 : row W10 w9.heap.size = (u8s x ++ u8s y).toArray := by rw [← hW10]; simp [go_sem]
  have b10 : Below w9.heap.size w9 W10 := by
    rw [← hW10]
    (repeat (first | exact Below.refl _ _ | refine Below.alloc ?_ (by first | (simp; done) | (simp; omega) | omega) _ | refine Below.drew ?_ | refine Below.setRow ?_ (by first | (simp; done) | (simp; omega) | omega) _ | refine Below.setCell ?_ (by first | (simp; done) | (simp; omega) | omega) _))
  have z10 : W10.heap.size = w9.heap.size + 1 := by rw [← hW10]; simp
  have rP_10 := (row_below b10 (by omega)).trans rP_9
  have rA_10 := (row_below b10 (by omega)).trans rA_9
  have rB_10 := (row_below b10 (by omega)).trans rB_9
  have rC_10 := (row_below b10 (by omega)).trans rC_9
  have rD_10 := (row_below b10 (by omega)).trans rD_9
  have rS_10 := (row_below b10 (by omega)).trans rS_9
  have rS2_10 := (row_below b10 (by omega)).trans rS2_9
  have rK_10 := (row_below b10 (by omega)).trans rK_9
  have rL_10 := (row_below b10 (by omega)).trans rL_9
  have bb10 := bb9.trans (b10.mono (by omega))
  go_wp2_with fail
  clear hW10 b10 rP_9 rA_9 rB_9 rC_9 rD_9 rS_9 rS2_9 rK_9 rL_9 bb9
  refine (K3.out _ _ rS2_10).mono ?_
  rintro e w11 ⟨rfl, b11⟩
  have z11 := b11.size
  have rP_11 := (row_below b11 (by omega)).trans rP_10
  have rA_11 := (row_below b11 (by omega)).trans rA_10
  have rB_11 := (row_below b11 (by omega)).trans rB_10
  have rC_11 := (row_below b11 (by omega)).trans rC_10
  have rD_11 := (row_below b11 (by omega)).trans rD_10
  have rS_11 := (row_below b11 (by omega)).trans rS_10
  have rS2_11 := (row_below b11 (by omega)).trans rS2_10
  have rK_11 := (row_below b11 (by omega)).trans rK_10
  have rL_11 := (row_below b11 (by omega)).trans rL_10
  have rM_11 := (row_below b11 (by omega)).trans rM_10
  have bb11 := bb10.trans (b11.mono (by omega))
  clear b11 rP_10 rA_10 rB_10 rC_10 rD_10 rS_10 rS2_10 rK_10 rL_10 rM_10 bb10
  obtain ⟨W12, hW12⟩ : ∃ v, w11.alloc (.cells (u8s x ++ u8s y).toArray 29) = v := ⟨_, rfl⟩
  have rO_12 : row W12 w11.heap.size = (u8s x ++ u8s y).toArray := by rw [← hW12]; simp [go_sem]
  have b12 : Below w11.heap.size w11 W12 := by
    rw [← hW12]
    (repeat (first | exact Below.refl _ _ | refine Below.alloc ?_ (by first | (simp; done) | (simp; omega) | omega) _ | refine Below.drew ?_ | refine Below.setRow ?_ (by first | (simp; done) | (simp; omega) | omega) _ | refine Below.setCell ?_ (by first | (simp; done) | (simp; omega) | omega) _))
  have z12 : W12.heap.size = w11.heap.size + 1 := by rw [← hW12]; simp
  have rP_12 := (row_below b12 (by omega)).trans rP_11
  have rA_12 := (row_below b12 (by omega)).trans rA_11
  have rB_12 := (row_below b12 (by omega)).trans rB_11
  have rC_12 := (row_below b12 (by omega)).trans rC_11
  have rD_12 := (row_below b12 (by omega)).trans rD_11
  have rS_12 := (row_below b12 (by omega)).trans rS_11
  have rS2_12 := (row_below b12 (by omega)).trans rS2_11
  have rK_12 := (row_below b12 (by omega)).trans rK_11
  have rL_12 := (row_below b12 (by omega)).trans rL_11
  have rM_12 := (row_below b12 (by omega)).trans rM_11
  have bb12 := bb11.trans (b12.mono (by omega))
  go_wp2_with fail
  clear hW12 b12 rP_11 rA_11 rB_11 rC_11 rD_11 rS_11 rS2_11 rK_11 rL_11 rM_11 bb11
  go_ret
  exact ⟨by simp, bb12⟩
theorem noiseClamps_walk (W : World) (base : Nat) (args : Array Value) (hlen : args.size = Try.f6.params.size) (hval : ∀ (j : Nat) t v, Try.f6.params[j]? = some t → args[j]? = some v → Value.okWide Try.prog W .any base t v) :
    Calls Try.prog 6 args W fun e W' => e = .returned (.bool true) ∧ Below W.heap.size W W' := by
  obtain ⟨l⟩ := args
  match l, hlen with
  | [v0, v1, v2], _ =>
  obtain ⟨p, rfl, hp⟩ := open_key (hval 0 23 v0 rfl rfl)
  obtain ⟨a, rfl, ha⟩ := open_key (hval 1 23 v1 rfl rfl)
  obtain ⟨b, rfl, hb⟩ := open_key (hval 2 23 v2 rfl rfl)
  exact noiseClamps_any p a b W hp ha hb
end Go.Proofs.Ytakkicppgkmokaa
