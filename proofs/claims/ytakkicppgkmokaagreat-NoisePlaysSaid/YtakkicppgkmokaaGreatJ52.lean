/- Texts of this proof, merged: SnG, SnA, NoiWP. -/
import Derived.Test.YtakkicppgkmokaaGreatSnPJ
import Derived.Test.YtakkicppgkmokaaGreatNoiVJ
import Derived.Test.YtakkicppgkmokaaGreatRfGJ
import Derived.Test.YtakkicppgkmokaaGreatJ1
import Derived.Test.YtakkicppgkmokaaGreatJ23
set_option linter.unusedSimpArgs false
set_option linter.unusedVariables false
set_option maxRecDepth 4000
namespace Go.Proofs.YtakkicppgkmokaaGreat
section
open Go.RowKit
def T3 (t : TalkT) : List Value := u8s t.h ++ (u8s t.c ++ u8s t.k)
theorem TalkT.ok.T3_length {t : TalkT} (h : t.ok) : (T3 t).length = 96 := by simp [T3, h.h, h.c, h.k]
theorem T3_ones (t : TalkT) : ones (T3 t) = true := by simp [T3]
theorem begin_T3 (psk a : List UInt8) : T3 (beginT psk a) = T3 (beginT psk []) := by unfold T3 beginT firstT0 bothT; rfl
attribute [local irreducible] shaK macL keysF keyN sealL nonceL tagL maskL sharedK beginT pubL
theorem in13_T3 (t : TalkT) (s : List UInt8) (w : World) (ht : t.ok) (hs : s.length ≤ 1000) :
  Calls Tryz.prog 36 #[.agg (T3 t).toArray, .string ⟨s.toArray⟩] w fun e w' => e = .returned (.agg (T3 (tookT t s)).toArray) ∧ Below w.heap.size w w' :=
 in13_any t.h t.c t.k s w ht.h ht.c ht.k (by omega)
theorem chain13_T3 (t : TalkT) (s : List UInt8) (w : World) (ht : t.ok) (hs : s.length ≤ 1000) :
  Calls Tryz.prog 35 #[.agg (T3 t).toArray, .string ⟨s.toArray⟩] w fun e w' => e = .returned (.agg (T3 (chainT t s)).toArray) ∧ Below w.heap.size w w' :=
 chain13_any t.h t.c t.k s w ht.h ht.c ht.k (by omega)
theorem num8_0 : 0 :: 0 :: 0 :: 0 :: num8 0 = nonceL 0 := by unfold nonceL; rfl
theorem chain_took (t : TalkT) (s : List UInt8) : chainT (tookT t s) s = metT t s := by unfold chainT tookT metT; rfl
theorem begin_n (psk a : List UInt8) : (beginT psk a).n = 0 := by unfold beginT; rfl
theorem seal_tag0 (t : TalkT) (h : t.n = 0) : sealL t.k (nonceL 0) t.h [] = tagT t := by rw [← h]; exact sealT_tagT t
attribute [local irreducible] greetT tagT hailT greetL
set_option maxRecDepth 20000 in
set_option maxHeartbeats 2000000 in
theorem greet13_any (psk a : List UInt8) (w : World) (hp : psk.length = 32) (ha : a.length = 32) :
  Calls Tryz.prog 9 #[.agg (u8s psk).toArray, .agg (u8s a).toArray] w fun e w' => e = .returned (.tuple #[.agg (T3 (hailT psk a)).toArray, .string ⟨(greetL psk a).toArray⟩]) ∧ Below w.heap.size w w' := by
 have HB := Lib.hid (fun w => begin13_any psk w hp)
 rw [show (u8s (beginT psk []).h ++ (u8s (beginT psk []).c ++ u8s (beginT psk []).k)) = T3 (beginT psk a) from (begin_T3 psk a).symm] at HB
 have HP := Lib.hid (fun w => public13_any a w ha)
 have bok := beginT_ok psk a ha
 have hpl : (pubL a).length = 32 := pubL_length a
 have HI := Lib.hid (fun w => in13_T3 (beginT psk a) (pubL a) w bok (by omega))
 have tok := tookT_ok bok (by rw [begin_n]; omega) (pubL a)
 have HC := Lib.hid (fun w => chain13_T3 (tookT (beginT psk a) (pubL a)) (pubL a) w tok (by omega))
 rw [chain_took, show metT (beginT psk a) (pubL a) = greetT psk a from by unfold greetT; rfl] at HC
 have gok := greetT_ok psk a ha
 have htl : (tagT (greetT psk a)).length = 16 := tagT_length _
 have HE := Lib.hid (fun w => eight_any 0 w (by omega))
 have HT := Lib.hid (fun w => text13_any (greetT psk a).h w gok.h)
 have HS := Lib.hid (fun w => sealR_any (greetT psk a).k (nonceL 0) (greetT psk a).h [] w gok.k (nonceL_length _) (by have := gok.h; omega) (by simp))
 rw [seal_tag0 _ (by unfold greetT; exact metT_n _ _)] at HS
 have HH := Lib.hid (fun w => in13_T3 (greetT psk a) (tagT (greetT psk a)) w gok (by omega))
 rw [show tookT (greetT psk a) (tagT (greetT psk a)) = hailT psk a from by unfold hailT; rfl] at HH
 rw [show greetL psk a = pubL a ++ tagT (greetT psk a) from by unfold greetL; rfl]
 have lB := bok.T3_length
 have lG := gok.T3_length
 have lH := (hailT_ok psk a ha).T3_length
 have oB := T3_ones (beginT psk a)
 have oH := T3_ones (hailT psk a)
 have gh := gok.h
 have gc := gok.c
 have gk := gok.k
 have hG3 : T3 (greetT psk a) = u8s (greetT psk a).h ++ (u8s (greetT psk a).c ++ u8s (greetT psk a).k) := rfl
 obtain ⟨B, hB⟩ : ∃ v, T3 (beginT psk a) = v := ⟨_, rfl⟩
 obtain ⟨K, hK⟩ : ∃ v, T3 (tookT (beginT psk a) (pubL a)) = v := ⟨_, rfl⟩
 obtain ⟨H, hH⟩ : ∃ v, T3 (hailT psk a) = v := ⟨_, rfl⟩
 rw [hB] at HB HI lB oB
 rw [hK] at HI HC
 rw [hH] at HH lH oH ⊢
 rw [hG3] at HC HH
 obtain ⟨x, hx⟩ : ∃ v, tagT (greetT psk a) = v := ⟨_, rfl⟩
 rw [hx] at HS HH htl ⊢
 obtain ⟨gH, hgH⟩ : ∃ v, (greetT psk a).h = v := ⟨_, rfl⟩
 obtain ⟨gC, hgC⟩ : ∃ v, (greetT psk a).c = v := ⟨_, rfl⟩
 obtain ⟨gK, hgK⟩ : ∃ v, (greetT psk a).k = v := ⟨_, rfl⟩
 rw [hgH] at HT HS HC HH gh
 rw [hgC] at HC HH gc
 rw [hgK] at HS HC HH gk
 obtain ⟨p, hpu⟩ : ∃ v, pubL a = v := ⟨_, rfl⟩
 rw [hpu] at HP HI HC hpl ⊢
 have hE8 := num8_length 0
 have hnl := num8_0
 obtain ⟨n0, hn0⟩ : ∃ v, num8 0 = v := ⟨_, rfl⟩
 rw [hn0] at HE hnl hE8
 rw [← hnl] at HS
 rw [show (([] : List UInt8).toArray) = #[] from rfl] at HS
 rw [show ((0 : Nat) : Int) = 0 from rfl] at HE
 clear hB hK hH hx hgH hgC hgK hpu hG3 bok tok gok hnl hn0 lG
 go_enter Tryz.func9, Tryz.ntmps9
 obtain ⟨W, hW⟩ : ∃ v, ((w.alloc (.cells (u8s psk).toArray 22)).alloc (.cells (u8s a).toArray 22)).alloc (.cells (zeros 96 (.int .u8 0)).toArray 34) = v := ⟨_, rfl⟩
 have rP : row W w.heap.size = (u8s psk).toArray := by rw [← hW]; simp [go_sem]
 have rA : row W (w.heap.size + 1) = (u8s a).toArray := by rw [← hW]; simp [go_sem]
 have rR : row W (w.heap.size + 2) = (zeros 96 (.int .u8 0)).toArray := by rw [← hW]; simp [go_sem]
 have zW : W.heap.size = w.heap.size + 3 := by rw [← hW]; simp
 have bW : Below w.heap.size w W := by
  rw [← hW]
  (repeat (first | exact Below.refl _ _ | refine Below.al ?_ _ | refine Below.drew ?_ | refine Below.sr ?_ _ | refine Below.sc ?_ _))
 go_wp2_with fail
 clear hW
 refine (HB.out _).mono ?_
 rintro e w1 ⟨rfl, b1⟩
 have z1 := b1.size
 have rA1 := (row_below b1 (by omega)).trans rA
 have rR1 := (row_below b1 (by omega)).trans rR
 have bb1 := bW.trans (b1.mono (by omega))
 clear b1
 obtain ⟨W2, hW2⟩ : ∃ v, w1.alloc (.cells B.toArray 34) = v := ⟨_, rfl⟩
 have rT2 : row W2 w1.heap.size = B.toArray := by rw [← hW2]; simp [go_sem]
 have rA2 : row W2 (w.heap.size + 1) = (u8s a).toArray := by rw [← hW2, row_alloc_past _ _ (by omega)]; exact rA1
 have rR2 : row W2 (w.heap.size + 2) = (zeros 96 (.int .u8 0)).toArray := by rw [← hW2, row_alloc_past _ _ (by omega)]; exact rR1
 have z2 : W2.heap.size = w1.heap.size + 1 := by rw [← hW2]; simp
 have bb2 : Below w.heap.size w W2 := by rw [← hW2]; exact Below.alloc bb1 (by omega) _
 go_wp2_with fail
 clear hW2 bb1 rA1 rR1 rP rA rR bW
 refine (HP.out _).mono ?_
 rintro e w3 ⟨rfl, b3⟩
 have z3 := b3.size
 have rT3 := (row_below b3 (by omega)).trans rT2
 have rR3 := (row_below b3 (by omega)).trans rR2
 have bb3 := bb2.trans (b3.mono (by omega))
 clear b3 rT2 rA2 rR2 bb2
 go_wp2_with fail
 refine (HI.out _).mono ?_
 rintro e w4 ⟨rfl, b4⟩
 have z4 := b4.size
 have rT4 := (row_below b4 (by omega)).trans rT3
 have rR4 := (row_below b4 (by omega)).trans rR3
 have bb4 := bb3.trans (b4.mono (by omega))
 clear b4 rT3 rR3 bb3
 go_wp2_with fail
 refine (HC.out _).mono ?_
 rintro e w5 ⟨rfl, b5⟩
 have z5 := b5.size
 have rT5 := (row_below b5 (by omega)).trans rT4
 have rR5 := (row_below b5 (by omega)).trans rR4
 have bb5 := bb4.trans (b5.mono (by omega))
 clear b5 rT4 rR4 bb4
 obtain ⟨W6, hW6⟩ : ∃ v, w5.setRow w1.heap.size (u8s gH ++ (u8s gC ++ u8s gK)).toArray = v := ⟨_, rfl⟩
 have rT6 : row W6 w1.heap.size = (u8s gH ++ (u8s gC ++ u8s gK)).toArray := by rw [← hW6]; exact row_setRow_same (by rw [rT5]; simp; omega) (by rw [rT5]; simp [lB, gh, gc, gk])
 have rR6 : row W6 (w.heap.size + 2) = (zeros 96 (.int .u8 0)).toArray := by rw [← hW6, row_setRow_other _ _ _ (by omega)]; exact rR5
 have z6 : W6.heap.size = w5.heap.size := by rw [← hW6]; exact setRow_size _ _ _
 have bb6 : Below w.heap.size w W6 := by rw [← hW6]; exact Below.setRow bb5 (by omega) _
 go_wp2_with fail
 clear hW6 rT5 rR5 bb5
 refine wp_region_beginR [(w1.heap.size, (u8s gH ++ (u8s gC ++ u8s gK)).toArray)] rfl (by simp only [Rws]; (repeat (first | exact trivial | refine ⟨(by first | assumption | (simp [go_sem, *]; done)), (by first | omega | (simp; done) | (simp; omega)), ?_⟩))) (fun hS => ?_)
 refine qp 0 hS ?_
 refine qp 1 hS ?_
 refine qc 2 (v := ?_) hS ?_ ?_
 rotate_left
 ·
  intro w' hS'
  simp only [Rws] at hS'
  go_simp
  with_reducible refine (HE.out _).mono ?_
  rintro e w'' ⟨rfl, hb⟩
  exact ⟨_, rfl, by rfl, hb⟩
 refine qp 3 hS ?_
 refine qp 4 hS ?_
 refine qp 5 hS ?_
 refine qc 6 (v := ?_) hS ?_ ?_
 rotate_left
 ·
  intro w' hS'
  simp only [Rws] at hS'
  go_simp
  with_reducible refine (HT.out _).mono ?_
  rintro e w'' ⟨rfl, hb⟩
  exact ⟨_, rfl, by rfl, hb⟩
 refine qc 7 (v := ?_) hS ?_ ?_
 rotate_left
 ·
  intro w' hS'
  simp only [Rws] at hS'
  go_simp
  with_reducible refine (HS.out _).mono ?_
  rintro e w'' ⟨rfl, hb⟩
  exact ⟨_, rfl, by rfl, hb⟩
 refine qp 8 hS ?_
 refine wpAnyR_done (by kernel_rfl) (fun w7 h7 => ?_) _
 have z7 := h7.size
 replace z7 : W6.heap.size ≤ w7.heap.size := z7
 have b7 : Below W6.heap.size W6 w7 := Below.trans (Below.drew (Below.refl _ _)) h7
 have rT7 := (row_below b7 (by omega)).trans rT6
 have rR7 := (row_below b7 (by omega)).trans rR6
 have bb7 := bb6.trans (b7.mono (by omega))
 clear hS h7 b7 rT6 rR6 bb6
 go_wp2_with fail
 refine (HH.out _).mono ?_
 rintro e w8 ⟨rfl, b8⟩
 have z8 := b8.size
 have rR8 := (row_below b8 (by omega)).trans rR7
 have bb8 := bb7.trans (b8.mono (by omega))
 clear b8 rT7 rR7 bb7
 go_wp2_with fail
 have hfin := row_setRow_same (w := w8) (g := w.heap.size + 2) (c := H.toArray) (by rw [rR8]; simp) (by rw [rR8]; simp [lH])
 (try simp only [Exit.inBlock, Exit.then])
 refine bodyPost_ret (results_2 rfl (resOk_row rfl ?_) resOk_tmp) rfl ?_
 ·
  rw [hfin]
  simp [lH]
 exact ⟨by rw [hfin]; rfl, Below.setRow bb8 (by omega) _⟩
end
section
open Go.RowKit
def refT (U : TalkT) (b p : List UInt8) : TalkT := chainT (metT U (pubL b)) (sharedK b p)
attribute [local irreducible] shaK macL keysF keyN sealL nonceL tagL maskL sharedK beginT pubL greetT tagT hailT greetL
theorem refT_eq (U : TalkT) (b p : List UInt8) : chainT (metT U (pubL b)) (sharedK b p) = refT U b p := rfl
theorem refT_ok {U : TalkT} (h : U.ok) (b p : List UInt8) : (refT U b p).ok := chainT_ok (metT_ok h _) _
theorem refT_n (U : TalkT) (b p : List UInt8) : (refT U b p).n = 0 := chainT_n _ _
attribute [local irreducible] refT metT chainT tookT
set_option maxRecDepth 20000 in
set_option maxHeartbeats 4000000 in
theorem answer13_any (U : TalkT) (b p x : List UInt8) (w : World) (hU : U.ok) (hUn : U.n ≤ 50) (hb : b.length = 32) (hp : p.length = 32) (hx : x.length = 16) :
  Calls Tryz.prog 10 #[.agg (T3 U).toArray, .agg (u8s b).toArray, .string ⟨(p ++ x).toArray⟩] w fun e w' => e = .returned (.tuple #[.string ⟨(pubL b ++ tagT (refT U b p)).toArray⟩, .agg (u8s (keyA (refT U b p))).toArray, .agg (u8s (keyB (refT U b p))).toArray]) ∧ Below w.heap.size w w' := by
 have HP := Lib.hid (fun w => public13_any b w hb)
 have hpl : (pubL b).length = 32 := pubL_length b
 have HI := Lib.hid (fun w => in13_T3 U (pubL b) w hU (by omega))
 have tok := tookT_ok hU hUn (pubL b)
 have HC := Lib.hid (fun w => chain13_T3 (tookT U (pubL b)) (pubL b) w tok (by omega))
 rw [chain_took] at HC
 have mok := metT_ok hU (pubL b)
 have HSh := Lib.hid (fun w => sharedG_any b p w hb hp)
 have hsl := sharedK_length b p
 have HTs := Lib.hid (fun w => text13_any (sharedK b p) w hsl)
 have HC2 := Lib.hid (fun w => chain13_T3 (metT U (pubL b)) (sharedK b p) w mok (by omega))
 rw [refT_eq] at HC2
 have rok := refT_ok hU b p
 have htl : (tagT (refT U b p)).length = 16 := tagT_length _
 have HE := Lib.hid (fun w => eight_any 0 w (by omega))
 have HT := Lib.hid (fun w => text13_any (refT U b p).h w rok.h)
 have HTc := Lib.hid (fun w => text13_any (refT U b p).c w rok.c)
 have HS := Lib.hid (fun w => sealR_any (refT U b p).k (nonceL 0) (refT U b p).h [] w rok.k (nonceL_length _) (by have := rok.h; omega) (by simp))
 rw [seal_tag0 _ (refT_n U b p)] at HS
 have HM := Lib.hid (fun w => sum02_any (refT U b p).c [] w (by have := rok.c; omega) (by simp))
 have hml := macL_length (refT U b p).c []
 have HK := Lib.hid (fun w => keys02_any (macL (refT U b p).c []) [] 2 w hml (by simp) (by omega))
 rw [keysF_two] at HK
 rw [show keyA (refT U b p) = keyN (macL (refT U b p).c []) [] 1 by unfold keyA; rfl, show keyB (refT U b p) = keyN (macL (refT U b p).c []) [] 2 by unfold keyB; rfl]
 have la := keyN_length (macL (refT U b p).c []) [] 0
 have lb := keyN_length (macL (refT U b p).c []) [] 1
 simp only [Nat.zero_add, Nat.reduceAdd] at la lb
 have lU := hU.T3_length
 have lM := mok.T3_length
 have oX := T3_ones U
 have oZ := T3_ones (metT U (pubL b))
 have gh := rok.h
 have gc := rok.c
 have gk := rok.k
 have hR3 : T3 (refT U b p) = u8s (refT U b p).h ++ (u8s (refT U b p).c ++ u8s (refT U b p).k) := rfl
 rw [hR3] at HC2
 obtain ⟨y, hy⟩ : ∃ v, macL (refT U b p).c [] = v := ⟨_, rfl⟩
 rw [hy] at HM hml HK la lb ⊢
 obtain ⟨ka, hka⟩ : ∃ v, keyN y [] 1 = v := ⟨_, rfl⟩
 obtain ⟨kb, hkb⟩ : ∃ v, keyN y [] 2 = v := ⟨_, rfl⟩
 rw [hka] at HK la ⊢
 rw [hkb] at HK lb ⊢
 obtain ⟨t, ht⟩ : ∃ v, tagT (refT U b p) = v := ⟨_, rfl⟩
 rw [ht] at HS htl ⊢
 obtain ⟨gH, hgH⟩ : ∃ v, (refT U b p).h = v := ⟨_, rfl⟩
 obtain ⟨gC, hgC⟩ : ∃ v, (refT U b p).c = v := ⟨_, rfl⟩
 obtain ⟨gK, hgK⟩ : ∃ v, (refT U b p).k = v := ⟨_, rfl⟩
 rw [hgH] at HT HS HC2 gh
 rw [hgC] at HTc HM HC2 gc
 rw [hgK] at HS HC2 gk
 obtain ⟨X, hX⟩ : ∃ v, T3 U = v := ⟨_, rfl⟩
 obtain ⟨Y, hY⟩ : ∃ v, T3 (tookT U (pubL b)) = v := ⟨_, rfl⟩
 obtain ⟨Z, hZ⟩ : ∃ v, T3 (metT U (pubL b)) = v := ⟨_, rfl⟩
 rw [hX] at HI lU oX ⊢
 rw [hY] at HI HC
 rw [hZ] at HC HC2 lM oZ
 obtain ⟨q, hq⟩ : ∃ v, pubL b = v := ⟨_, rfl⟩
 rw [hq] at HP HI HC hpl ⊢
 obtain ⟨sh, hsh⟩ : ∃ v, sharedK b p = v := ⟨_, rfl⟩
 rw [hsh] at HSh hsl HTs HC2
 have hE8 := num8_length 0
 have hnl := num8_0
 obtain ⟨n0, hn0⟩ : ∃ v, num8 0 = v := ⟨_, rfl⟩
 rw [hn0] at HE hnl hE8
 rw [← hnl] at HS
 rw [show (([] : List UInt8).toArray) = #[] from rfl] at HS HM HK
 rw [show ((0 : Nat) : Int) = 0 from rfl] at HE
 rw [show ((2 : Nat) : Int) = 2 from rfl] at HK
 obtain ⟨s, hs⟩ : ∃ v, p ++ x = v := ⟨_, rfl⟩
 have hsl48 : s.length = 48 := by rw [← hs, List.length_append, hp, hx]
 have hst : s.take 32 = p := by rw [← hs, ← hp]; simp
 have HST := Lib.hid hst
 rw [hs]
 clear hy hka hkb ht hgH hgC hgK hX hY hZ hq hsh hnl hn0 hR3 hs hst rok mok tok hU hUn
 go_enter Tryz.func10, Tryz.ntmps10
 obtain ⟨W, hW⟩ : ∃ v, (((w.alloc (.cells X.toArray 34)).alloc (.cells (u8s b).toArray 22)).alloc (.cells (zeros 32 (.int .u8 0)).toArray 22)).alloc (.cells (zeros 32 (.int .u8 0)).toArray 22) = v := ⟨_, rfl⟩
 have rX : row W w.heap.size = X.toArray := by rw [← hW]; simp [go_sem]
 have rB : row W (w.heap.size + 1) = (u8s b).toArray := by rw [← hW]; simp [go_sem]
 have rR1 : row W (w.heap.size + 2) = (zeros 32 (.int .u8 0)).toArray := by rw [← hW]; simp [go_sem]
 have rR2 : row W (w.heap.size + 3) = (zeros 32 (.int .u8 0)).toArray := by rw [← hW]; simp [go_sem]
 have zW : W.heap.size = w.heap.size + 4 := by rw [← hW]; simp
 have bW : Below w.heap.size w W := by
  rw [← hW]
  (repeat (first | exact Below.refl _ _ | refine Below.al ?_ _ | refine Below.drew ?_ | refine Below.sr ?_ _ | refine Below.sc ?_ _))
 go_wp2_with fail
 clear hW
 refine (HP.out _).mono ?_
 rintro e w1 ⟨rfl, b1⟩
 have z1 := b1.size
 have rX1 := (row_below b1 (by omega)).trans rX
 have rB1 := (row_below b1 (by omega)).trans rB
 have rR11 := (row_below b1 (by omega)).trans rR1
 have rR21 := (row_below b1 (by omega)).trans rR2
 have bb1 := bW.trans (b1.mono (by omega))
 clear b1 rX rB rR1 rR2 bW
 go_wp2_with fail
 refine (HI.out _).mono ?_
 rintro e w2 ⟨rfl, b2⟩
 have z2 := b2.size
 have rX2 := (row_below b2 (by omega)).trans rX1
 have rB2 := (row_below b2 (by omega)).trans rB1
 have rR12 := (row_below b2 (by omega)).trans rR11
 have rR22 := (row_below b2 (by omega)).trans rR21
 have bb2 := bb1.trans (b2.mono (by omega))
 clear b2 rX1 rB1 rR11 rR21 bb1
 go_wp2_with fail
 refine (HC.out _).mono ?_
 rintro e w3 ⟨rfl, b3⟩
 have z3 := b3.size
 have rX3 := (row_below b3 (by omega)).trans rX2
 have rB3 := (row_below b3 (by omega)).trans rB2
 have rR13 := (row_below b3 (by omega)).trans rR12
 have rR23 := (row_below b3 (by omega)).trans rR22
 have bb3 := bb2.trans (b3.mono (by omega))
 clear b3 rX2 rB2 rR12 rR22 bb2
 obtain ⟨W4, hW4⟩ : ∃ v, (w3.setRow w.heap.size Z.toArray).alloc (.cells (zeros 32 (Value.int .u8 0)).toArray 22) = v := ⟨_, rfl⟩
 have rZ4 : row W4 w.heap.size = Z.toArray := by
  rw [← hW4, row_alloc_past _ _ (by simp; omega)]
  exact row_setRow_same (by rw [rX3]; simp [lU]) (by rw [rX3]; simp [lU, lM])
 have rB4 : row W4 (w.heap.size + 1) = (u8s b).toArray := by rw [← hW4, row_alloc_past _ _ (by simp; omega), row_setRow_other _ _ _ (by omega)]; exact rB3
 have rR14 : row W4 (w.heap.size + 2) = (zeros 32 (.int .u8 0)).toArray := by rw [← hW4, row_alloc_past _ _ (by simp; omega), row_setRow_other _ _ _ (by omega)]; exact rR13
 have rR24 : row W4 (w.heap.size + 3) = (zeros 32 (.int .u8 0)).toArray := by rw [← hW4, row_alloc_past _ _ (by simp; omega), row_setRow_other _ _ _ (by omega)]; exact rR23
 have rD4 : row W4 w3.heap.size = (u8s (List.replicate 32 0)).toArray := by rw [← hW4, row_alloc_at _ _ _ (by simp)]; rfl
 have z4 : W4.heap.size = w3.heap.size + 1 := by rw [← hW4]; simp
 have bb4 : Below w.heap.size w W4 := by rw [← hW4]; exact Below.alloc (Below.setRow bb3 (by omega) _) (by simp; omega) _
 go_wp2_with fail
 obtain ⟨D, hD⟩ : ∃ D, w3.heap.size = D := ⟨_, rfl⟩
 try rw [hW4]
 rw [hD] at rD4 z4 z3 ⊢
 clear hW4 rX3 rB3 rR13 rR23 bb3 hD
 go_loopw [11] (fun i wq => ∃ n : Nat, n ≤ 32 ∧ i = .int .i64 n ∧ row wq D = (u8s (upTo (cpF s) n (List.replicate 32 0))).toArray ∧ D < wq.heap.size ∧ Below w.heap.size w wq ∧ row wq w.heap.size = Z.toArray ∧ row wq (w.heap.size + 1) = (u8s b).toArray ∧ row wq (w.heap.size + 2) = (zeros 32 (.int .u8 0)).toArray ∧ row wq (w.heap.size + 3) = (zeros 32 (.int .u8 0)).toArray) (fun i _ => 32 - (intOf i).toNat)
 case atStart => exact ⟨0, by omega, rfl, by rw [upTo]; exact rD4, by omega, bb4, rZ4, rB4, rR14, rR24⟩
 case round =>
  clear rD4 bb4 rZ4 rB4 rR14 rR24
  obtain ⟨n, hn, rfl, rD, zDD, hbel, rZ, rB, rR1, rR2⟩ := hrel
  have hsz := hbel.size
  obtain ⟨L, hL⟩ : ∃ L, upTo (cpF s) n (List.replicate 32 0) = L := ⟨_, rfl⟩
  have hLl : L.length = 32 := by rw [← hL, upTo_len8 (cpF_length _)]; simp
  rw [hL] at rD
  have HL := Lib.hid hL
  clear hL
  by_cases hlt : n < 32
  ·
   have c1 : (n : Int) < 32 := by omega
   have c2 : (n : Int) < 48 := by omega
   have c3 : n < s.length := by omega
   have c4 : n < L.length := by omega
   obtain ⟨y', hy'⟩ : ∃ y, s[n] = y := ⟨_, rfl⟩
   have hse : upTo (cpF s) (n + 1) (List.replicate 32 0) = L.set n y' := by rw [upTo, HL.out, cpF, getD_elem _ _ _ c3, hy']
   have HSE := Lib.hid hse
   have hset := u8s_setB L n y'
   have hr7 := row_setRow_same (w := wr) (g := D) (c := (u8s (L.set n y')).toArray) (by rw [rD]; simp; omega) (by rw [rD]; simp)
   have b7 : Below w.heap.size w (wr.setRow D (u8s (L.set n y')).toArray) := Below.setRow hbel (by omega) _
   have hL0 : 0 < L.length := by omega
   have o1 : row (wr.setRow D (u8s (L.set n y')).toArray) w.heap.size = Z.toArray := by rw [row_setRow_other _ _ _ (by omega)]; exact rZ
   have o2 : row (wr.setRow D (u8s (L.set n y')).toArray) (w.heap.size + 1) = (u8s b).toArray := by rw [row_setRow_other _ _ _ (by omega)]; exact rB
   have o3 : row (wr.setRow D (u8s (L.set n y')).toArray) (w.heap.size + 2) = (zeros 32 (.int .u8 0)).toArray := by rw [row_setRow_other _ _ _ (by omega)]; exact rR1
   have o4 : row (wr.setRow D (u8s (L.set n y')).toArray) (w.heap.size + 3) = (zeros 32 (.int .u8 0)).toArray := by rw [row_setRow_other _ _ _ (by omega)]; exact rR2
   have zD' : D < (wr.setRow D (u8s (L.set n y')).toArray).heap.size := by rw [setRow_size]; exact zDD
   clear hse
   go_wp2_with fail
   go_roundw
   case rel => exact ⟨n + 1, by omega, rfl, by rw [HSE.out]; exact hr7, zD', b7, o1, o2, o3, o4⟩
   case measure => simp [intOf]; omega
  ·
   obtain rfl : n = 32 := by omega
   rw [show ((32 : Nat) : Int) = 32 from rfl]
   have hLt : L = p := by
    rw [← HL.out, cpF_take _ _ _ (by simp) (by omega), HST.out]
    simp
   rw [hLt] at rD
   clear hLt hLl HL
   go_wp2_with fail
   refine wp_region_beginK 6 [(w.heap.size, Z.toArray), (w.heap.size + 1, (u8s b).toArray), (D, (u8s p).toArray)] [] rfl (by simp only [Rws]; (repeat (first | exact trivial | refine ⟨(by first | assumption | (simp [go_sem, *]; done)), (by first | omega | (simp; done) | (simp; omega)), ?_⟩))) (fun hS => ?_)
   refine kp 0 hS ?_
   refine kp 1 hS ?_
   refine kp 2 hS ?_
   refine wpAnyK_take (i := 3) (v := ?_) (by simp only [List.getElem?_toArray, List.getElem?_cons_succ, List.getElem?_cons_zero]; rfl) (by kernel_rfl) (by kernel_rfl) (by kernel_rfl) (by kernel_rfl) (by first | exact fun _ _ _ h => h | exact fun _ _ _ h => by cases h.1) (Rws.grow _) (Or.inl ⟨by rfl, ?_⟩) hS ?_
   rotate_left
   ·
    intro w' hS'
    simp only [Rws] at hS'
    go_simp
    with_reducible refine (HSh.out _).mono ?_
    rintro e w'' ⟨rfl, hb⟩
    refine ⟨_, rfl, ?_, hb⟩
    rfl
   (try simp only [Act.put, List.setIfInBounds_toArray, List.set_cons_zero, List.set_cons_succ])
   refine wpAnyK_take (i := 4) (v := ?_) (by simp only [List.getElem?_toArray, List.getElem?_cons_succ, List.getElem?_cons_zero]; rfl) (by kernel_rfl) (by kernel_rfl) (by kernel_rfl) (by kernel_rfl) (by first | exact fun _ _ _ h => h | exact fun _ _ _ h => by cases h.1) (Rws.grow _) (Or.inl ⟨by rfl, ?_⟩) hS ?_
   rotate_left
   ·
    intro w' hS'
    simp only [Rws] at hS'
    go_simp
    with_reducible refine (HTs.out _).mono ?_
    rintro e w'' ⟨rfl, hb⟩
    refine ⟨_, rfl, ?_, hb⟩
    rfl
   (try simp only [Act.put, List.setIfInBounds_toArray, List.set_cons_zero, List.set_cons_succ])
   refine wpAnyK_take (i := 5) (v := ?_) (by simp only [List.getElem?_toArray, List.getElem?_cons_succ, List.getElem?_cons_zero]; rfl) (by kernel_rfl) (by kernel_rfl) (by kernel_rfl) (by kernel_rfl) (by first | exact fun _ _ _ h => h | exact fun _ _ _ h => by cases h.1) (Rws.grow _) (Or.inl ⟨by rfl, ?_⟩) hS ?_
   rotate_left
   ·
    intro w' hS'
    simp only [Rws] at hS'
    go_simp
    with_reducible refine (HC2.out _).mono ?_
    rintro e w'' ⟨rfl, hb⟩
    refine ⟨_, rfl, ?_, hb⟩
    rfl
   (try simp only [Act.put, List.setIfInBounds_toArray, List.set_cons_zero, List.set_cons_succ])
   refine wpAnyK_store (k := 6) (by simp only [List.getElem?_toArray, List.getElem?_cons_succ, List.getElem?_cons_zero]; rfl) rfl rfl (by kernel_rfl) (fun u1 hu1 => ?_)
   have zu1 := hu1.size
   replace zu1 : wr.heap.size ≤ u1.heap.size := zu1
   have bu : Below wr.heap.size wr u1 := Below.trans (Below.drew (Below.refl _ _)) hu1
   have rZu := (row_below bu (by omega)).trans rZ
   have rR1u := (row_below bu (by omega)).trans rR1
   have rR2u := (row_below bu (by omega)).trans rR2
   have bbu := hbel.trans (bu.mono (by omega))
   clear hS hu1 bu
   refine ⟨u1.setRow w.heap.size (u8s gH ++ (u8s gC ++ u8s gK)).toArray, by (go_simp; try rfl), trivial, fun hS => ?_⟩
   refine wpAnyR_done (by kernel_rfl) (fun w5 h5 => ?_) _
   have z5 := h5.size
   rw [setRow_size] at z5
   have rT5 : row w5 w.heap.size = (u8s gH ++ (u8s gC ++ u8s gK)).toArray := by
    rw [row_below h5 (by rw [setRow_size]; omega)]
    exact row_setRow_same (by rw [rZu]; simp [lM]) (by rw [rZu]; simp [lM, gh, gc, gk])
   have rR15 : row w5 (w.heap.size + 2) = (zeros 32 (.int .u8 0)).toArray := by rw [row_below h5 (by rw [setRow_size]; omega), row_setRow_other _ _ _ (by omega)]; exact rR1u
   have rR25 : row w5 (w.heap.size + 3) = (zeros 32 (.int .u8 0)).toArray := by rw [row_below h5 (by rw [setRow_size]; omega), row_setRow_other _ _ _ (by omega)]; exact rR2u
   have bb5 : Below w.heap.size w w5 := Below.trans (Below.setRow bbu (by omega) _) (h5.mono (by rw [setRow_size]; omega))
   clear hS h5 rZu rR1u rR2u bbu rZ rB rR1 rR2 rD hbel
   go_wp2_with fail
   refine wp_region_beginR [(w.heap.size, (u8s gH ++ (u8s gC ++ u8s gK)).toArray)] rfl (by simp only [Rws]; (repeat (first | exact trivial | refine ⟨(by first | assumption | (simp [go_sem, *]; done)), (by first | omega | (simp; done) | (simp; omega)), ?_⟩))) (fun hS => ?_)
   refine qp 0 hS ?_
   refine qp 1 hS ?_
   refine qc 2 (v := ?_) hS ?_ ?_
   rotate_left
   ·
    intro w' hS'
    simp only [Rws] at hS'
    go_simp
    with_reducible refine (HE.out _).mono ?_
    rintro e w'' ⟨rfl, hb⟩
    exact ⟨_, rfl, by rfl, hb⟩
   refine qp 3 hS ?_
   refine qp 4 hS ?_
   refine qp 5 hS ?_
   refine qc 6 (v := ?_) hS ?_ ?_
   rotate_left
   ·
    intro w' hS'
    simp only [Rws] at hS'
    go_simp
    with_reducible refine (HT.out _).mono ?_
    rintro e w'' ⟨rfl, hb⟩
    exact ⟨_, rfl, by rfl, hb⟩
   refine qc 7 (v := ?_) hS ?_ ?_
   rotate_left
   ·
    intro w' hS'
    simp only [Rws] at hS'
    go_simp
    with_reducible refine (HS.out _).mono ?_
    rintro e w'' ⟨rfl, hb⟩
    exact ⟨_, rfl, by rfl, hb⟩
   refine qp 8 hS ?_
   refine wpAnyR_done (by kernel_rfl) (fun w7 h7 => ?_) _
   have z7 := h7.size
   replace z7 : w5.heap.size ≤ w7.heap.size := z7
   have b7 : Below w5.heap.size w5 w7 := Below.trans (Below.drew (Below.refl _ _)) h7
   have rT7 := (row_below b7 (by omega)).trans rT5
   have rR17 := (row_below b7 (by omega)).trans rR15
   have rR27 := (row_below b7 (by omega)).trans rR25
   have bb7 := bb5.trans (b7.mono (by omega))
   clear hS h7 b7 rT5 rR15 rR25 bb5
   go_wp2_with fail
   refine (HTc.out _).mono ?_
   rintro e w8 ⟨rfl, b8⟩
   have z8 := b8.size
   have rR18 := (row_below b8 (by omega)).trans rR17
   have rR28 := (row_below b8 (by omega)).trans rR27
   have bb8 := bb7.trans (b8.mono (by omega))
   clear b8 rT7 rR17 rR27 bb7
   go_wp2_with fail
   refine (HM.out _).mono ?_
   rintro e w9 ⟨rfl, b9⟩
   have z9 := b9.size
   have rR19 := (row_below b9 (by omega)).trans rR18
   have rR29 := (row_below b9 (by omega)).trans rR28
   have bb9 := bb8.trans (b9.mono (by omega))
   clear b9 rR18 rR28 bb8
   go_wp2_with fail
   refine (HK.out _).mono ?_
   rintro e w10 ⟨v, rfl, own, b10⟩
   have z10 := b10.size
   have rR1X := (row_below b10 (by omega)).trans rR19
   have rR2X := (row_below b10 (by omega)).trans rR29
   have bbX := bb9.trans (b10.mono (by omega))
   obtain ⟨g, cp, sp, rfl, hg, zg, rg⟩ := own.form (by omega)
   rw [u8s_append, List.append_assoc] at rg
   clear b10 rR19 rR29 bb9 own
   have q1 : 64 ≤ 32 + (32 + sp.length) := by omega
   have q2 : 32 + 32 ≤ 32 + (32 + sp.length) := by omega
   have q3 : 64 ≤ ka.length + (kb.length + sp.length) := by omega
   have q4 : 32 + 32 ≤ ka.length + (kb.length + sp.length) := by omega
   have hgne : w.heap.size + 2 ≠ g := by omega
   have hgne2 : w.heap.size + 3 ≠ g := by omega
   go_wp2_with fail
   have rRd : row w10.drew (w.heap.size + 2) = (zeros 32 (.int .u8 0)).toArray := rR1X
   refine wp_region_beginR [(g, (u8s ka ++ (u8s kb ++ sp)).toArray)] rfl (by simp only [Rws]; (repeat (first | exact trivial | refine ⟨(by first | assumption | (simp [go_sem, *]; done)), (by first | omega | (simp; done) | (simp; omega)), ?_⟩))) (fun hS => ?_)
   refine qp 0 hS ?_
   refine qp 1 hS ?_
   refine qp 2 hS ?_
   refine qp 3 hS ?_
   refine qp 4 hS ?_
   refine qp 5 hS ?_
   refine qp 6 hS ?_
   refine qp 7 hS ?_
   refine qp 8 hS ?_
   refine qp 9 hS ?_
   refine wpAnyR_store (i := 10) (b := w.heap.size + 2) (c := (u8s ka).toArray) (by simp only [List.getElem?_toArray, List.getElem?_cons_succ, List.getElem?_cons_zero]; rfl) rfl rfl (by kernel_rfl) (by simp; (try omega)) hS (by rw [rRd]; simp; (try omega)) (fun w1 hr => by rw [rRd] at hr; go_simp; (try rfl)) (fun u1 hu1 ru1 hS => ?_)
   have zu1 := hu1.size
   replace zu1 : w10.heap.size ≤ u1.heap.size := zu1
   have bu1 : Below w10.heap.size w10 u1 := Below.trans (Below.drew (Below.refl _ _)) hu1
   have rRe : row (u1.setRow (w.heap.size + 2) (u8s ka).toArray) (w.heap.size + 3) = (zeros 32 (.int .u8 0)).toArray := by rw [row_setRow_other _ _ _ (by omega), row_below bu1 (by omega)]; exact rR2X
   have rRf : row (u1.setRow (w.heap.size + 2) (u8s ka).toArray) (w.heap.size + 2) = (u8s ka).toArray := row_setRow_same (by rw [ru1, rRd]; simp) (by rw [ru1, rRd]; simp [la])
   refine wpAnyR_store (i := 11) (b := w.heap.size + 3) (c := (u8s kb).toArray) (by simp only [List.getElem?_toArray, List.getElem?_cons_succ, List.getElem?_cons_zero]; rfl) rfl rfl (by kernel_rfl) (by simp; (try omega)) hS (by rw [rRe]; simp; (try omega)) (fun w1 hr => by rw [rRe] at hr; go_simp; (try rfl)) (fun u2 hu2 ru2 hS => ?_)
   refine wpAnyR_done (by kernel_rfl) (fun w11 h11 => ?_) _
   have zu2 := hu2.size
   rw [setRow_size] at zu2
   have rF2 : row w11 (w.heap.size + 3) = (u8s kb).toArray := by
    rw [row_below h11 (by rw [setRow_size]; omega)]
    exact row_setRow_same (by rw [ru2, rRe]; simp) (by rw [ru2, rRe]; simp [lb])
   have rF1 : row w11 (w.heap.size + 2) = (u8s ka).toArray := by
    rw [row_below h11 (by rw [setRow_size]; omega), row_setRow_other _ _ _ (by omega), row_below hu2 (by rw [setRow_size]; omega)]
    exact rRf
   have bF : Below w.heap.size w w11 := Below.trans (Below.setRow (Below.trans (Below.setRow (bbX.trans (bu1.mono (by omega))) (by omega) _) (hu2.mono (by rw [setRow_size]; omega))) (by omega) _) (h11.mono (by rw [setRow_size]; omega))
   clear hS h11 hu1 hu2 ru1 ru2 rRd rRe rRf bu1 bbX rg rR1X rR2X
   go_wp2_with fail
   (try simp only [Exit.inBlock, Exit.then])
   refine bodyPost_ret (results_3 rfl resOk_tmp (resOk_row rfl ?_) (resOk_row rfl ?_)) rfl ?_
   ·
    rw [rF1]
    simp [la]
   ·
    rw [rF2]
    simp [lb]
   exact ⟨by rw [rF1, rF2]; rfl, bF⟩
end
section
open Go.ChangeShapes Go.WideShapes Go.ChangeAt Go.RowKit
theorem like_ref (psk a b : List UInt8) : Like (ansT3 psk b (pubL a) (tagT (greetT psk a))) (refT (hailT psk a) b (pubL a)) := by
 unfold ansT3 ansT2 ansT1 refT
 have l := like_ans0 psk a b
 unfold hailT
 exact ((l.took _).met _).chain _
theorem reply_ref (psk a b : List UInt8) : replyL psk a b = pubL b ++ tagT (refT (hailT psk a) b (pubL a)) := by
 unfold replyL ansL
 rw [(like_ref psk a b).tag]
theorem keyA_took (t : TalkT) (s : List UInt8) : keyA (tookT t s) = keyA t := by unfold keyA tookT; rfl
theorem keyB_took (t : TalkT) (s : List UInt8) : keyB (tookT t s) = keyB t := by unfold keyB tookT; rfl
theorem oneK_ref (psk a b : List UInt8) : oneK psk a b = keyA (refT (hailT psk a) b (pubL a)) := by
 unfold oneK ansT4
 rw [keyA_took, (like_ref psk a b).keyA]
theorem twoK_ref (psk a b : List UInt8) : twoK psk a b = keyB (refT (hailT psk a) b (pubL a)) := by
 unfold twoK ansT4
 rw [keyB_took, (like_ref psk a b).keyB]
theorem hailT_n (psk a : List UInt8) : (hailT psk a).n ≤ 50 := by
 unfold hailT
 rw [tookT_n]
 unfold greetT
 rw [metT_n]
 omega
attribute [local irreducible] greetL hailT replyL oneK twoK refT
theorem again_any (psk a b : List UInt8) (w : World) (ha : a.length = 32) (hb : b.length = 32) :
  Calls Tryz.prog 10 #[.agg (T3 (hailT psk a)).toArray, .agg (u8s b).toArray, .string ⟨(greetL psk a).toArray⟩] w fun e w' => e = .returned (.tuple #[.string ⟨(replyL psk a b).toArray⟩, .agg (u8s (oneK psk a b)).toArray, .agg (u8s (twoK psk a b)).toArray]) ∧ Below w.heap.size w w' := by
 have h := answer13_any (hailT psk a) b (pubL a) (tagT (greetT psk a)) w (hailT_ok psk a ha) (hailT_n psk a) hb (pubL_length _) (tagT_length _)
 rw [← reply_ref, ← oneK_ref, ← twoK_ref, show pubL a ++ tagT (greetT psk a) = greetL psk a from by unfold greetL; rfl] at h
 exact h
set_option maxRecDepth 20000 in
set_option maxHeartbeats 4000000 in
theorem noisePlays_any (psk a b : List UInt8) (w : World) (hp : psk.length = 32) (ha : a.length = 32) (hb : b.length = 32) :
  Calls Tryz.prog 3 #[.agg (u8s psk).toArray, .agg (u8s a).toArray, .agg (u8s b).toArray] w fun e w' => e = .returned (.bool true) ∧ Below w.heap.size w w' := by
 have H1 := Lib.hid (fun w => hello_any psk a w hp ha)
 have H2 := Lib.hid (fun w => reply_any psk a b w hp hb)
 have H3 := Lib.hid (fun w => greet13_any psk a w hp ha)
 have H4 := Lib.hid (fun w => again_any psk a b w ha hb)
 have l1 := oneK_length psk a b
 have l2 := twoK_length psk a b
 have oT := T3_ones (hailT psk a)
 have lT := (hailT_ok psk a ha).T3_length
 obtain ⟨g, hg⟩ : ∃ g, greetL psk a = g := ⟨_, rfl⟩
 obtain ⟨r, hr⟩ : ∃ g, replyL psk a b = g := ⟨_, rfl⟩
 obtain ⟨x, hx⟩ : ∃ g, oneK psk a b = g := ⟨_, rfl⟩
 obtain ⟨y, hy⟩ : ∃ g, twoK psk a b = g := ⟨_, rfl⟩
 obtain ⟨T, hT⟩ : ∃ g, T3 (hailT psk a) = g := ⟨_, rfl⟩
 rw [hg] at H1 H2 H3 H4
 rw [hT] at H3 H4 lT oT
 rw [hr] at H2 H4
 rw [hx] at H2 H4 l1
 rw [hy] at H2 H4 l2
 have F2 := fits_u8s' x l1
 have F3 := fits_u8s' y l2
 have C2 := ceq_u8s_same x
 have C3 := ceq_u8s_same y
 clear hg hr hx hy hT
 go_enter Tryz.func3, Tryz.ntmps3
 obtain ⟨W, hW⟩ : ∃ x, ((w.alloc (.cells (u8s psk).toArray 23)).alloc (.cells (u8s a).toArray 23)).alloc (.cells (u8s b).toArray 23) = x := ⟨_, rfl⟩
 have rP : row W w.heap.size = (u8s psk).toArray := by rw [← hW]; simp [go_sem]
 have rA : row W (w.heap.size + 1) = (u8s a).toArray := by rw [← hW]; simp [go_sem]
 have rB : row W (w.heap.size + 2) = (u8s b).toArray := by rw [← hW]; simp [go_sem]
 have zW : W.heap.size = w.heap.size + 3 := by rw [← hW]; simp
 have bW : Below w.heap.size w W := by
  rw [← hW]
  (repeat (first | exact Below.refl _ _ | refine Below.al ?_ _ | refine Below.drew ?_ | refine Below.sr ?_ _ | refine Below.sc ?_ _))
 go_wp2_with fail
 clear hW
 refine (awake13_any _).mono ?_
 rintro e w1 ⟨rfl, b1⟩
 have z1 := b1.size
 have rP_1 := (row_below b1 (by omega)).trans rP
 have rA_1 := (row_below b1 (by omega)).trans rA
 have rB_1 := (row_below b1 (by omega)).trans rB
 have bb1 := bW.trans (b1.mono (by omega))
 clear b1 rP rA rB bW
 go_wp2_with fail
 refine (H1.out _).mono ?_
 rintro e w2 ⟨S, rfl, gS, zS, rS, b2⟩
 have z2 := b2.size
 have rP_2 := (row_below b2 (by omega)).trans rP_1
 have rA_2 := (row_below b2 (by omega)).trans rA_1
 have rB_2 := (row_below b2 (by omega)).trans rB_1
 have bb2 := bb1.trans (b2.mono (by omega))
 clear b2 rP_1 rA_1 rB_1 bb1
 go_wp2_with fail
 refine (H2.out _).mono ?_
 rintro e w3 ⟨rfl, b3⟩
 have z3 := b3.size
 have rP_3 := (row_below b3 (by omega)).trans rP_2
 have rA_3 := (row_below b3 (by omega)).trans rA_2
 have rB_3 := (row_below b3 (by omega)).trans rB_2
 have bb3 := bb2.trans (b3.mono (by omega))
 clear b3 rP_2 rA_2 rB_2 bb2
 obtain ⟨W4, hW4⟩ : ∃ v, w3.alloc (.cells (u8s y ++ u8s x).toArray 29) = v := ⟨_, rfl⟩
 have rK_4 : row W4 w3.heap.size = (u8s y ++ u8s x).toArray := by rw [← hW4]; simp [go_sem]
 have b4 : Below w3.heap.size w3 W4 := by
  rw [← hW4]
  (repeat (first | exact Below.refl _ _ | refine Below.al ?_ _ | refine Below.drew ?_ | refine Below.sr ?_ _ | refine Below.sc ?_ _))
 have z4 : W4.heap.size = w3.heap.size + 1 := by rw [← hW4]; simp
 have rP_4 := (row_below b4 (by omega)).trans rP_3
 have rA_4 := (row_below b4 (by omega)).trans rA_3
 have rB_4 := (row_below b4 (by omega)).trans rB_3
 have bb4 := bb3.trans (b4.mono (by omega))
 go_wp2_with fail
 clear hW4 b4 rP_3 rA_3 rB_3 bb3
 refine (H3.out _).mono ?_
 rintro e w5 ⟨rfl, b5⟩
 have z5 := b5.size
 have rP_5 := (row_below b5 (by omega)).trans rP_4
 have rA_5 := (row_below b5 (by omega)).trans rA_4
 have rB_5 := (row_below b5 (by omega)).trans rB_4
 have rK_5 := (row_below b5 (by omega)).trans rK_4
 have bb5 := bb4.trans (b5.mono (by omega))
 clear b5 rP_4 rA_4 rB_4 rK_4 bb4
 obtain ⟨W6, hW6⟩ : ∃ v, w5.alloc (.cells (T).toArray 34) = v := ⟨_, rfl⟩
 have rT_6 : row W6 w5.heap.size = (T).toArray := by rw [← hW6]; simp [go_sem]
 have b6 : Below w5.heap.size w5 W6 := by
  rw [← hW6]
  (repeat (first | exact Below.refl _ _ | refine Below.al ?_ _ | refine Below.drew ?_ | refine Below.sr ?_ _ | refine Below.sc ?_ _))
 have z6 : W6.heap.size = w5.heap.size + 1 := by rw [← hW6]; simp
 have rP_6 := (row_below b6 (by omega)).trans rP_5
 have rA_6 := (row_below b6 (by omega)).trans rA_5
 have rB_6 := (row_below b6 (by omega)).trans rB_5
 have rK_6 := (row_below b6 (by omega)).trans rK_5
 have bb6 := bb5.trans (b6.mono (by omega))
 go_wp2_with fail
 clear hW6 b6 rP_5 rA_5 rB_5 rK_5 bb5
 refine (H4.out _).mono ?_
 rintro e w7 ⟨rfl, b7⟩
 have z7 := b7.size
 have rP_7 := (row_below b7 (by omega)).trans rP_6
 have rA_7 := (row_below b7 (by omega)).trans rA_6
 have rB_7 := (row_below b7 (by omega)).trans rB_6
 have rK_7 := (row_below b7 (by omega)).trans rK_6
 have rT_7 := (row_below b7 (by omega)).trans rT_6
 have bb7 := bb6.trans (b7.mono (by omega))
 clear b7 rP_6 rA_6 rB_6 rK_6 rT_6 bb6
 obtain ⟨V, hV⟩ : ∃ v, (w7.alloc (.cells (u8s x).toArray 22)).alloc (.cells (u8s y).toArray 22) = v := ⟨_, rfl⟩
 have rX : row V w7.heap.size = (u8s x).toArray := by rw [← hV]; simp [go_sem]
 have rY : row V (w7.heap.size + 1) = (u8s y).toArray := by rw [← hV]; simp [go_sem]
 have bV : Below w7.heap.size w7 V := by
  rw [← hV]
  (repeat (first | exact Below.refl _ _ | refine Below.al ?_ _ | refine Below.drew ?_ | refine Below.sr ?_ _ | refine Below.sc ?_ _))
 have zV : V.heap.size = w7.heap.size + 2 := by rw [← hV]; simp
 have rKV := (row_below bV (by omega)).trans rK_7
 have bbV := bb7.trans (bV.mono (by omega))
 go_wp2_with fail
 clear hV
 go_ret
 exact ⟨by simp, bbV⟩
theorem noisePlays_walk (W : World) (base : Nat) (args : Array Value) (hlen : args.size = Tryz.f3.params.size) (hval : ∀ (j : Nat) t v, Tryz.f3.params[j]? = some t → args[j]? = some v → Value.okWide Tryz.prog W .any base t v) :
  Calls Tryz.prog 3 args W fun e W' => e = .returned (.bool true) ∧ Below W.heap.size W W' := by
 obtain ⟨l⟩ := args
 match l, hlen with
 | [v0, v1, v2], _ =>
 obtain ⟨p, rfl, hp⟩ := open_key (hval 0 23 v0 rfl rfl)
 obtain ⟨a, rfl, ha⟩ := open_key (hval 1 23 v1 rfl rfl)
 obtain ⟨b, rfl, hb⟩ := open_key (hval 2 23 v2 rfl rfl)
 exact noisePlays_any p a b W hp ha hb
end
end Go.Proofs.YtakkicppgkmokaaGreat
