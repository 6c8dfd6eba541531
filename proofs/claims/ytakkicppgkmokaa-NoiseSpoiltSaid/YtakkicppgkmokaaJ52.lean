/- Texts of this proof, merged: NoiV, NoiWS. -/
import Derived.Test.YtakkicppgkmokaaJ32
import Derived.Test.YtakkicppgkmokaaCurCJ
import Derived.Test.YtakkicppgkmokaaEdwKJ
import Derived.Test.YtakkicppgkmokaaCmpJ
import Derived.Test.YtakkicppgkmokaaEqbJ
import Derived.Test.YtakkicppgkmokaaArgsJ
/- Package noise: talks that are alike but for the secret; the laws' own example. -/
section
set_option linter.unusedSimpArgs false
set_option linter.unusedVariables false
set_option maxRecDepth 4000
namespace Go.Proofs.Ytakkicppgkmokaa
open Go.RowKit
/-- alike but for the secret -/
structure Like (t u : TalkT) : Prop where
  h : t.h = u.h
  c : t.c = u.c
  k : t.k = u.k
  n : t.n = u.n
theorem Like.rfl {t : TalkT} : Like t t := ⟨Eq.refl _, Eq.refl _, Eq.refl _, Eq.refl _⟩
theorem Like.met {t u : TalkT} (l : Like t u) (s : List UInt8) : Like (metT t s) (metT u s) := by
  unfold metT
  exact ⟨by simp only; rw [l.h], by simp only; rw [l.c], by simp only; rw [l.c], by simp only⟩
theorem Like.chain {t u : TalkT} (l : Like t u) (s : List UInt8) : Like (chainT t s) (chainT u s) := by
  unfold chainT
  exact ⟨by simp only; rw [l.h], by simp only; rw [l.c], by simp only; rw [l.c], by simp only⟩
theorem Like.took {t u : TalkT} (l : Like t u) (s : List UInt8) : Like (tookT t s) (tookT u s) := by
  unfold tookT
  exact ⟨by simp only; rw [l.h], by simp only; rw [l.c], by simp only; rw [l.k], by simp only; rw [l.n]⟩
theorem Like.tag {t u : TalkT} (l : Like t u) : tagT t = tagT u := by unfold tagT; rw [l.k, l.n, l.h]
theorem Like.keyA {t u : TalkT} (l : Like t u) : keyA t = keyA u := by unfold Go.Proofs.Ytakkicppgkmokaa.keyA; rw [l.c]
theorem Like.keyB {t u : TalkT} (l : Like t u) : keyB t = keyB u := by unfold Go.Proofs.Ytakkicppgkmokaa.keyB; rw [l.c]
theorem like_begin (psk a b : List UInt8) : Like (beginT psk b) (beginT psk a) := by
  unfold beginT firstT0 bothT
  exact ⟨Eq.refl _, Eq.refl _, Eq.refl _, Eq.refl _⟩
theorem hailT_s (psk a : List UInt8) : (hailT psk a).s = a := by
  unfold hailT greetT tookT metT beginT bothT firstT0
  simp only
/-- the answerer behind the greeting's key is as the greeter -/
theorem like_ans0 (psk a b : List UInt8) : Like (ansT0 psk b (pubL a)) (greetT psk a) := by
  unfold ansT0 greetT
  exact (like_begin psk a b).met _
theorem ans_opens (psk a b : List UInt8) : tagT (ansT0 psk b (pubL a)) = tagT (greetT psk a) := (like_ans0 psk a b).tag
theorem like_fin (psk a b : List UInt8) (ha : a.length = 32) (hb : b.length = 32) : Like (finT2 (hailT psk a) (pubL b)) (ansT3 psk b (pubL a) (tagT (greetT psk a))) := by
  unfold finT2 finT1 ansT3 ansT2 ansT1
  rw [hailT_s, show sharedK a (pubL b) = sharedK b (pubL a) from agree_two a b ha hb]
  unfold hailT
  have l := like_ans0 psk a b
  exact (Like.met (Like.took ⟨l.h.symm, l.c.symm, l.k.symm, l.n.symm⟩ _) _).chain _
theorem fin_opens (psk a b : List UInt8) (ha : a.length = 32) (hb : b.length = 32) : tagT (finT2 (hailT psk a) (pubL b)) = tagT (ansT3 psk b (pubL a) (tagT (greetT psk a))) := (like_fin psk a b ha hb).tag
theorem like_end (psk a b : List UInt8) (ha : a.length = 32) (hb : b.length = 32) : Like (finT3 (hailT psk a) (pubL b) (tagT (ansT3 psk b (pubL a) (tagT (greetT psk a))))) (ansT4 psk b (pubL a) (tagT (greetT psk a))) := by
  unfold finT3 ansT4
  exact (like_fin psk a b ha hb).took _
/-- the greeting -/
def greetL (psk a : List UInt8) : List UInt8 := pubL a ++ tagT (greetT psk a)
theorem greetL_length (psk a : List UInt8) : (greetL psk a).length = 48 := by rw [greetL, List.length_append, pubL_length, tagT_length]
/-- the answer to a greeting of one's own shared secret -/
def replyL (psk a b : List UInt8) : List UInt8 := ansL psk b (pubL a) (tagT (greetT psk a))
theorem replyL_length (psk a b : List UInt8) : (replyL psk a b).length = 48 := ansL_length _ _ _ _
def oneK (psk a b : List UInt8) : List UInt8 := keyA (ansT4 psk b (pubL a) (tagT (greetT psk a)))
def twoK (psk a b : List UInt8) : List UInt8 := keyB (ansT4 psk b (pubL a) (tagT (greetT psk a)))
theorem oneK_length (psk a b : List UInt8) : (oneK psk a b).length = 32 := keyA_length _
theorem twoK_length (psk a b : List UInt8) : (twoK psk a b).length = 32 := keyB_length _
section
attribute [local irreducible] shaK macL keysF keyN sealL nonceL tagL maskL sharedK metT tookT chainT beginT tagT pubL keyA keyB greetT hailT
theorem hello_any (psk a : List UInt8) (w : World) (hp : psk.length = 32) (ha : a.length = 32) :
    Calls Try.prog 8 #[.agg (u8s psk).toArray, .agg (u8s a).toArray] w fun e w' => ∃ S, e = .returned (.tuple #[.pointer (some ⟨S, 0, none⟩), .string ⟨(greetL psk a).toArray⟩]) ∧ w.heap.size ≤ S ∧ S < w'.heap.size ∧ row w' S = (hailT psk a).cells.toArray ∧ Below w.heap.size w w' := greet_any psk a w hp ha
theorem reply_any (psk a b : List UInt8) (w : World) (hp : psk.length = 32) (hb : b.length = 32) :
    Calls Try.prog 9 #[.agg (u8s psk).toArray, .agg (u8s b).toArray, .string ⟨(greetL psk a).toArray⟩] w fun e w' => e = .returned (.tuple #[.string ⟨(replyL psk a b).toArray⟩, .agg (u8s (twoK psk a b) ++ u8s (oneK psk a b)).toArray, .int .i64 0]) ∧ Below w.heap.size w w' :=
  answer_yes psk b (pubL a) (tagT (greetT psk a)) w hp hb (pubL_length _) (tagT_length _) (ans_opens psk a b)
theorem ends_any (psk a b : List UInt8) (S : Nat) (w : World) (ha : a.length = 32) (hb : b.length = 32) (hS : row w S = (hailT psk a).cells.toArray) :
    Calls Try.prog 12 #[.pointer (some ⟨S, 0, none⟩), .string ⟨(replyL psk a b).toArray⟩] w fun e w' => e = .returned (.tuple #[.agg (u8s (oneK psk a b) ++ u8s (twoK psk a b)).toArray, .int .i64 0]) ∧ Below w.heap.size w w' := by
  have h := finish_yes (hailT psk a) (pubL b) (tagT (ansT3 psk b (pubL a) (tagT (greetT psk a)))) S w (hailT_ok psk a ha) (pubL_length _) (tagT_length _) hS (fin_opens psk a b ha hb)
  rw [(like_end psk a b ha hb).keyA, (like_end psk a b ha hb).keyB] at h
  exact h
end
attribute [local irreducible] greetL hailT
set_option maxRecDepth 20000 in
set_option maxHeartbeats 1000000 in
theorem awake13_any (w : World) : Calls Try.prog 7 #[] w fun e w' => e = .returned (.bool true) ∧ Below w.heap.size w w' := by
  have H1 : ∀ w, Calls Try.prog 8 #[.agg (zeros 32 (.int .u8 0)).toArray, .agg (u8s (1 :: List.replicate 31 0)).toArray] w fun e w' => ∃ S, e = .returned (.tuple #[.pointer (some ⟨S, 0, none⟩), .string ⟨(greetL (List.replicate 32 0) (1 :: List.replicate 31 0)).toArray⟩]) ∧ w.heap.size ≤ S ∧ S < w'.heap.size ∧ row w' S = (hailT (List.replicate 32 0) (1 :: List.replicate 31 0)).cells.toArray ∧ Below w.heap.size w w' := fun w => by
    have := hello_any (List.replicate 32 0) (1 :: List.replicate 31 0) w rfl rfl
    rw [u8s_zeros] at this
    exact this
  have hl := greetL_length (List.replicate 32 0) (1 :: List.replicate 31 0)
  obtain ⟨g, hg⟩ : ∃ g, greetL (List.replicate 32 0) (1 :: List.replicate 31 0) = g := ⟨_, rfl⟩
  rw [hg] at H1 hl
  have hlI : (g.length : Int) = 48 := by omega
  have K1 := Lib.hid H1
  have HL := Lib.hid hl
  clear H1 hg hl
  go_enter Try.func7, Try.ntmps7
  go_wp2_with fail
  refine (K1.out _).mono ?_
  rintro e w1 ⟨S, rfl, gS, zS, rS, b1⟩
  go_wp2_with fail
  go_ret
  exact ⟨rfl, b1⟩
end Go.Proofs.Ytakkicppgkmokaa
end

/- The walk of the law NoiseSpoilt. -/
section
set_option linter.unusedSimpArgs false
set_option linter.unusedVariables false
set_option maxRecDepth 4000
namespace Go.Proofs.Ytakkicppgkmokaa
open Go.ChangeShapes Go.WideShapes Go.ChangeAt Go.RowKit
/-! ### a byte of a seal, changed -/
theorem set_part (m t : List UInt8) (j : Nat) (v : UInt8) (hm : m.length = 32) : (m ++ t).set (32 + j) v = m ++ t.set j v := by
  rw [List.set_append_right _ _ (by omega), hm]
  congr 2
  omega
theorem set_ne (t : List UInt8) (j : Nat) (v : UInt8) (hj : j < t.length) (hv : v ≠ t[j]) : t ≠ t.set j v := by
  intro h
  have h2 : t[j]? = (t.set j v)[j]? := congrArg (·[j]?) h
  rw [List.getElem?_set_self hj, List.getElem?_eq_getElem hj] at h2
  exact hv (Option.some.inj h2).symm
theorem get_part (m t : List UInt8) (j : Nat) (hm : m.length = 32) (hj : j < t.length) (h : 32 + j < (m ++ t).length) : (m ++ t)[32 + j] = t[j] := by
  rw [List.getElem_append_right (by omega)]
  congr 1
  omega
section
attribute [local irreducible] shaK macL keysF keyN sealL nonceL tagL maskL sharedK metT tookT chainT beginT tagT pubL keyA keyB greetT hailT
theorem answer_spoilt (psk a b : List UInt8) (j : Nat) (v : UInt8) (w : World) (hp : psk.length = 32) (hb : b.length = 32) (hj : j < 16) (hl : 32 + j < (greetL psk a).length) (hv : v ≠ (greetL psk a)[32 + j]) :
    Calls Try.prog 9 #[.agg (u8s psk).toArray, .agg (u8s b).toArray, .string ⟨((greetL psk a).set (32 + j) v).toArray⟩] w fun e w' => e = .returned (.tuple #[.string ⟨#[]⟩, .agg (zeros 64 (Value.int .u8 0)).toArray, .int .i64 5]) ∧ Below w.heap.size w w' := by
  have ht := tagT_length (greetT psk a)
  simp only [greetL] at hl hv ⊢
  rw [get_part _ _ j (pubL_length a) (by omega)] at hv
  rw [set_part _ _ j v (pubL_length a)]
  exact answer_no psk b (pubL a) _ w hp hb (pubL_length a) (by rw [List.length_set]; exact ht) (by rw [ans_opens]; exact set_ne _ j v (by omega) hv)
theorem ends_spoilt (psk a b : List UInt8) (S j : Nat) (v : UInt8) (w : World) (ha : a.length = 32) (hb : b.length = 32) (hS : row w S = (hailT psk a).cells.toArray) (hj : j < 16) (hl : 32 + j < (replyL psk a b).length) (hv : v ≠ (replyL psk a b)[32 + j]) :
    Calls Try.prog 12 #[.pointer (some ⟨S, 0, none⟩), .string ⟨((replyL psk a b).set (32 + j) v).toArray⟩] w fun e w' => e = .returned (.tuple #[.agg (zeros 64 (Value.int .u8 0)).toArray, .int .i64 5]) ∧ Below w.heap.size w w' := by
  have ht := tagT_length (ansT3 psk b (pubL a) (tagT (greetT psk a)))
  simp only [replyL, ansL] at hl hv ⊢
  rw [get_part _ _ j (pubL_length b) (by omega)] at hv
  rw [set_part _ _ j v (pubL_length b)]
  exact finish_no (hailT psk a) (pubL b) _ S w (hailT_ok psk a ha) (pubL_length b) (by rw [List.length_set]; exact ht) hS (by rw [fin_opens psk a b ha hb]; exact set_ne _ j v (by omega) hv)
end
theorem xor_ne (c y : UInt8) (h : y ≠ 0) : c ^^^ y ≠ c := by
  intro e
  apply h
  have : c ^^^ (c ^^^ y) = c ^^^ c := by rw [e]
  rwa [← UInt8.xor_assoc, UInt8.xor_self, UInt8.zero_xor] at this
attribute [local irreducible] greetL hailT replyL oneK twoK clampL
set_option maxRecDepth 20000 in
set_option maxHeartbeats 1000000 in
theorem noiseSpoilt_zero (psk a b : List UInt8) (at8 cut : Nat) (w : World) :
    Calls Try.prog 5 #[.agg (u8s psk).toArray, .agg (u8s a).toArray, .agg (u8s b).toArray, .int .u8 (at8 : Int), .int .u8 (0), .int .u8 (cut : Int)] w fun e w' => e = .returned (.bool true) ∧ Below w.heap.size w w' := by
  go_enter Try.func5, Try.ntmps5
  obtain ⟨W, hW⟩ : ∃ x, ((w.alloc (.cells (u8s psk).toArray 23)).alloc (.cells (u8s a).toArray 23)).alloc (.cells (u8s b).toArray 23) = x := ⟨_, rfl⟩
  have bW : Below w.heap.size w W := by
    rw [← hW]
    (repeat (first | exact Below.refl _ _ | refine Below.alloc ?_ (by first | (simp; done) | (simp; omega) | omega) _ | refine Below.drew ?_ | refine Below.setRow ?_ (by first | (simp; done) | (simp; omega) | omega) _ | refine Below.setCell ?_ (by first | (simp; done) | (simp; omega) | omega) _))
  have zW := bW.size
  go_wp2_with fail
  clear hW
  refine (awake13_any _).mono ?_
  rintro e w1 ⟨rfl, b1⟩
  have z1 := b1.size
  go_wp2_with fail
  refine (awake13_any _).mono ?_
  rintro e w2 ⟨rfl, b2⟩
  go_wp2_with fail
  go_ret
  exact ⟨rfl, bW.trans ((b1.mono (by omega)).trans (b2.mono (by omega)))⟩
set_option maxRecDepth 20000 in
set_option maxHeartbeats 4000000 in
theorem noiseSpoilt_good (psk a b : List UInt8) (at8 cut : Nat) (y : UInt8) (w : World) (hp : psk.length = 32) (ha : a.length = 32) (hb : b.length = 32) (hy : y ≠ 0) (h8 : at8 < 256) (hc8 : cut < 256) :
    Calls Try.prog 5 #[.agg (u8s psk).toArray, .agg (u8s a).toArray, .agg (u8s b).toArray, .int .u8 (at8 : Int), .int .u8 (y.toNat : Int), .int .u8 (cut : Int)] w fun e w' => e = .returned (.bool true) ∧ Below w.heap.size w w' := by
  have H1 := Lib.hid (fun w => hello_any psk a w hp ha)
  have H2 := Lib.hid (fun w => reply_any psk a b w hp hb)
  have lg := greetL_length psk a
  have lr := replyL_length psk a b
  have l1 := oneK_length psk a b
  have l2 := twoK_length psk a b
  obtain ⟨j, hj⟩ : ∃ j, at8 % 16 = j := ⟨_, rfl⟩
  have j16 : j < 16 := by omega
  obtain ⟨k, hk⟩ : ∃ k, cut % 48 = k := ⟨_, rfl⟩
  have k48 : k < 48 := by omega
  have hA := fun v w (hl : 32 + j < (greetL psk a).length) hv => answer_spoilt psk a b j v w hp hb j16 hl hv
  have hE := fun S v w hr (hl : 32 + j < (replyL psk a b).length) hv => ends_spoilt psk a b S j v w ha hb hr j16 hl hv
  obtain ⟨g, hg⟩ : ∃ g, greetL psk a = g := ⟨_, rfl⟩
  obtain ⟨r, hr⟩ : ∃ g, replyL psk a b = g := ⟨_, rfl⟩
  obtain ⟨x, hx⟩ : ∃ g, oneK psk a b = g := ⟨_, rfl⟩
  obtain ⟨q, hq⟩ : ∃ g, twoK psk a b = g := ⟨_, rfl⟩
  obtain ⟨T, hT⟩ : ∃ g, hailT psk a = g := ⟨_, rfl⟩
  simp only [hg] at H1 H2 lg hA
  rw [hT] at H1
  simp only [hT] at hE
  simp only [hr] at H2 lr hE
  rw [hx] at H2 l1
  rw [hq] at H2 l2
  obtain ⟨p, hpj⟩ : ∃ p, 32 + j = p := ⟨_, rfl⟩
  simp only [hpj] at hA hE
  have pg : p < g.length := by omega
  have pr : p < r.length := by omega
  obtain ⟨v, hv⟩ : ∃ v, g[p] ^^^ y = v := ⟨_, rfl⟩
  obtain ⟨u, hu⟩ : ∃ v, r[p] ^^^ y = v := ⟨_, rfl⟩
  have hxv := xor_u8 g[p] y
  have hxu := xor_u8 r[p] y
  have hA2 := fun w => hA v w pg (by rw [← hv]; exact xor_ne _ _ hy)
  have hE2 := fun S w hr => hE S u w hr pr (by rw [← hu]; exact xor_ne _ _ hy)
  rw [hv] at hxv
  rw [hu] at hxu
  have hsg := u8s_setB g p v
  have hsr := u8s_setB r p u
  obtain ⟨d, hd⟩ : ∃ d, g.set p v = d := ⟨_, rfl⟩
  obtain ⟨t, ht⟩ : ∃ d, r.set p u = d := ⟨_, rfl⟩
  rw [hd] at hA2 hsg
  rw [ht] at hE2 hsr
  have ld : d.length = g.length := by rw [← hd, List.length_set]
  have lt : t.length = r.length := by rw [← ht, List.length_set]
  have HA := Lib.hid hA2
  have HE := Lib.hid hE2
  have HL := Lib.hid (fun w => answer_len psk b (g.take k) w (by rw [List.length_take]; omega))
  have HF := Lib.hid (fun S w => finish_len (r ++ g.take (k + 1)) w S (by rw [List.length_append, List.length_take]; omega))
  have HN := Lib.hid (fun w => finish_nil r w)
  have hj2 : (at8 : Int) % 16 = (j : Int) := by omega
  have hk2 : (cut : Int) % 48 = (k : Int) := by omega
  have hp2 : (32 : Int) + (j : Int) = (p : Int) := by omega
  have hwc : IntKind.i64.wrap (cut : Int) = (cut : Int) := by rw [IntKind.wrap_i64]; omega
  have htm : (cut : Int).tmod 48 = (k : Int) := by rw [Int.tmod_eq_emod_of_nonneg (by omega)]; exact hk2
  have kI3 : (k : Int) ≤ 48 := by omega
  have kI0 : (0 : Int) ≤ (k : Int) := by omega
  have g8 : (at8 : Int) < 256 := by omega
  have g9 : (cut : Int) < 256 := by omega
  have y0 : ((y.toNat : Int) == 0) = false := by
    simp only [beq_eq_false_iff_ne, ne_eq]
    intro h
    exact hy (UInt8.toNat_inj.1 (by simp; omega))
  have lgI : (g.length : Int) = 48 := by omega
  have lrI : (r.length : Int) = 48 := by omega
  have kI : (k : Int) < 48 := by omega
  have kI2 : (k : Int) + 1 ≤ 48 := by omega
  have pI : (p : Int) < 48 := by omega
  have p48 : p < 48 := by omega
  have kN : k ≤ g.length := by omega
  have kN2 : k + 1 ≤ g.length := by omega
  have LG := Lib.hid lg
  have LR := Lib.hid lr
  have F1 : fits (leaves 32 (.int .u8) ++ leaves 32 (.int .u8)) (zeros 64 (.int .u8 0)) = true := by have := fits_zeros64; rwa [List.append_nil] at this
  have C1 := ceq_zeros 64 .u8 0
  clear hg hr hx hq hT lg lr hA hE hA2 hE2 hv hu hd ht hpj hj hk j16 h8 hc8 hy
  go_enter Try.func5, Try.ntmps5
  obtain ⟨W, hW⟩ : ∃ x, ((w.alloc (.cells (u8s psk).toArray 23)).alloc (.cells (u8s a).toArray 23)).alloc (.cells (u8s b).toArray 23) = x := ⟨_, rfl⟩
  have rP : row W w.heap.size = (u8s psk).toArray := by rw [← hW]; simp [go_sem]
  have rA : row W (w.heap.size + 1) = (u8s a).toArray := by rw [← hW]; simp [go_sem]
  have rB : row W (w.heap.size + 2) = (u8s b).toArray := by rw [← hW]; simp [go_sem]
  have zW : W.heap.size = w.heap.size + 3 := by rw [← hW]; simp
  have bW : Below w.heap.size w W := by
    rw [← hW]
    (repeat (first | exact Below.refl _ _ | refine Below.alloc ?_ (by first | (simp; done) | (simp; omega) | omega) _ | refine Below.drew ?_ | refine Below.setRow ?_ (by first | (simp; done) | (simp; omega) | omega) _ | refine Below.setCell ?_ (by first | (simp; done) | (simp; omega) | omega) _))
  go_wp2_with fail
  clear hW
  refine (awake13_any _).mono ?_
  rintro e w1 ⟨rfl, b1⟩
  have z1 := b1.size
  have rP_1 := (row_below b1 (by omega)).trans rP
  have rA_1 := (row_below b1 (by omega)).trans rA
  have rB_1 := (row_below b1 (by omega)).trans rB
  have bb1 := bW.trans (b1.mono (by omega))
  clear b1 rP rA rB bW
  go_wp2_with fail
  refine (H1.out _).mono ?_
  rintro e w2 ⟨S, rfl, gS, zS, rS, b2⟩
  have z2 := b2.size
  have rP_2 := (row_below b2 (by omega)).trans rP_1
  have rB_2 := (row_below b2 (by omega)).trans rB_1
  have bb2 := bb1.trans (b2.mono (by omega))
  clear b2 rP_1 rA_1 rB_1 bb1
  go_wp2_with fail
  refine (H2.out _).mono ?_
  rintro e w3 ⟨rfl, b3⟩
  have z3 := b3.size
  have rP_3 := (row_below b3 (by omega)).trans rP_2
  have rB_3 := (row_below b3 (by omega)).trans rB_2
  have rS_3 := (row_below b3 (by omega)).trans rS
  have bb3 := bb2.trans (b3.mono (by omega))
  clear b3 rP_2 rB_2 rS bb2
  obtain ⟨W4, hW4⟩ : ∃ v, w3.alloc (.cells (u8s q ++ u8s x).toArray 29) = v := ⟨_, rfl⟩
  have b4 : Below w3.heap.size w3 W4 := by
    rw [← hW4]
    (repeat (first | exact Below.refl _ _ | refine Below.alloc ?_ (by first | (simp; done) | (simp; omega) | omega) _ | refine Below.drew ?_ | refine Below.setRow ?_ (by first | (simp; done) | (simp; omega) | omega) _ | refine Below.setCell ?_ (by first | (simp; done) | (simp; omega) | omega) _))
  have z4 : W4.heap.size = w3.heap.size + 1 := by rw [← hW4]; simp
  have rP_4 := (row_below b4 (by omega)).trans rP_3
  have rB_4 := (row_below b4 (by omega)).trans rB_3
  have rS_4 := (row_below b4 (by omega)).trans rS_3
  have bb4 := bb3.trans (b4.mono (by omega))
  obtain ⟨sp, hsp⟩ : ∃ q, spareOf W4 ⟨g.toArray⟩ 5 = q := ⟨_, rfl⟩
  obtain ⟨X1, hX1⟩ : ∃ W, (W4.alloc (.cells (u8s g ++ zeros sp (Value.int .u8 0)).toArray 5 (g.length + sp, g.length + sp + 1))).drew = W := ⟨_, rfl⟩
  have bX1 : Below W4.heap.size W4 X1 := by rw [← hX1]; exact (by (repeat (first | exact Below.refl _ _ | refine Below.alloc ?_ (by first | (simp; done) | (simp; omega) | omega) _ | refine Below.drew ?_ | refine Below.setRow ?_ (by first | (simp; done) | (simp; omega) | omega) _ | refine Below.setCell ?_ (by first | (simp; done) | (simp; omega) | omega) _)))
  have zX1 : X1.heap.size = W4.heap.size + 1 := by rw [← hX1]; simp
  have rX1 : row X1 (w3.heap.size + 1) = (u8s g ++ zeros sp (Value.int .u8 0)).toArray := by rw [← z4, ← hX1, row_drew, row_alloc_mark _ _ _ _ _ rfl (by first | (simp; done) | (simp; omega))]
  obtain ⟨sq, hsq⟩ : ∃ q, spareOf X1 ⟨r.toArray⟩ 5 = q := ⟨_, rfl⟩
  obtain ⟨X2, hX2⟩ : ∃ W, (X1.alloc (.cells (u8s r ++ zeros sq (Value.int .u8 0)).toArray 5 (r.length + sq, r.length + sq + 1))).drew = W := ⟨_, rfl⟩
  have bX2 : Below X1.heap.size X1 X2 := by rw [← hX2]; exact (by (repeat (first | exact Below.refl _ _ | refine Below.alloc ?_ (by first | (simp; done) | (simp; omega) | omega) _ | refine Below.drew ?_ | refine Below.setRow ?_ (by first | (simp; done) | (simp; omega) | omega) _ | refine Below.setCell ?_ (by first | (simp; done) | (simp; omega) | omega) _)))
  have zX2 : X2.heap.size = X1.heap.size + 1 := by rw [← hX2]; simp
  have rY2 : row X2 (w3.heap.size + 1 + 1) = (u8s r ++ zeros sq (Value.int .u8 0)).toArray := by rw [← z4, ← zX1, ← hX2, row_drew, row_alloc_mark _ _ _ _ _ rfl (by first | (simp; done) | (simp; omega))]
  have rX2 : row X2 (w3.heap.size + 1) = (u8s g ++ zeros sp (Value.int .u8 0)).toArray := (row_below bX2 (by omega)).trans rX1
  obtain ⟨V1, hV1⟩ : ∃ V, X2.setCell ⟨w3.heap.size + 1, p, none⟩ (.int .u8 (v.toNat : Int)) = V := ⟨_, rfl⟩
  have eV1 : V1 = X2.setRow (w3.heap.size + 1) (u8s d ++ zeros sp (Value.int .u8 0)).toArray := by
    rw [← hV1, setCell_row _ (by rw [rX2]; simp; omega), rX2]
    congr 1
    simp only [List.setIfInBounds_toArray]
    rw [List.set_append_left _ _ (by simp; omega), hsg]
  have zV1 : V1.heap.size = X2.heap.size := by rw [eV1]; simp
  have rXV1 : row V1 (w3.heap.size + 1) = (u8s d ++ zeros sp (Value.int .u8 0)).toArray := by rw [eV1]; exact row_setRow_same (by rw [rX2]; simp; omega) (by rw [rX2]; simp; omega)
  have rYV1 : row V1 (w3.heap.size + 1 + 1) = (u8s r ++ zeros sq (Value.int .u8 0)).toArray := by rw [eV1, row_setRow_other _ _ _ (by omega)]; exact rY2
  have bV1 : Below W4.heap.size W4 V1 := by rw [eV1]; exact Below.setRow (bX1.trans (bX2.mono (by omega))) (by omega) _
  obtain ⟨V2, hV2⟩ : ∃ V, V1.setCell ⟨w3.heap.size + 1 + 1, p, none⟩ (.int .u8 (u.toNat : Int)) = V := ⟨_, rfl⟩
  have eV2 : V2 = V1.setRow (w3.heap.size + 1 + 1) (u8s t ++ zeros sq (Value.int .u8 0)).toArray := by
    rw [← hV2, setCell_row _ (by rw [rYV1]; simp; omega), rYV1]
    congr 1
    simp only [List.setIfInBounds_toArray]
    rw [List.set_append_left _ _ (by simp; omega), hsr]
  have zV2 : V2.heap.size = X2.heap.size := by rw [eV2]; simpa using zV1
  have rYV2 : row V2 (w3.heap.size + 1 + 1) = (u8s t ++ zeros sq (Value.int .u8 0)).toArray := by rw [eV2]; exact row_setRow_same (by rw [rYV1]; simp; omega) (by rw [rYV1]; simp; omega)
  have rXV2 : row V2 (w3.heap.size + 1) = (u8s d ++ zeros sp (Value.int .u8 0)).toArray := by rw [eV2, row_setRow_other _ _ _ (by omega)]; exact rXV1
  have bV2 : Below W4.heap.size W4 V2 := by rw [eV2]; exact Below.setRow bV1 (by omega) _
  have pgs : p < g.length + sp := by omega
  have prs : p < r.length + sq := by omega
  have pgsI : (p : Int) < (g.length : Int) + (sp : Int) := by omega
  have prsI : (p : Int) < (r.length : Int) + (sq : Int) := by omega
  have rP_5 := (row_below bV2 (by omega)).trans rP_4
  have rB_5 := (row_below bV2 (by omega)).trans rB_4
  have rS_5 := (row_below bV2 (by omega)).trans rS_4
  have bb5 := bb4.trans (bV2.mono (by omega))
  clear eV1 eV2 bX1 bX2 bV1 bV2 rP_3 rB_3 rS_3 bb3 rP_4 rB_4 rS_4
  go_wp2_with fail
  refine (HA.out _).mono ?_
  rintro e w6 ⟨rfl, b6⟩
  have z6 := b6.size
  have rP_6 := (row_below b6 (by omega)).trans rP_5
  have rB_6 := (row_below b6 (by omega)).trans rB_5
  have rS_6 := (row_below b6 (by omega)).trans rS_5
  have rY_6 := (row_below b6 (by omega)).trans rYV2
  have bb6 := bb5.trans (b6.mono (by omega))
  clear b6 rP_5 rB_5 rS_5 rYV2 bb5
  obtain ⟨U7, hU7⟩ : ∃ v, w6.alloc (.cells (zeros 64 (Value.int .u8 0)).toArray 29) = v := ⟨_, rfl⟩
  have rU7 : row U7 w6.heap.size = (zeros 64 (Value.int .u8 0)).toArray := by rw [← hU7]; simp [go_sem]
  have zU7 : U7.heap.size = w6.heap.size + 1 := by rw [← hU7]; simp
  obtain ⟨V7, hV7⟩ : ∃ v, U7.setRow w6.heap.size (zeros 64 (Value.int .u8 0)).toArray = v := ⟨_, rfl⟩
  have rF_7 : row V7 w6.heap.size = (zeros 64 (Value.int .u8 0)).toArray := by rw [← hV7]; exact row_setRow_same (by rw [rU7]; simp) (by rw [rU7])
  have b7 : Below w6.heap.size w6 V7 := by
    rw [← hV7, ← hU7]
    (repeat (first | exact Below.refl _ _ | refine Below.alloc ?_ (by first | (simp; done) | (simp; omega) | omega) _ | refine Below.drew ?_ | refine Below.setRow ?_ (by first | (simp; done) | (simp; omega) | omega) _ | refine Below.setCell ?_ (by first | (simp; done) | (simp; omega) | omega) _))
  have z7 : V7.heap.size = w6.heap.size + 1 := by rw [← hV7, setRow_size]; exact zU7
  have rP_7 := (row_below b7 (by omega)).trans rP_6
  have rB_7 := (row_below b7 (by omega)).trans rB_6
  have rS_7 := (row_below b7 (by omega)).trans rS_6
  have rY_7 := (row_below b7 (by omega)).trans rY_6
  have bb7 := bb6.trans (b7.mono (by omega))
  go_wp2_with fail
  clear hU7 hV7 rU7 zU7 b7 rP_6 rB_6 rS_6 rY_6 bb6
  refine (HE.out _ _ rS_7).mono ?_
  rintro e w8 ⟨rfl, b8⟩
  have z8 := b8.size
  have rP_8 := (row_below b8 (by omega)).trans rP_7
  have rB_8 := (row_below b8 (by omega)).trans rB_7
  have rS_8 := (row_below b8 (by omega)).trans rS_7
  have rF_8 := (row_below b8 (by omega)).trans rF_7
  have bb8 := bb7.trans (b8.mono (by omega))
  clear b8 rP_7 rB_7 rS_7 rY_7 rF_7 bb7
  obtain ⟨U9, hU9⟩ : ∃ v, w8.alloc (.cells (zeros 64 (Value.int .u8 0)).toArray 29) = v := ⟨_, rfl⟩
  have rU9 : row U9 w8.heap.size = (zeros 64 (Value.int .u8 0)).toArray := by rw [← hU9]; simp [go_sem]
  have zU9 : U9.heap.size = w8.heap.size + 1 := by rw [← hU9]; simp
  obtain ⟨V9, hV9⟩ : ∃ v, U9.setRow w8.heap.size (zeros 64 (Value.int .u8 0)).toArray = v := ⟨_, rfl⟩
  have rG_9 : row V9 w8.heap.size = (zeros 64 (Value.int .u8 0)).toArray := by rw [← hV9]; exact row_setRow_same (by rw [rU9]; simp) (by rw [rU9])
  have b9 : Below w8.heap.size w8 V9 := by
    rw [← hV9, ← hU9]
    (repeat (first | exact Below.refl _ _ | refine Below.alloc ?_ (by first | (simp; done) | (simp; omega) | omega) _ | refine Below.drew ?_ | refine Below.setRow ?_ (by first | (simp; done) | (simp; omega) | omega) _ | refine Below.setCell ?_ (by first | (simp; done) | (simp; omega) | omega) _))
  have z9 : V9.heap.size = w8.heap.size + 1 := by rw [← hV9, setRow_size]; exact zU9
  have rP_9 := (row_below b9 (by omega)).trans rP_8
  have rB_9 := (row_below b9 (by omega)).trans rB_8
  have rS_9 := (row_below b9 (by omega)).trans rS_8
  have rF_9 := (row_below b9 (by omega)).trans rF_8
  have bb9 := bb8.trans (b9.mono (by omega))
  go_wp2_with fail
  clear hU9 hV9 rU9 zU9 b9 rP_8 rB_8 rS_8 rF_8 bb8
  refine wp_region_beginR [(w.heap.size, (u8s psk).toArray), (w.heap.size + 1 + 1, (u8s b).toArray)] rfl (by simp only [Rws]; (repeat (first | exact trivial | refine ⟨(by first | assumption | (simp [go_sem, *]; done)), (by first | omega | (simp; done) | (simp; omega)), ?_⟩))) (fun hS => ?_)
  refine wpAnyR_take (i := 0) (v := ?_) (by simp only [List.getElem?_toArray, List.getElem?_cons_succ, List.getElem?_cons_zero]; rfl) (by kernel_rfl) (by kernel_rfl) (by kernel_rfl) (by first | exact fun _ _ _ h => h | exact fun _ _ _ h => by cases h.1) (Rws.grow _) (Or.inl ⟨by rfl, ?_⟩) hS ?_
  rotate_left
  · intro w' hS'
    simp only [Rws] at hS'
    go_simp
    refine ⟨?_, Below.refl _ _⟩
    rfl
  (try simp only [Act.put, List.setIfInBounds_toArray, List.set_cons_zero, List.set_cons_succ])
  refine wpAnyR_take (i := 1) (v := ?_) (by simp only [List.getElem?_toArray, List.getElem?_cons_succ, List.getElem?_cons_zero]; rfl) (by kernel_rfl) (by kernel_rfl) (by kernel_rfl) (by first | exact fun _ _ _ h => h | exact fun _ _ _ h => by cases h.1) (Rws.grow _) (Or.inl ⟨by rfl, ?_⟩) hS ?_
  rotate_left
  · intro w' hS'
    simp only [Rws] at hS'
    go_simp
    refine ⟨?_, Below.refl _ _⟩
    rfl
  (try simp only [Act.put, List.setIfInBounds_toArray, List.set_cons_zero, List.set_cons_succ])
  refine wpAnyR_take (i := 2) (v := ?_) (by simp only [List.getElem?_toArray, List.getElem?_cons_succ, List.getElem?_cons_zero]; rfl) (by kernel_rfl) (by kernel_rfl) (by kernel_rfl) (by first | exact fun _ _ _ h => h | exact fun _ _ _ h => by cases h.1) (Rws.grow _) (Or.inl ⟨by rfl, ?_⟩) hS ?_
  rotate_left
  · intro w' hS'
    simp only [Rws] at hS'
    go_simp
    refine ⟨?_, Below.refl _ _⟩
    rfl
  (try simp only [Act.put, List.setIfInBounds_toArray, List.set_cons_zero, List.set_cons_succ])
  refine wpAnyR_take (i := 3) (v := ?_) (by simp only [List.getElem?_toArray, List.getElem?_cons_succ, List.getElem?_cons_zero]; rfl) (by kernel_rfl) (by kernel_rfl) (by kernel_rfl) (by first | exact fun _ _ _ h => h | exact fun _ _ _ h => by cases h.1) (Rws.grow _) (Or.inl ⟨by rfl, ?_⟩) hS ?_
  rotate_left
  · intro w' hS'
    simp only [Rws] at hS'
    go_simp
    refine ⟨?_, Below.refl _ _⟩
    rfl
  (try simp only [Act.put, List.setIfInBounds_toArray, List.set_cons_zero, List.set_cons_succ])
  refine wpAnyR_take (i := 4) (v := ?_) (by simp only [List.getElem?_toArray, List.getElem?_cons_succ, List.getElem?_cons_zero]; rfl) (by kernel_rfl) (by kernel_rfl) (by kernel_rfl) (by first | exact fun _ _ _ h => h | exact fun _ _ _ h => by cases h.1) (Rws.grow _) (Or.inl ⟨by rfl, ?_⟩) hS ?_
  rotate_left
  · intro w' hS'
    simp only [Rws] at hS'
    go_simp
    refine ⟨?_, Below.refl _ _⟩
    rfl
  (try simp only [Act.put, List.setIfInBounds_toArray, List.set_cons_zero, List.set_cons_succ])
  refine wpAnyR_take (i := 5) (v := ?_) (by simp only [List.getElem?_toArray, List.getElem?_cons_succ, List.getElem?_cons_zero]; rfl) (by kernel_rfl) (by kernel_rfl) (by kernel_rfl) (by first | exact fun _ _ _ h => h | exact fun _ _ _ h => by cases h.1) (Rws.grow _) (Or.inl ⟨by rfl, ?_⟩) hS ?_
  rotate_left
  · intro w' hS'
    simp only [Rws] at hS'
    go_simp
    refine ⟨?_, Below.refl _ _⟩
    rfl
  (try simp only [Act.put, List.setIfInBounds_toArray, List.set_cons_zero, List.set_cons_succ])
  refine wpAnyR_take (i := 6) (v := ?_) (by simp only [List.getElem?_toArray, List.getElem?_cons_succ, List.getElem?_cons_zero]; rfl) (by kernel_rfl) (by kernel_rfl) (by kernel_rfl) (by first | exact fun _ _ _ h => h | exact fun _ _ _ h => by cases h.1) (Rws.grow _) (Or.inl ⟨by rfl, ?_⟩) hS ?_
  rotate_left
  · intro w' hS'
    simp only [Rws] at hS'
    go_simp
    refine ⟨?_, Below.refl _ _⟩
    rfl
  (try simp only [Act.put, List.setIfInBounds_toArray, List.set_cons_zero, List.set_cons_succ])
  refine wpAnyR_take (i := 7) (v := ?_) (by simp only [List.getElem?_toArray, List.getElem?_cons_succ, List.getElem?_cons_zero]; rfl) (by kernel_rfl) (by kernel_rfl) (by kernel_rfl) (by first | exact fun _ _ _ h => h | exact fun _ _ _ h => by cases h.1) (Rws.grow _) (Or.inl ⟨by rfl, ?_⟩) hS ?_
  rotate_left
  · intro w' hS'
    simp only [Rws] at hS'
    go_simp
    with_reducible refine (HL.out _).mono ?_
    rintro e w'' ⟨rfl, hb⟩
    refine ⟨_, rfl, ?_, hb⟩
    rfl
  (try simp only [Act.put, List.setIfInBounds_toArray, List.set_cons_zero, List.set_cons_succ])
  refine wpAnyR_take (i := 8) (v := ?_) (by simp only [List.getElem?_toArray, List.getElem?_cons_succ, List.getElem?_cons_zero]; rfl) (by kernel_rfl) (by kernel_rfl) (by kernel_rfl) (by first | exact fun _ _ _ h => h | exact fun _ _ _ h => by cases h.1) (Rws.grow _) (Or.inl ⟨by rfl, ?_⟩) hS ?_
  rotate_left
  · intro w' hS'
    simp only [Rws] at hS'
    go_simp
    refine ⟨?_, Below.refl _ _⟩
    rfl
  (try simp only [Act.put, List.setIfInBounds_toArray, List.set_cons_zero, List.set_cons_succ])
  refine wpAnyR_take (i := 9) (v := ?_) (by simp only [List.getElem?_toArray, List.getElem?_cons_succ, List.getElem?_cons_zero]; rfl) (by kernel_rfl) (by kernel_rfl) (by kernel_rfl) (by first | exact fun _ _ _ h => h | exact fun _ _ _ h => by cases h.1) (Rws.grow _) (Or.inl ⟨by rfl, ?_⟩) hS ?_
  rotate_left
  · intro w' hS'
    simp only [Rws] at hS'
    go_simp
    refine ⟨?_, Below.refl _ _⟩
    rfl
  (try simp only [Act.put, List.setIfInBounds_toArray, List.set_cons_zero, List.set_cons_succ])
  refine wpAnyR_take (i := 10) (v := ?_) (by simp only [List.getElem?_toArray, List.getElem?_cons_succ, List.getElem?_cons_zero]; rfl) (by kernel_rfl) (by kernel_rfl) (by kernel_rfl) (by first | exact fun _ _ _ h => h | exact fun _ _ _ h => by cases h.1) (Rws.grow _) (Or.inl ⟨by rfl, ?_⟩) hS ?_
  rotate_left
  · intro w' hS'
    simp only [Rws] at hS'
    go_simp
    refine ⟨?_, Below.refl _ _⟩
    rfl
  (try simp only [Act.put, List.setIfInBounds_toArray, List.set_cons_zero, List.set_cons_succ])
  refine wpAnyR_take (i := 11) (v := ?_) (by simp only [List.getElem?_toArray, List.getElem?_cons_succ, List.getElem?_cons_zero]; rfl) (by kernel_rfl) (by kernel_rfl) (by kernel_rfl) (by first | exact fun _ _ _ h => h | exact fun _ _ _ h => by cases h.1) (Rws.grow _) (Or.inl ⟨by rfl, ?_⟩) hS ?_
  rotate_left
  · intro w' hS'
    simp only [Rws] at hS'
    go_simp
    refine ⟨?_, Below.refl _ _⟩
    rfl
  (try simp only [Act.put, List.setIfInBounds_toArray, List.set_cons_zero, List.set_cons_succ])
  refine wpAnyR_all (rs := [12]) (by kernel_rfl) (by simp) (Rws.grow _) hS (fun u1 hu1 hSW => ?_)
  intro i hi
  obtain rfl := List.mem_singleton.1 hi
  refine wpOp_step rfl (fun K hK => ?_)
  simp only [Rws] at hSW
  clear hi hS
  go_simp
  have zu1 : V9.heap.size ≤ u1.heap.size := hu1.size
  obtain ⟨v1, ev1⟩ : ∃ v, u1.alloc (.cells (zeros 64 (Value.int .u8 0)).toArray 29) = v := ⟨_, rfl⟩
  rw [ev1]
  have hv1 : Below u1.heap.size u1 v1 := by rw [← ev1]; exact (by (repeat (first | exact Below.refl _ _ | refine Below.alloc ?_ (by first | (simp; done) | (simp; omega) | omega) _ | refine Below.drew ?_ | refine Below.setRow ?_ (by first | (simp; done) | (simp; omega) | omega) _ | refine Below.setCell ?_ (by first | (simp; done) | (simp; omega) | omega) _)))
  have zv1 : v1.heap.size = u1.heap.size + 1 := by rw [← ev1]; simp
  have rv1 : row v1 u1.heap.size = (zeros 64 (Value.int .u8 0)).toArray := by rw [← ev1, row_alloc_at _ _ _ rfl]
  clear ev1
  refine hK _ _ ⟨Rws.grow _ _ _ (by first | (simp only [Rws]; done) | (simpa only [Rws] using hSW)) hv1, ?_⟩
  have hS := Rws.grow _ _ _ (show Rws [(w.heap.size, (u8s psk).toArray), (w.heap.size + 1 + 1, (u8s b).toArray)] u1 from by first | (simp only [Rws]; done) | (simpa only [Rws] using hSW)) hv1
  clear hK K hSW
  (try simp only [Act.put, List.setIfInBounds_toArray, List.set_cons_zero, List.set_cons_succ])
  refine wpAnyR_take (i := 13) (v := ?_) (by simp only [List.getElem?_toArray, List.getElem?_cons_succ, List.getElem?_cons_zero]; rfl) (by kernel_rfl) (by kernel_rfl) (by kernel_rfl) (by first | exact fun _ _ _ h => h | exact fun _ _ _ h => by cases h.1) (Rws.grow _) (Or.inl ⟨by rfl, ?_⟩) hS ?_
  rotate_left
  · intro w' hS'
    simp only [Rws] at hS'
    go_simp
    refine ⟨?_, Below.refl _ _⟩
    rfl
  (try simp only [Act.put, List.setIfInBounds_toArray, List.set_cons_zero, List.set_cons_succ])
  refine wpAnyR_store (i := 14) (b := u1.heap.size) (c := (zeros 64 (Value.int .u8 0)).toArray) (by simp only [List.getElem?_toArray, List.getElem?_cons_succ, List.getElem?_cons_zero]; rfl) rfl rfl (by kernel_rfl) (by simp; (try omega)) hS (by rw [rv1]; simp; (try omega)) (fun w1 hr => by rw [rv1] at hr; go_simp; (try rfl)) (fun u2 hu2 ru2 hS => ?_)
  refine wpAnyR_take (i := 15) (v := ?_) (by simp only [List.getElem?_toArray, List.getElem?_cons_succ, List.getElem?_cons_zero]; rfl) (by kernel_rfl) (by kernel_rfl) (by kernel_rfl) (by first | exact fun _ _ _ h => h | exact fun _ _ _ h => by cases h.1) (Rws.grow _) (Or.inl ⟨by rfl, ?_⟩) hS ?_
  rotate_left
  · intro w' hS'
    simp only [Rws] at hS'
    go_simp
    refine ⟨?_, Below.refl _ _⟩
    rfl
  (try simp only [Act.put, List.setIfInBounds_toArray, List.set_cons_zero, List.set_cons_succ])
  refine wpAnyR_done (by kernel_rfl) (fun w10 hN => ?_) _
  have zu2 : v1.heap.size ≤ u2.heap.size := hu2.size
  have c1 : Below V9.heap.size V9 u1 := Below.trans (Below.drew (Below.refl _ _)) hu1
  have c2 : Below V9.heap.size V9 u2 := Below.trans (Below.trans c1 (hv1.mono zu1)) (hu2.mono (by omega))
  have b10 : Below V9.heap.size V9 w10 := Below.trans (Below.setRow c2 zu1 _) (hN.mono (by rw [setRow_size]; omega))
  have z10 := b10.size
  clear hN hu2 ru2 hS hv1 zv1 rv1 hu1 zu1 zu2 c1 c2
  have rP_10 := (row_below b10 (by omega)).trans rP_9
  have rB_10 := (row_below b10 (by omega)).trans rB_9
  have rS_10 := (row_below b10 (by omega)).trans rS_9
  have rF_10 := (row_below b10 (by omega)).trans rF_9
  have rG_10 := (row_below b10 (by omega)).trans rG_9
  have bb10 := bb9.trans (b10.mono (by omega))
  clear b10 rP_9 rB_9 rS_9 rF_9 rG_9 bb9
  go_wp2_with fail
  refine (HF.out _ _).mono ?_
  rintro e w11 ⟨rfl, b11⟩
  have z11 := b11.size
  have rP_11 := (row_below b11 (by omega)).trans rP_10
  have rB_11 := (row_below b11 (by omega)).trans rB_10
  have rS_11 := (row_below b11 (by omega)).trans rS_10
  have rF_11 := (row_below b11 (by omega)).trans rF_10
  have rG_11 := (row_below b11 (by omega)).trans rG_10
  have bb11 := bb10.trans (b11.mono (by omega))
  clear b11 rP_10 rB_10 rS_10 rF_10 rG_10 bb10
  obtain ⟨U12, hU12⟩ : ∃ v, w11.alloc (.cells (zeros 64 (Value.int .u8 0)).toArray 29) = v := ⟨_, rfl⟩
  have rU12 : row U12 w11.heap.size = (zeros 64 (Value.int .u8 0)).toArray := by rw [← hU12]; simp [go_sem]
  have zU12 : U12.heap.size = w11.heap.size + 1 := by rw [← hU12]; simp
  obtain ⟨V12, hV12⟩ : ∃ v, U12.setRow w11.heap.size (zeros 64 (Value.int .u8 0)).toArray = v := ⟨_, rfl⟩
  have rI_12 : row V12 w11.heap.size = (zeros 64 (Value.int .u8 0)).toArray := by rw [← hV12]; exact row_setRow_same (by rw [rU12]; simp) (by rw [rU12])
  have b12 : Below w11.heap.size w11 V12 := by
    rw [← hV12, ← hU12]
    (repeat (first | exact Below.refl _ _ | refine Below.alloc ?_ (by first | (simp; done) | (simp; omega) | omega) _ | refine Below.drew ?_ | refine Below.setRow ?_ (by first | (simp; done) | (simp; omega) | omega) _ | refine Below.setCell ?_ (by first | (simp; done) | (simp; omega) | omega) _))
  have z12 : V12.heap.size = w11.heap.size + 1 := by rw [← hV12, setRow_size]; exact zU12
  have rP_12 := (row_below b12 (by omega)).trans rP_11
  have rB_12 := (row_below b12 (by omega)).trans rB_11
  have rS_12 := (row_below b12 (by omega)).trans rS_11
  have rF_12 := (row_below b12 (by omega)).trans rF_11
  have rG_12 := (row_below b12 (by omega)).trans rG_11
  have bb12 := bb11.trans (b12.mono (by omega))
  go_wp2_with fail
  clear hU12 hV12 rU12 zU12 b12 rP_11 rB_11 rS_11 rF_11 rG_11 bb11
  refine (HN.out _).mono ?_
  rintro e w13 ⟨rfl, b13⟩
  have z13 := b13.size
  have rP_13 := (row_below b13 (by omega)).trans rP_12
  have rB_13 := (row_below b13 (by omega)).trans rB_12
  have rS_13 := (row_below b13 (by omega)).trans rS_12
  have rF_13 := (row_below b13 (by omega)).trans rF_12
  have rG_13 := (row_below b13 (by omega)).trans rG_12
  have rI_13 := (row_below b13 (by omega)).trans rI_12
  have bb13 := bb12.trans (b13.mono (by omega))
  clear b13 rP_12 rB_12 rS_12 rF_12 rG_12 rI_12 bb12
  obtain ⟨U14, hU14⟩ : ∃ v, w13.alloc (.cells (zeros 64 (Value.int .u8 0)).toArray 29) = v := ⟨_, rfl⟩
  have rU14 : row U14 w13.heap.size = (zeros 64 (Value.int .u8 0)).toArray := by rw [← hU14]; simp [go_sem]
  have zU14 : U14.heap.size = w13.heap.size + 1 := by rw [← hU14]; simp
  obtain ⟨V14, hV14⟩ : ∃ v, U14.setRow w13.heap.size (zeros 64 (Value.int .u8 0)).toArray = v := ⟨_, rfl⟩
  have rJ_14 : row V14 w13.heap.size = (zeros 64 (Value.int .u8 0)).toArray := by rw [← hV14]; exact row_setRow_same (by rw [rU14]; simp) (by rw [rU14])
  have b14 : Below w13.heap.size w13 V14 := by
    rw [← hV14, ← hU14]
    (repeat (first | exact Below.refl _ _ | refine Below.alloc ?_ (by first | (simp; done) | (simp; omega) | omega) _ | refine Below.drew ?_ | refine Below.setRow ?_ (by first | (simp; done) | (simp; omega) | omega) _ | refine Below.setCell ?_ (by first | (simp; done) | (simp; omega) | omega) _))
  have z14 : V14.heap.size = w13.heap.size + 1 := by rw [← hV14, setRow_size]; exact zU14
  have rP_14 := (row_below b14 (by omega)).trans rP_13
  have rB_14 := (row_below b14 (by omega)).trans rB_13
  have rS_14 := (row_below b14 (by omega)).trans rS_13
  have rF_14 := (row_below b14 (by omega)).trans rF_13
  have rG_14 := (row_below b14 (by omega)).trans rG_13
  have rI_14 := (row_below b14 (by omega)).trans rI_13
  have bb14 := bb13.trans (b14.mono (by omega))
  go_wp2_with fail
  clear hU14 hV14 rU14 zU14 b14 rP_13 rB_13 rS_13 rF_13 rG_13 rI_13 bb13
  go_ret
  exact ⟨by simp, bb14⟩
theorem noiseSpoilt_walk (W : World) (base : Nat) (args : Array Value) (hlen : args.size = Try.f5.params.size) (hval : ∀ (j : Nat) t v, Try.f5.params[j]? = some t → args[j]? = some v → Value.okWide Try.prog W .any base t v) :
    Calls Try.prog 5 args W fun e W' => e = .returned (.bool true) ∧ Below W.heap.size W W' := by
  obtain ⟨l⟩ := args
  match l, hlen with
  | [v0, v1, v2, v3, v4, v5], _ =>
  obtain ⟨p, rfl, hp⟩ := open_key (hval 0 23 v0 rfl rfl)
  obtain ⟨a, rfl, ha⟩ := open_key (hval 1 23 v1 rfl rfl)
  obtain ⟨b, rfl, hb⟩ := open_key (hval 2 23 v2 rfl rfl)
  obtain ⟨n, rfl, hn⟩ := open_u8W Try.underlying5 (hval 3 5 v3 rfl rfl)
  obtain ⟨y, rfl, hy⟩ := open_u8W Try.underlying5 (hval 4 5 v4 rfl rfl)
  obtain ⟨c, rfl, hc⟩ := open_u8W Try.underlying5 (hval 5 5 v5 rfl rfl)
  by_cases h : y = 0
  · subst h
    exact noiseSpoilt_zero p a b n c W
  · have e : ((UInt8.ofNat y).toNat : Int) = (y : Int) := by rw [UInt8.toNat_ofNat']; omega
    have := noiseSpoilt_good p a b n c (UInt8.ofNat y) W hp ha hb (fun h0 => h (by have := congrArg UInt8.toNat h0; rw [UInt8.toNat_ofNat'] at this; simp at this; omega)) hn hc
    rw [e] at this
    exact this
end Go.Proofs.Ytakkicppgkmokaa
end
