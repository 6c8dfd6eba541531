/- Package noise: talks that are alike but for the secret; the laws' own example. -/
import Derived.Test.YtakkicppgkmokaaGreatJ21
import Derived.Test.YtakkicppgkmokaaGreatJ24
import Derived.Test.YtakkicppgkmokaaGreatJ30
set_option linter.unusedSimpArgs false
set_option linter.unusedVariables false
set_option maxRecDepth 4000
namespace Go.Proofs.YtakkicppgkmokaaGreat
open Go.RowKit
structure Like (t u : TalkT) : Prop where
 h : t.h = u.h
 c : t.c = u.c
 k : t.k = u.k
 n : t.n = u.n
theorem Like.rfl {t : TalkT} : Like t t := ⟨Eq.refl _, Eq.refl _, Eq.refl _, Eq.refl _⟩
theorem Like.met {t u : TalkT} (l : Like t u) (s : List UInt8) : Like (metT t s) (metT u s) := by
 unfold metT
 exact ⟨by simp only; rw [l.h], by simp only; rw [l.c], by simp only; rw [l.c], by simp only⟩
theorem Like.chain {t u : TalkT} (l : Like t u) (s : List UInt8) : Like (chainT t s) (chainT u s) := by
 unfold chainT
 exact ⟨by simp only; rw [l.h], by simp only; rw [l.c], by simp only; rw [l.c], by simp only⟩
theorem Like.took {t u : TalkT} (l : Like t u) (s : List UInt8) : Like (tookT t s) (tookT u s) := by
 unfold tookT
 exact ⟨by simp only; rw [l.h], by simp only; rw [l.c], by simp only; rw [l.k], by simp only; rw [l.n]⟩
theorem Like.tag {t u : TalkT} (l : Like t u) : tagT t = tagT u := by unfold tagT; rw [l.k, l.n, l.h]
theorem Like.keyA {t u : TalkT} (l : Like t u) : keyA t = keyA u := by unfold Go.Proofs.YtakkicppgkmokaaGreat.keyA; rw [l.c]
theorem Like.keyB {t u : TalkT} (l : Like t u) : keyB t = keyB u := by unfold Go.Proofs.YtakkicppgkmokaaGreat.keyB; rw [l.c]
theorem like_begin (psk a b : List UInt8) : Like (beginT psk b) (beginT psk a) := by
 unfold beginT firstT0 bothT
 exact ⟨Eq.refl _, Eq.refl _, Eq.refl _, Eq.refl _⟩
theorem like_ans0 (psk a b : List UInt8) : Like (ansT0 psk b (pubL a)) (greetT psk a) := by
 unfold ansT0 greetT
 exact (like_begin psk a b).met _
theorem ans_opens (psk a b : List UInt8) : tagT (ansT0 psk b (pubL a)) = tagT (greetT psk a) := (like_ans0 psk a b).tag
def greetL (psk a : List UInt8) : List UInt8 := pubL a ++ tagT (greetT psk a)
theorem greetL_length (psk a : List UInt8) : (greetL psk a).length = 48 := by rw [greetL, List.length_append, pubL_length, tagT_length]
def replyL (psk a b : List UInt8) : List UInt8 := ansL psk b (pubL a) (tagT (greetT psk a))
def oneK (psk a b : List UInt8) : List UInt8 := keyA (ansT4 psk b (pubL a) (tagT (greetT psk a)))
def twoK (psk a b : List UInt8) : List UInt8 := keyB (ansT4 psk b (pubL a) (tagT (greetT psk a)))
theorem oneK_length (psk a b : List UInt8) : (oneK psk a b).length = 32 := keyA_length _
theorem twoK_length (psk a b : List UInt8) : (twoK psk a b).length = 32 := keyB_length _
section
attribute [local irreducible] shaK macL keysF keyN sealL nonceL tagL maskL sharedK metT tookT chainT beginT tagT pubL keyA keyB greetT hailT
theorem hello_any (psk a : List UInt8) (w : World) (hp : psk.length = 32) (ha : a.length = 32) :
  Calls Tryz.prog 7 #[.agg (u8s psk).toArray, .agg (u8s a).toArray] w fun e w' => ∃ S, e = .returned (.tuple #[.pointer (some ⟨S, 0, none⟩), .string ⟨(greetL psk a).toArray⟩]) ∧ w.heap.size ≤ S ∧ S < w'.heap.size ∧ row w' S = (hailT psk a).cells.toArray ∧ Below w.heap.size w w' := greet_any psk a w hp ha
theorem reply_any (psk a b : List UInt8) (w : World) (hp : psk.length = 32) (hb : b.length = 32) :
  Calls Tryz.prog 8 #[.agg (u8s psk).toArray, .agg (u8s b).toArray, .string ⟨(greetL psk a).toArray⟩] w fun e w' => e = .returned (.tuple #[.string ⟨(replyL psk a b).toArray⟩, .agg (u8s (twoK psk a b) ++ u8s (oneK psk a b)).toArray, .int .i64 0]) ∧ Below w.heap.size w w' :=
 answer_yes psk b (pubL a) (tagT (greetT psk a)) w hp hb (pubL_length _) (tagT_length _) (ans_opens psk a b)
end
attribute [local irreducible] greetL hailT
set_option maxRecDepth 20000 in
set_option maxHeartbeats 1000000 in
theorem awake13_any (w : World) : Calls Tryz.prog 6 #[] w fun e w' => e = .returned (.bool true) ∧ Below w.heap.size w w' := by
 have H1 : ∀ w, Calls Tryz.prog 7 #[.agg (zeros 32 (.int .u8 0)).toArray, .agg (u8s (1 :: List.replicate 31 0)).toArray] w fun e w' => ∃ S, e = .returned (.tuple #[.pointer (some ⟨S, 0, none⟩), .string ⟨(greetL (List.replicate 32 0) (1 :: List.replicate 31 0)).toArray⟩]) ∧ w.heap.size ≤ S ∧ S < w'.heap.size ∧ row w' S = (hailT (List.replicate 32 0) (1 :: List.replicate 31 0)).cells.toArray ∧ Below w.heap.size w w' := fun w => by
  have := hello_any (List.replicate 32 0) (1 :: List.replicate 31 0) w rfl rfl
  rw [u8s_zeros] at this
  exact this
 have hl := greetL_length (List.replicate 32 0) (1 :: List.replicate 31 0)
 obtain ⟨g, hg⟩ : ∃ g, greetL (List.replicate 32 0) (1 :: List.replicate 31 0) = g := ⟨_, rfl⟩
 rw [hg] at H1 hl
 have hlI : (g.length : Int) = 48 := by omega
 have K1 := Lib.hid H1
 have HL := Lib.hid hl
 clear H1 hg hl
 go_enter Tryz.func6, Tryz.ntmps6
 go_wp2_with fail
 refine (K1.out _).mono ?_
 rintro e w1 ⟨S, rfl, gS, zS, rS, b1⟩
 go_wp2_with fail
 go_ret
 exact ⟨rfl, b1⟩
end Go.Proofs.YtakkicppgkmokaaGreat
