/- Package noise: talks that are alike but for the secret; the laws' own example. -/
import Derived.Test.YtakkicppgkmokaaGreatJ29
import Derived.Test.YtakkicppgkmokaaGreatJ32
import Derived.Test.YtakkicppgkmokaaGreatEdwKJ
set_option linter.unusedSimpArgs false
set_option linter.unusedVariables false
set_option maxRecDepth 4000
namespace Go.Proofs.YtakkicppgkmokaaGreat
open Go.RowKit
structure Like (t u : TalkT) : Prop where
 h : t.h = u.h
 c : t.c = u.c
 k : t.k = u.k
 n : t.n = u.n
theorem Like.rfl {t : TalkT} : Like t t := ⟨Eq.refl _, Eq.refl _, Eq.refl _, Eq.refl _⟩
theorem Like.met {t u : TalkT} (l : Like t u) (s : List UInt8) : Like (metT t s) (metT u s) := by
 unfold metT
 exact ⟨by simp only; rw [l.h], by simp only; rw [l.c], by simp only; rw [l.c], by simp only⟩
theorem Like.chain {t u : TalkT} (l : Like t u) (s : List UInt8) : Like (chainT t s) (chainT u s) := by
 unfold chainT
 exact ⟨by simp only; rw [l.h], by simp only; rw [l.c], by simp only; rw [l.c], by simp only⟩
theorem Like.took {t u : TalkT} (l : Like t u) (s : List UInt8) : Like (tookT t s) (tookT u s) := by
 unfold tookT
 exact ⟨by simp only; rw [l.h], by simp only; rw [l.c], by simp only; rw [l.k], by simp only; rw [l.n]⟩
theorem Like.tag {t u : TalkT} (l : Like t u) : tagT t = tagT u := by unfold tagT; rw [l.k, l.n, l.h]
theorem Like.keyA {t u : TalkT} (l : Like t u) : keyA t = keyA u := by unfold Go.Proofs.YtakkicppgkmokaaGreat.keyA; rw [l.c]
theorem Like.keyB {t u : TalkT} (l : Like t u) : keyB t = keyB u := by unfold Go.Proofs.YtakkicppgkmokaaGreat.keyB; rw [l.c]
theorem like_begin (psk a b : List UInt8) : Like (beginT psk b) (beginT psk a) := by
 unfold beginT firstT0 bothT
 exact ⟨Eq.refl _, Eq.refl _, Eq.refl _, Eq.refl _⟩
theorem hailT_s (psk a : List UInt8) : (hailT psk a).s = a := by
 unfold hailT greetT tookT metT beginT bothT firstT0
 simp only
theorem like_ans0 (psk a b : List UInt8) : Like (ansT0 psk b (pubL a)) (greetT psk a) := by
 unfold ansT0 greetT
 exact (like_begin psk a b).met _
theorem ans_opens (psk a b : List UInt8) : tagT (ansT0 psk b (pubL a)) = tagT (greetT psk a) := (like_ans0 psk a b).tag
theorem like_fin (psk a b : List UInt8) (ha : a.length = 32) (hb : b.length = 32) : Like (finT2 (hailT psk a) (pubL b)) (ansT3 psk b (pubL a) (tagT (greetT psk a))) := by
 unfold finT2 finT1 ansT3 ansT2 ansT1
 rw [hailT_s, show sharedK a (pubL b) = sharedK b (pubL a) from agree_two a b ha hb]
 unfold hailT
 have l := like_ans0 psk a b
 exact (Like.met (Like.took ⟨l.h.symm, l.c.symm, l.k.symm, l.n.symm⟩ _) _).chain _
theorem fin_opens (psk a b : List UInt8) (ha : a.length = 32) (hb : b.length = 32) : tagT (finT2 (hailT psk a) (pubL b)) = tagT (ansT3 psk b (pubL a) (tagT (greetT psk a))) := (like_fin psk a b ha hb).tag
theorem like_end (psk a b : List UInt8) (ha : a.length = 32) (hb : b.length = 32) : Like (finT3 (hailT psk a) (pubL b) (tagT (ansT3 psk b (pubL a) (tagT (greetT psk a))))) (ansT4 psk b (pubL a) (tagT (greetT psk a))) := by
 unfold finT3 ansT4
 exact (like_fin psk a b ha hb).took _
def greetL (psk a : List UInt8) : List UInt8 := pubL a ++ tagT (greetT psk a)
theorem greetL_length (psk a : List UInt8) : (greetL psk a).length = 48 := by rw [greetL, List.length_append, pubL_length, tagT_length]
def replyL (psk a b : List UInt8) : List UInt8 := ansL psk b (pubL a) (tagT (greetT psk a))
theorem replyL_length (psk a b : List UInt8) : (replyL psk a b).length = 48 := ansL_length _ _ _ _
def oneK (psk a b : List UInt8) : List UInt8 := keyA (ansT4 psk b (pubL a) (tagT (greetT psk a)))
def twoK (psk a b : List UInt8) : List UInt8 := keyB (ansT4 psk b (pubL a) (tagT (greetT psk a)))
theorem oneK_length (psk a b : List UInt8) : (oneK psk a b).length = 32 := keyA_length _
theorem twoK_length (psk a b : List UInt8) : (twoK psk a b).length = 32 := keyB_length _
section
attribute [local irreducible] shaK macL keysF keyN sealL nonceL tagL maskL sharedK metT tookT chainT beginT tagT pubL keyA keyB greetT hailT
theorem hello_any (psk a : List UInt8) (w : World) (hp : psk.length = 32) (ha : a.length = 32) :
  Calls Tryz.prog 7 #[.agg (u8s psk).toArray, .agg (u8s a).toArray] w fun e w' => ∃ S, e = .returned (.tuple #[.pointer (some ⟨S, 0, none⟩), .string ⟨(greetL psk a).toArray⟩]) ∧ w.heap.size ≤ S ∧ S < w'.heap.size ∧ row w' S = (hailT psk a).cells.toArray ∧ Below w.heap.size w w' := greet_any psk a w hp ha
theorem reply_any (psk a b : List UInt8) (w : World) (hp : psk.length = 32) (hb : b.length = 32) :
  Calls Tryz.prog 8 #[.agg (u8s psk).toArray, .agg (u8s b).toArray, .string ⟨(greetL psk a).toArray⟩] w fun e w' => e = .returned (.tuple #[.string ⟨(replyL psk a b).toArray⟩, .agg (u8s (twoK psk a b) ++ u8s (oneK psk a b)).toArray, .int .i64 0]) ∧ Below w.heap.size w w' :=
 answer_yes psk b (pubL a) (tagT (greetT psk a)) w hp hb (pubL_length _) (tagT_length _) (ans_opens psk a b)
theorem ends_any (psk a b : List UInt8) (S : Nat) (w : World) (ha : a.length = 32) (hb : b.length = 32) (hS : row w S = (hailT psk a).cells.toArray) :
  Calls Tryz.prog 79 #[.pointer (some ⟨S, 0, none⟩), .string ⟨(replyL psk a b).toArray⟩] w fun e w' => e = .returned (.tuple #[.agg (u8s (oneK psk a b) ++ u8s (twoK psk a b)).toArray, .int .i64 0]) ∧ Below w.heap.size w w' := by
 have h := finish_yes (hailT psk a) (pubL b) (tagT (ansT3 psk b (pubL a) (tagT (greetT psk a)))) S w (hailT_ok psk a ha) (pubL_length _) (tagT_length _) hS (fin_opens psk a b ha hb)
 rw [(like_end psk a b ha hb).keyA, (like_end psk a b ha hb).keyB] at h
 exact h
end
attribute [local irreducible] greetL hailT
end Go.Proofs.YtakkicppgkmokaaGreat
