/- Texts of this proof, merged: NoiL, NoiO. -/
import Derived.Test.YtcebllbikmgjpaaGreatJ35
import Derived.Test.YtcebllbikmgjpaaGreatJ37
set_option linter.unusedSimpArgs false
set_option linter.unusedVariables false
set_option maxHeartbeats 8000000
set_option maxRecDepth 20000
namespace Go.Proofs.YtcebllbikmgjpaaGreat
section
open Go.RowKit
attribute [local irreducible] shaK macL keysF keyN sealL nonceL
@[simp, go_sem] theorem u8s_nil0 : u8s [] = [] := rfl
def sealT (t : TalkT) : List UInt8 := sealL t.k (nonceL t.n) t.h []
def tookT (t : TalkT) (s : List UInt8) : TalkT := { t with h := shaK (t.h ++ s), n := t.n + 1 }
theorem tseal_any (t : TalkT) (S : Nat) (w : World) (ht : t.ok) (hn : t.n ≤ 50) (hl : (sealT t).length = 16) (hS : row w S = t.cells.toArray) :
  Calls Tryz.prog 153 #[.pointer (some ⟨S, 0, none⟩)] w fun e w' => e = .returned (.string ⟨(sealT t).toArray⟩) ∧ row w' S = (tookT t (sealT t)).cells.toArray ∧ BelowBut w.heap.size S w w' := by
 have zS : S < w.heap.size := lt_of_row (i := 0) (by rw [hS]; simp [TalkT.cells_length ht])
 obtain ⟨th, tc, tk, tn, ts⟩ := t
 have h1 := ht.h
 have h2 := ht.c
 have h3 := ht.k
 have h4 := ht.s
 simp only at h1 h2 h3 h4 hn
 unfold tookT sealT at *
 simp only at hl ⊢
 have HN := h_ (fun w => nonce_any tn w)
 have HT := h_ (fun w => text_any th w h1)
 have HA := h_ (fun w => seal_any tk (nonceL tn) th [] w h3 (nonceL_length tn) (by omega) (by simp))
 obtain ⟨c, hc⟩ : ∃ c, nonceL tn = c := ⟨_, rfl⟩
 rw [hc] at HN HA hl ⊢
 obtain ⟨x, hx⟩ : ∃ x, sealL tk c th [] = x := ⟨_, rfl⟩
 rw [hx] at HA hl ⊢
 clear hc hx
 have hw1 : IntKind.u64.wrap ((tn : Int) + 1) = ((tn + 1 : Nat) : Int) := by rw [IntKind.wrap_u64]; omega
 have hC : (⟨th, tc, tk, tn, ts⟩ : TalkT).cells = u8s th ++ (u8s tc ++ (u8s tk ++ (.int .u64 (tn : Int) :: u8s ts))) := rfl
 rw [hC] at hS
 have hRow := hS
 go_enter Tryz.func153, Tryz.ntmps153
 go_wp2_with fail
 refine rgR_ [(S, (u8s th ++ (u8s tc ++ (u8s tk ++ (.int .u64 (tn : Int) :: u8s ts)))).toArray)] (fun hS => ?_)
 refine qp 0 hS ?_
 refine qp 1 hS ?_
 refine qp 2 hS ?_
 refine qp 3 hS ?_
 refine qp 4 hS ?_
 refine qp 5 hS ?_
 refine qp 6 hS ?_
 refine qp 7 hS ?_
 refine qp 9 hS ?_
 refine qp 10 hS ?_
 refine qp 11 hS ?_
 refine qp 12 hS ?_
 refine qc 8 (v := ?_) hS ?_ ?_
 rotate_left
 ·
  intro w' hS'
  simp only [Rws] at hS'
  go_simp
  with_reducible refine (HN.out _).mono ?_
  rintro e w'' ⟨rfl, hb⟩
  exact ⟨_, rfl, by rfl, hb⟩
 refine qc 13 (v := ?_) hS ?_ ?_
 rotate_left
 ·
  intro w' hS'
  simp only [Rws] at hS'
  go_simp
  with_reducible refine (HT.out _).mono ?_
  rintro e w'' ⟨rfl, hb⟩
  exact ⟨_, rfl, by rfl, hb⟩
 refine qc 14 (v := ?_) hS ?_ ?_
 rotate_left
 ·
  intro w' hS'
  simp only [Rws] at hS'
  go_simp
  with_reducible refine (HA.out _).mono ?_
  rintro e w'' ⟨rfl, hb⟩
  exact ⟨_, rfl, by rfl, hb⟩
 refine qp 15 hS ?_
 refine qp 16 hS ?_
 refine qp 17 hS ?_
 refine qp 18 hS ?_
 refine qp 19 hS ?_
 refine wpAnyR_done kr_ (fun w1 b1 => ?_) _
 replace b1 : Below (w).heap.size (w) w1 := below_step (Below.drew (Below.refl _ _)) b1
 have z1 := b1.size
 have r1 := (row_below b1 zS).trans hRow
 have zS1 : S < w1.heap.size := by omega
 clear hS HN HT HA
 go_wp2_with fail
 have b2 : BelowBut w.heap.size S w (w1.setRow S (u8s th ++ (u8s tc ++ (u8s tk ++ (.int .u64 ((tn + 1 : Nat) : Int) :: u8s ts)))).toArray) := (BelowBut.of b1).trans (BelowBut.set _ _)
 have r2 : row (w1.setRow S (u8s th ++ (u8s tc ++ (u8s tk ++ (.int .u64 ((tn + 1 : Nat) : Int) :: u8s ts)))).toArray) S = (⟨th, tc, tk, tn + 1, ts⟩ : TalkT).cells.toArray := row_setRow_same (by rw [r1]; simp; omega) (by rw [r1]; simp)
 refine (tsum_any ⟨th, tc, tk, tn + 1, ts⟩ x S _ ⟨h1, h2, h3, h4, by simp only; omega⟩ (by omega) r2).mono ?_
 rintro e w3 ⟨rfl, r3, b3⟩
 go_wp2_with fail
 go_ret
 exact ⟨rfl, r3, b2.trans (b3.mono (by rw [setRow_size]; omega))⟩
end
section
open Go.RowKit
attribute [local irreducible] shaK macL keysF keyN sealL nonceL tagL maskL
def tagT (t : TalkT) : List UInt8 := tagL t.k (nonceL t.n) t.h []
theorem tagT_length (t : TalkT) : (tagT t).length = 16 := tagL_length _ _ _ _
theorem sealT_tagT (t : TalkT) : sealT t = tagT t := by
 have h : ∀ (k n : List UInt8), maskL k 1 n [] = [] := fun k n => List.eq_nil_of_length_eq_zero (maskL_length k 1 n [])
 rw [sealT, tagT, sealL, h, List.nil_append]
def openE (t : TalkT) (x : List UInt8) : Int := if tagT t = x then 0 else 5
theorem aopen_any (t : TalkT) (x : List UInt8) (ht : t.ok) (hx : x.length = 16) :
  ∃ s : List UInt8, ∀ w, Calls Tryz.prog 135 #[.agg (u8s t.k).toArray, .string ⟨(nonceL t.n).toArray⟩, .string ⟨t.h.toArray⟩, .string ⟨x.toArray⟩] w fun e w' => e = .returned (.tuple #[.string ⟨s.toArray⟩, .int .i64 (openE t x)]) ∧ Below w.heap.size w w' := by
 have h1 := ht.h
 by_cases h : tagT t = x
 ·
  refine ⟨maskL t.k 1 (nonceL t.n) [], fun w => ?_⟩
  rw [openE, if_pos h]
  exact open_yes t.k (nonceL t.n) t.h [] x w ht.k (nonceL_length _) (by omega) (by simp) hx h
 ·
  refine ⟨[], fun w => ?_⟩
  rw [openE, if_neg h]
  exact open_no t.k (nonceL t.n) t.h [] x w ht.k (nonceL_length _) (by omega) (by simp) hx h
theorem topen_any (t : TalkT) (x : List UInt8) (S : Nat) (w : World) (ht : t.ok) (hn : t.n ≤ 50) (hx : x.length = 16) (hS : row w S = t.cells.toArray) :
  Calls Tryz.prog 180 #[.pointer (some ⟨S, 0, none⟩), .string ⟨x.toArray⟩] w fun e w' => e = .returned (.int .i64 (openE t x)) ∧ row w' S = (tookT t x).cells.toArray ∧ BelowBut w.heap.size S w w' := by
 have zS : S < w.heap.size := lt_of_row (i := 0) (by rw [hS]; simp [TalkT.cells_length ht])
 obtain ⟨s, hA⟩ := aopen_any t x ht hx
 obtain ⟨E, hE⟩ : ∃ E, openE t x = E := ⟨_, rfl⟩
 rw [hE] at hA ⊢
 clear hE
 obtain ⟨th, tc, tk, tn, ts⟩ := t
 have h1 := ht.h
 have h2 := ht.c
 have h3 := ht.k
 have h4 := ht.s
 simp only at h1 h2 h3 h4 hn hA
 unfold tookT at *
 simp only
 have HN := h_ (fun w => nonce_any tn w)
 have HT := h_ (fun w => text_any th w h1)
 have HA := h_ hA
 clear hA
 obtain ⟨c, hc⟩ : ∃ c, nonceL tn = c := ⟨_, rfl⟩
 rw [hc] at HN HA
 clear hc
 have hw1 : IntKind.u64.wrap ((tn : Int) + 1) = ((tn + 1 : Nat) : Int) := by rw [IntKind.wrap_u64]; omega
 have hC : (⟨th, tc, tk, tn, ts⟩ : TalkT).cells = u8s th ++ (u8s tc ++ (u8s tk ++ (.int .u64 (tn : Int) :: u8s ts))) := rfl
 rw [hC] at hS
 have hRow := hS
 go_enter Tryz.func180, Tryz.ntmps180
 go_wp2_with fail
 refine rgR_ [(S, (u8s th ++ (u8s tc ++ (u8s tk ++ (.int .u64 (tn : Int) :: u8s ts)))).toArray)] (fun hS => ?_)
 refine qp 0 hS ?_
 refine qp 1 hS ?_
 refine qp 2 hS ?_
 refine qp 3 hS ?_
 refine qp 4 hS ?_
 refine qp 5 hS ?_
 refine qp 6 hS ?_
 refine qp 7 hS ?_
 refine qp 9 hS ?_
 refine qp 10 hS ?_
 refine qp 11 hS ?_
 refine qp 12 hS ?_
 refine qp 14 hS ?_
 refine qc 8 (v := ?_) hS ?_ ?_
 rotate_left
 ·
  intro w' hS'
  simp only [Rws] at hS'
  go_simp
  with_reducible refine (HN.out _).mono ?_
  rintro e w'' ⟨rfl, hb⟩
  exact ⟨_, rfl, by rfl, hb⟩
 refine qc 13 (v := ?_) hS ?_ ?_
 rotate_left
 ·
  intro w' hS'
  simp only [Rws] at hS'
  go_simp
  with_reducible refine (HT.out _).mono ?_
  rintro e w'' ⟨rfl, hb⟩
  exact ⟨_, rfl, by rfl, hb⟩
 refine qc 15 (v := ?_) hS ?_ ?_
 rotate_left
 ·
  intro w' hS'
  simp only [Rws] at hS'
  go_simp
  with_reducible refine (HA.out _).mono ?_
  rintro e w'' ⟨rfl, hb⟩
  exact ⟨_, rfl, by rfl, hb⟩
 refine qp 16 hS ?_
 refine qp 17 hS ?_
 refine qp 18 hS ?_
 refine qp 19 hS ?_
 refine qp 20 hS ?_
 refine wpAnyR_done kr_ (fun w1 b1 => ?_) _
 replace b1 : Below (w).heap.size (w) w1 := below_step (Below.drew (Below.refl _ _)) b1
 have z1 := b1.size
 have r1 := (row_below b1 zS).trans hRow
 have zS1 : S < w1.heap.size := by omega
 clear hS HN HT HA
 go_wp2_with fail
 have b2 : BelowBut w.heap.size S w (w1.setRow S (u8s th ++ (u8s tc ++ (u8s tk ++ (.int .u64 ((tn + 1 : Nat) : Int) :: u8s ts)))).toArray) := (BelowBut.of b1).trans (BelowBut.set _ _)
 have r2 : row (w1.setRow S (u8s th ++ (u8s tc ++ (u8s tk ++ (.int .u64 ((tn + 1 : Nat) : Int) :: u8s ts)))).toArray) S = (⟨th, tc, tk, tn + 1, ts⟩ : TalkT).cells.toArray := row_setRow_same (by rw [r1]; simp; omega) (by rw [r1]; simp)
 refine (tsum_any ⟨th, tc, tk, tn + 1, ts⟩ x S _ ⟨h1, h2, h3, h4, by simp only; omega⟩ (by omega) r2).mono ?_
 rintro e w3 ⟨rfl, r3, b3⟩
 go_wp2_with fail
 go_ret
 exact ⟨rfl, r3, b2.trans (b3.mono (by rw [setRow_size]; omega))⟩
def chainT (t : TalkT) (s : List UInt8) : TalkT := ⟨t.h, keyN (macL t.c s) [] 1, keyN (macL t.c s) [] 2, 0, t.s⟩
theorem chainT_ok {t : TalkT} (h : t.ok) (s : List UInt8) : (chainT t s).ok := ⟨h.h, keyN_length _ _ 0, keyN_length _ _ 1, h.s, by simp [chainT]⟩
theorem tookT_ok {t : TalkT} (h : t.ok) (hn : t.n ≤ 50) (s : List UInt8) : (tookT t s).ok := ⟨shaK_length _, h.c, h.k, h.s, by simp only [tookT]; omega⟩
end
end Go.Proofs.YtcebllbikmgjpaaGreat
