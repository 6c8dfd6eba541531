/- Contracts of package noise: a talk at first. -/
import Derived.Test.YtakkicppgkmokaaJ19
set_option linter.unusedSimpArgs false
set_option linter.unusedVariables false
set_option maxRecDepth 4000
namespace Go.Proofs.Ytakkicppgkmokaa
open Go.RowKit
def nameL : List UInt8 := [78, 111, 105, 115, 101, 95, 78, 78, 112, 115, 107, 48, 95, 50, 53, 53, 49, 57, 95, 67, 104, 97, 67, 104, 97, 80, 111, 108, 121, 95, 83, 72, 65, 50, 53, 54]
attribute [local irreducible] shaK macL keysF keyN
def bothT (t : TalkT) (s : List UInt8) : TalkT := ⟨shaK (t.h ++ keyN (macL t.c s) [] 2), keyN (macL t.c s) [] 1, keyN (macL t.c s) [] 3, 0, t.s⟩
theorem bothT_ok {t : TalkT} (h : t.ok) (s : List UInt8) : (bothT t s).ok := ⟨shaK_length _, keyN_length _ _ 0, keyN_length _ _ 2, h.s, by simp [bothT]⟩
def firstT0 (secret : List UInt8) : TalkT := ⟨shaK (shaK nameL ++ []), shaK nameL, List.replicate 32 0, 0, secret⟩
theorem firstT0_ok (secret : List UInt8) (h : secret.length = 32) : (firstT0 secret).ok := ⟨shaK_length _, shaK_length _, by simp [firstT0], h, by simp [firstT0]⟩
def beginT (psk secret : List UInt8) : TalkT := bothT (firstT0 secret) psk
theorem beginT_ok (psk secret : List UInt8) (h : secret.length = 32) : (beginT psk secret).ok := bothT_ok (firstT0_ok secret h) psk
set_option maxRecDepth 20000 in
set_option maxHeartbeats 1000000 in
theorem begin_any (psk secret : List UInt8) (w : World) (hp : psk.length = 32) (hs : secret.length = 32) :
    Calls Try.prog 14 #[.agg (u8s psk).toArray, .agg (u8s secret).toArray] w fun e w' => ∃ S, e = .returned (.pointer (some ⟨S, 0, none⟩)) ∧ w.heap.size ≤ S ∧ S < w'.heap.size ∧ row w' S = (beginT psk secret).cells.toArray ∧ Below w.heap.size w w' := by
  have hyl := shaK_length nameL
  obtain ⟨y, hy⟩ : ∃ y, shaK nameL = y := ⟨_, rfl⟩
  rw [hy] at hyl
  go_enter Try.func14, Try.ntmps14
  go_wp2_with fail
  refine (sum_any nameL _ (by decide)).mono ?_
  rintro e w1 ⟨rfl, b1⟩
  have rP1 : row w1 w.heap.size = (u8s psk).toArray := by rw [row_below b1 (by simp only [alloc_sizeW]; omega)]; simp [go_sem]
  have rS1 : row w1 (w.heap.size + 1) = (u8s secret).toArray := by rw [row_below b1 (by simp only [alloc_sizeW]; omega)]; simp [go_sem]
  have z1 : w.heap.size + 1 < w1.heap.size := by have := b1.size; simp only [alloc_sizeW] at this; omega
  replace b1 := below_of b1 (show Below (w).heap.size w _ from by (repeat (first | exact Below.refl _ _ | refine Below.alloc ?_ (by first | (simp; done) | (simp; omega) | omega) _ | refine Below.drew ?_ | refine Below.setRow ?_ (by first | (simp; done) | (simp; omega) | omega) _ | refine Below.setCell ?_ (by first | (simp; done) | (simp; omega) | omega) _))) (by first | (simp; done) | (simp; omega) | omega)
  rw [hy]
  go_wp2_with fail
  obtain ⟨c0, hc0⟩ : ∃ c, (u8s y ++ (u8s y ++ (u8s [] ++ (zeros 32 (.int .u8 0) ++ .int .u64 0 :: u8s secret)))).toArray = c := ⟨_, rfl⟩
  have hcell : c0 = (⟨y, y, List.replicate 32 0, 0, secret⟩ : TalkT).cells.toArray := by
    rw [← hc0, TalkT.cells, u8s_zeros]
    rfl
  rw [hc0]
  obtain ⟨w2, hw2⟩ : ∃ v, (w1.alloc (.cells (u8s y).toArray 23)).alloc (.cells c0 59) = v := ⟨_, rfl⟩
  have z2 : w2.heap.size = w1.heap.size + 1 + 1 := by rw [← hw2, alloc_sizeW, alloc_sizeW]
  have r2 : row w2 (w1.heap.size + 1) = (⟨y, y, List.replicate 32 0, 0, secret⟩ : TalkT).cells.toArray := by
    rw [← hw2, row_alloc_at _ _ _ (by rw [alloc_sizeW]), hcell]
  have p2 : row w2 w.heap.size = (u8s psk).toArray := by
    rw [← hw2, row_alloc_past _ _ (by rw [alloc_sizeW]; omega), row_alloc_past _ _ (by omega)]
    exact rP1
  have b2 : Below w.heap.size w w2 := by rw [← hw2]; exact Below.alloc (Below.alloc b1 (by omega) _) (by rw [alloc_sizeW]; omega) _
  rw [hw2]
  clear hw2
  refine (tsum_any ⟨y, y, List.replicate 32 0, 0, secret⟩ [] (w1.heap.size + 1) w2 ⟨hyl, hyl, by simp, hs, by simp⟩ (by simp) r2).mono ?_
  rintro e w3 ⟨rfl, r3, b3⟩
  have z3 := b3.size
  have p3 := (b3.row (show w.heap.size < w2.heap.size by omega) (by omega)).trans p2
  have bb3 : Below w.heap.size w w3 := b2.trans ((b3.mono (by omega)).below (by omega))
  clear r2 p2 b2 b3
  go_wp2_with fail
  refine (text_any psk _ hp).mono ?_
  rintro e w4 ⟨rfl, b4⟩
  have z4 := b4.size
  have r4 := (row_below b4 (by omega)).trans r3
  have bb4 : Below w.heap.size w w4 := bb3.trans (b4.mono (by omega))
  go_wp2_with fail
  refine (both_any ⟨shaK (y ++ []), y, List.replicate 32 0, 0, secret⟩ psk (w1.heap.size + 1) w4 ⟨shaK_length _, hyl, by simp, hs, by simp⟩ (by omega) r4).mono ?_
  rintro e w5 ⟨rfl, r5, b5⟩
  have z5 := b5.size
  go_wp2_with fail
  go_ret
  refine ⟨w1.heap.size + 1, rfl, by omega, by omega, ?_, bb4.trans ((b5.mono (by omega)).below (by omega))⟩
  rw [r5, beginT, bothT, firstT0, hy]
end Go.Proofs.Ytakkicppgkmokaa
