/- Package link: a tick of an end with a session in use. -/
import Derived.Test.YtakkicppgkmokaaGreatJ44
import Derived.Test.YtakkicppgkmokaaGreatJ47
set_option linter.unusedSimpArgs false
set_option linter.unusedVariables false
set_option maxRecDepth 4000
namespace Go.Proofs.YtakkicppgkmokaaGreat
open Go.RowKit
section
attribute [local irreducible] sealL nonceL tagL maskL greetL hailT
variable (psk sec : List UInt8) (g : Bool) (r k p d now asked made last : Int) (A : Nat) (b c talk : Option Addr) (S : Nat) (w : World) (hp : psk.length = 32)
include hp
theorem greet_off (hS : row w S = (⟨psk, false, r, k, p, d, now, none, b, c, talk, asked, made, last⟩ : LinkT).cells.toArray) :
  Calls Tryz.prog 45 #[.pointer (some ⟨S, 0, none⟩), .agg (u8s sec).toArray] w fun e w' => e = .returned (.slice none 0 0) ∧ Below w.heap.size w w' := by
 have zS : S < w.heap.size := lt_of_row (i := 0) (by rw [hS]; simp [LinkT.cells, hp])
 unfold LinkT.cells at hS
 dsimp only at hS
 go_enter Tryz.func45, Tryz.ntmps45
 obtain ⟨W, hW⟩ : ∃ v, w.alloc (.cells (u8s sec).toArray 23) = v := ⟨_, rfl⟩
 have bW : Below w.heap.size w W := by rw [← hW]; exact Below.alloc (Below.refl _ _) (Nat.le_refl _) _
 have rS := (row_below bW zS).trans hS
 clear hS
 go_wp2_with fail
 (try rw [hW])
 (try clear hW)
 go_quiet (fail)
 go_wp2_with fail
 go_quiet (fail)
 go_wp2_with fail
 go_ret
 exact ⟨rfl, bW.trans ((below_drewN (below_drewN (Below.refl _ _) _) _).mono bW.size)⟩
theorem tick_quiet (s : SessT) (hs : s.ok) (hc : s.count < 1099511627776) (hA : A ≠ S) (hsec : sec.length = 32) (hn : 0 ≤ now ∧ now ≤ 10000000) (hb0 : 0 ≤ s.born ∧ s.born ≤ 10000000) (ht0 : 0 ≤ s.taken ∧ s.taken ≤ 10000000) (he0 : 0 ≤ s.sent ∧ s.sent ≤ 10000000) (hk2 : k ≤ 70000) (h1 : now + 1 - s.taken < d) (h2 : now + 1 - s.born < k) (h3 : now + 1 - s.sent < p)
  (hS : row w S = (⟨psk, g, r, k, p, d, now, (some ⟨A, 0, none⟩), b, c, talk, asked, made, last⟩ : LinkT).cells.toArray) (hT : row w A = s.cells.toArray) :
  Calls Tryz.prog 16 #[.pointer (some ⟨S, 0, none⟩), .agg (u8s sec).toArray] w fun e w' => e = .returned (.slice none 0 0) ∧ row w' S = (⟨psk, g, r, k, p, d, (now + 1), (some ⟨A, 0, none⟩), b, c, talk, asked, made, last⟩ : LinkT).cells.toArray ∧ row w' A = s.cells.toArray ∧ BelowBut w.heap.size S w w' := by
 have zS : S < w.heap.size := lt_of_row (i := 0) (by rw [hS]; simp [LinkT.cells, hp])
 have zA : A < w.heap.size := lt_of_row (i := 0) (by rw [hT]; simp [SessT.cells, hs.k1, hs.k2])
 have HG := Lib.hid (fun w hS hT => greet_quiet psk sec g r k p d (now + 1) asked made last A b c talk S w hp s hs h2 (by omega) (by omega) hk2 hS hT)
 obtain ⟨hk1, hkk⟩ := hs
 obtain ⟨k1, k2, id, n, top, bits, sm, born, sent, taken⟩ := s
 dsimp only at *
 have HT0 := Lib.hid hT
 unfold SessT.cells at hT
 unfold LinkT.cells at hS
 dsimp only at hT hS
 have hw1 : wrap64 (now + 1) = now + 1 := by unfold wrap64; omega
 have hw2 : IntKind.i64.wrap (now + 1) = now + 1 := by rw [IntKind.wrap_i64]; omega
 have hw3 : wrap64 (now + 1 - taken) = now + 1 - taken := by unfold wrap64; omega
 have hw4 : IntKind.i64.wrap (now + 1 - taken) = now + 1 - taken := by rw [IntKind.wrap_i64]; omega
 have hw5 : wrap64 (now + 1 - sent) = now + 1 - sent := by unfold wrap64; omega
 have hw6 : IntKind.i64.wrap (now + 1 - sent) = now + 1 - sent := by rw [IntKind.wrap_i64]; omega
 go_enter Tryz.func16, Tryz.ntmps16
 obtain ⟨W, hW⟩ : ∃ v, w.alloc (.cells (u8s sec).toArray 23) = v := ⟨_, rfl⟩
 have bW : Below w.heap.size w W := by rw [← hW]; exact Below.alloc (Below.refl _ _) (Nat.le_refl _) _
 have zW : W.heap.size = w.heap.size + 1 := by rw [← hW, alloc_sizeW]
 have rK : row W w.heap.size = (u8s sec).toArray := by rw [← hW]; exact row_alloc_at _ _ _ rfl
 have rS := (row_below bW zS).trans hS
 have rT := (row_below bW zA).trans hT
 obtain ⟨W1, hW1⟩ : ∃ v, W.setRow S (u8s psk ++ [Value.bool g, .int .i64 r, .int .i64 k, .int .i64 p, .int .i64 d, .int .i64 (now + 1), .pointer (some ⟨A, 0, none⟩), .pointer b, .pointer c, .pointer talk, .int .i64 asked, .int .i64 made, .int .i64 last]).toArray = v := ⟨_, rfl⟩
 have r1 : row W1 S = (u8s psk ++ [Value.bool g, .int .i64 r, .int .i64 k, .int .i64 p, .int .i64 d, .int .i64 (now + 1), .pointer (some ⟨A, 0, none⟩), .pointer b, .pointer c, .pointer talk, .int .i64 asked, .int .i64 made, .int .i64 last]).toArray := by rw [← hW1]; exact row_setRow_same (by rw [rS]; simp) (by rw [rS]; simp)
 have t1 := (row_setRow_other (w := W) S A (u8s psk ++ [Value.bool g, .int .i64 r, .int .i64 k, .int .i64 p, .int .i64 d, .int .i64 (now + 1), .pointer (some ⟨A, 0, none⟩), .pointer b, .pointer c, .pointer talk, .int .i64 asked, .int .i64 made, .int .i64 last]).toArray hA).trans rT
 have k1r := (row_setRow_other (w := W) S w.heap.size (u8s psk ++ [Value.bool g, .int .i64 r, .int .i64 k, .int .i64 p, .int .i64 d, .int .i64 (now + 1), .pointer (some ⟨A, 0, none⟩), .pointer b, .pointer c, .pointer talk, .int .i64 asked, .int .i64 made, .int .i64 last]).toArray (by omega)).trans rK
 rw [hW1] at t1 k1r
 have z1 : W1.heap.size = W.heap.size := by rw [← hW1, setRow_size]
 have b1 : BelowBut w.heap.size S w W1 := by rw [← hW1]; exact (BelowBut.of bW).trans (BelowBut.set _ _)
 have HZ1 := Lib.hid z1
 have HZW := Lib.hid zW
 clear hS hT z1 zW hc
 go_wp2_with fail
 (try rw [hW])
 (try clear hW)
 go_wp2_with fail
 (try rw [hW1])
 (try clear hW1)
 clear rS rT rK
 have q1 := decide_eq_false (show ¬ d ≤ now + 1 - taken by omega)
 have q3 := decide_eq_false (show ¬ p ≤ now + 1 - sent by omega)
 have q1n : ¬ d ≤ now + 1 - taken := by omega
 have q3n : ¬ p ≤ now + 1 - sent := by omega
 go_quiet (fail)
 go_wp2_with fail
 refine (HG.out _ ?_ ?_).mono ?_
 ·
  exact r1
 ·
  exact t1
 rintro e w2 ⟨rfl, b2⟩
 have z2 := b2.size
 have zW1 : w.heap.size + 1 ≤ w2.heap.size := by have h1 := HZ1.out; have h2 := HZW.out; have h3 : (W1.drewN _).heap.size ≤ w2.heap.size := z2; have h4 : W1.heap.size ≤ w2.heap.size := h3; omega
 have b12 : Below W1.heap.size W1 w2 := Below.trans (below_drewN (Below.refl _ W1) _) b2
 have r2 := (row_below b12 (by rw [HZ1.out, HZW.out]; omega)).trans r1
 have t2 := (row_below b12 (by rw [HZ1.out, HZW.out]; omega)).trans t1
 clear r1 t1 b2
 go_wp2_with fail
 go_quiet (fail)
 go_wp2_with fail
 go_ret
 exact ⟨rfl, r2, t2, (b1.trans ((BelowBut.of b12).mono (by rw [HZ1.out, HZW.out]; omega))).trans (BelowBut.of (below_drewN (Below.refl w.heap.size w2) _))⟩
theorem tick_keep (s : SessT) (hs : s.ok) (hc : s.count < 1099511627776) (hA : A ≠ S) (hsec : sec.length = 32) (hn : 0 ≤ now ∧ now ≤ 10000000) (hb0 : 0 ≤ s.born ∧ s.born ≤ 10000000) (ht0 : 0 ≤ s.taken ∧ s.taken ≤ 10000000) (he0 : 0 ≤ s.sent ∧ s.sent ≤ 10000000) (hk2 : k ≤ 70000) (h1 : now + 1 - s.taken < d) (h2 : now + 1 - s.born < k) (h3 : p ≤ now + 1 - s.sent)
  (hS : row w S = (⟨psk, g, r, k, p, d, now, (some ⟨A, 0, none⟩), b, c, talk, asked, made, last⟩ : LinkT).cells.toArray) (hT : row w A = s.cells.toArray) :
  Calls Tryz.prog 16 #[.pointer (some ⟨S, 0, none⟩), .agg (u8s sec).toArray] w fun e w' => (∃ v, e = .returned v) ∧ row w' S = (⟨psk, g, r, k, p, d, (now + 1), (some ⟨A, 0, none⟩), b, c, talk, asked, made, last⟩ : LinkT).cells.toArray ∧ row w' A = ({ s with count := s.count + 1, sent := now + 1 } : SessT).cells.toArray ∧ BelowS w.heap.size [S, A] w w' := by
 have zS : S < w.heap.size := lt_of_row (i := 0) (by rw [hS]; simp [LinkT.cells, hp])
 have zA : A < w.heap.size := lt_of_row (i := 0) (by rw [hT]; simp [SessT.cells, hs.k1, hs.k2])
 have HG := Lib.hid (fun w hS hT => greet_quiet psk sec g r k p d (now + 1) asked made last A b c talk S w hp s hs h2 (by omega) (by omega) hk2 hS hT)
 have HI := Lib.hid (fun w hS hT => idle_any psk g r k p d (now + 1) asked made last A b c talk S w hp s hs hc hA hS hT)
 obtain ⟨hk1, hkk⟩ := hs
 obtain ⟨k1, k2, id, n, top, bits, sm, born, sent, taken⟩ := s
 dsimp only at *
 have HT0 := Lib.hid hT
 unfold SessT.cells at hT
 unfold LinkT.cells at hS
 dsimp only at hT hS
 have hw1 : wrap64 (now + 1) = now + 1 := by unfold wrap64; omega
 have hw2 : IntKind.i64.wrap (now + 1) = now + 1 := by rw [IntKind.wrap_i64]; omega
 have hw3 : wrap64 (now + 1 - taken) = now + 1 - taken := by unfold wrap64; omega
 have hw4 : IntKind.i64.wrap (now + 1 - taken) = now + 1 - taken := by rw [IntKind.wrap_i64]; omega
 have hw5 : wrap64 (now + 1 - sent) = now + 1 - sent := by unfold wrap64; omega
 have hw6 : IntKind.i64.wrap (now + 1 - sent) = now + 1 - sent := by rw [IntKind.wrap_i64]; omega
 go_enter Tryz.func16, Tryz.ntmps16
 obtain ⟨W, hW⟩ : ∃ v, w.alloc (.cells (u8s sec).toArray 23) = v := ⟨_, rfl⟩
 have bW : Below w.heap.size w W := by rw [← hW]; exact Below.alloc (Below.refl _ _) (Nat.le_refl _) _
 have zW : W.heap.size = w.heap.size + 1 := by rw [← hW, alloc_sizeW]
 have rK : row W w.heap.size = (u8s sec).toArray := by rw [← hW]; exact row_alloc_at _ _ _ rfl
 have rS := (row_below bW zS).trans hS
 have rT := (row_below bW zA).trans hT
 obtain ⟨W1, hW1⟩ : ∃ v, W.setRow S (u8s psk ++ [Value.bool g, .int .i64 r, .int .i64 k, .int .i64 p, .int .i64 d, .int .i64 (now + 1), .pointer (some ⟨A, 0, none⟩), .pointer b, .pointer c, .pointer talk, .int .i64 asked, .int .i64 made, .int .i64 last]).toArray = v := ⟨_, rfl⟩
 have r1 : row W1 S = (u8s psk ++ [Value.bool g, .int .i64 r, .int .i64 k, .int .i64 p, .int .i64 d, .int .i64 (now + 1), .pointer (some ⟨A, 0, none⟩), .pointer b, .pointer c, .pointer talk, .int .i64 asked, .int .i64 made, .int .i64 last]).toArray := by rw [← hW1]; exact row_setRow_same (by rw [rS]; simp) (by rw [rS]; simp)
 have t1 := (row_setRow_other (w := W) S A (u8s psk ++ [Value.bool g, .int .i64 r, .int .i64 k, .int .i64 p, .int .i64 d, .int .i64 (now + 1), .pointer (some ⟨A, 0, none⟩), .pointer b, .pointer c, .pointer talk, .int .i64 asked, .int .i64 made, .int .i64 last]).toArray hA).trans rT
 have k1r := (row_setRow_other (w := W) S w.heap.size (u8s psk ++ [Value.bool g, .int .i64 r, .int .i64 k, .int .i64 p, .int .i64 d, .int .i64 (now + 1), .pointer (some ⟨A, 0, none⟩), .pointer b, .pointer c, .pointer talk, .int .i64 asked, .int .i64 made, .int .i64 last]).toArray (by omega)).trans rK
 rw [hW1] at t1 k1r
 have z1 : W1.heap.size = W.heap.size := by rw [← hW1, setRow_size]
 have b1 : BelowBut w.heap.size S w W1 := by rw [← hW1]; exact (BelowBut.of bW).trans (BelowBut.set _ _)
 have HZ1 := Lib.hid z1
 have HZW := Lib.hid zW
 clear hS hT z1 zW hc
 go_wp2_with fail
 (try rw [hW])
 (try clear hW)
 go_wp2_with fail
 (try rw [hW1])
 (try clear hW1)
 clear rS rT rK
 have q1 := decide_eq_false (show ¬ d ≤ now + 1 - taken by omega)
 have q3 := decide_eq_true h3
 have q1n : ¬ d ≤ now + 1 - taken := by omega
 go_quiet (fail)
 go_wp2_with fail
 refine (HG.out _ ?_ ?_).mono ?_
 ·
  exact r1
 ·
  exact t1
 rintro e w2 ⟨rfl, b2⟩
 have z2 := b2.size
 have zW1 : w.heap.size + 1 ≤ w2.heap.size := by have h1 := HZ1.out; have h2 := HZW.out; have h3 : (W1.drewN _).heap.size ≤ w2.heap.size := z2; have h4 : W1.heap.size ≤ w2.heap.size := h3; omega
 have b12 : Below W1.heap.size W1 w2 := Below.trans (below_drewN (Below.refl _ W1) _) b2
 have r2 := (row_below b12 (by rw [HZ1.out, HZW.out]; omega)).trans r1
 have t2 := (row_below b12 (by rw [HZ1.out, HZW.out]; omega)).trans t1
 have B2 : BelowS w.heap.size [S, A] w w2 := (BelowS.one b1 (by simp)).trans ((BelowS.of b12).mono (by rw [HZ1.out, HZW.out]; omega))
 clear r1 t1 b2 b1 b12 z2
 go_wp2_with fail
 go_quiet (fail)
 go_wp2_with fail
 refine (HI.out _ ?_ ?_).mono ?_
 ·
  exact r2
 ·
  exact t2
 rintro e w3 ⟨q, rfl, rq, gq, zq, rT3, b3⟩
 have b23 : BelowBut w2.heap.size A w2 w3 := (BelowBut.of (below_drewN (Below.refl _ w2) _)).trans b3
 have z3 : w2.heap.size ≤ w3.heap.size := b23.size
 have r3 := (b23.row (by omega) (Ne.symm hA)).trans r2
 have B3 := B2.trans ((BelowS.one b23 (by simp)).mono (show w.heap.size ≤ w2.heap.size by omega))
 clear b3 r2 t2 b23 B2
 have fin : ∀ W, Below w3.heap.size w3 W → row W S = _ ∧ row W A = _ ∧ BelowS w.heap.size [S, A] w W := fun W hW => ⟨(row_below hW (by omega)).trans r3, (row_below hW (by omega)).trans rT3, B3.trans ((BelowS.of hW).mono (by omega))⟩
 have FIN := Lib.hid fin
 clear fin
 go_wp2_with fail
 go_ret
 exact ⟨⟨_, rfl⟩, FIN.out _ (by (repeat (first | exact Below.refl _ _ | refine Below.al ?_ _ | refine Below.drew ?_ | refine Below.sr ?_ _ | refine Below.sc ?_ _)))⟩
theorem tick_dead_t (s : SessT) (hs : s.ok) (hc : s.count < 1099511627776) (hA : A ≠ S) (hsec : sec.length = 32) (hn : 0 ≤ now ∧ now ≤ 10000000) (hb0 : 0 ≤ s.born ∧ s.born ≤ 10000000) (ht0 : 0 ≤ s.taken ∧ s.taken ≤ 10000000) (he0 : 0 ≤ s.sent ∧ s.sent ≤ 10000000) (hk2 : k ≤ 70000) (h1 : d ≤ now + 1 - s.taken)
  (hS : row w S = (⟨psk, true, r, k, p, d, now, (some ⟨A, 0, none⟩), b, c, none, asked, made, last⟩ : LinkT).cells.toArray) (hT : row w A = s.cells.toArray) :
  Calls Tryz.prog 16 #[.pointer (some ⟨S, 0, none⟩), .agg (u8s sec).toArray] w fun e w' => (∃ v, e = .returned v) ∧ (∃ tk ask2, row w' S = (⟨psk, true, r, k, p, d, (now + 1), none, b, c, tk, ask2, made, last⟩ : LinkT).cells.toArray) ∧ BelowBut w.heap.size S w w' := by
 have zS : S < w.heap.size := lt_of_row (i := 0) (by rw [hS]; simp [LinkT.cells, hp])
 have zA : A < w.heap.size := lt_of_row (i := 0) (by rw [hT]; simp [SessT.cells, hs.k1, hs.k2])
 have HG := Lib.hid (fun w hS => lgreet_go psk sec r k p d (now + 1) asked made last b c S w hp hsec hS)
 obtain ⟨hk1, hkk⟩ := hs
 obtain ⟨k1, k2, id, n, top, bits, sm, born, sent, taken⟩ := s
 dsimp only at *
 have HT0 := Lib.hid hT
 unfold SessT.cells at hT
 unfold LinkT.cells at hS
 dsimp only at hT hS
 have hw1 : wrap64 (now + 1) = now + 1 := by unfold wrap64; omega
 have hw2 : IntKind.i64.wrap (now + 1) = now + 1 := by rw [IntKind.wrap_i64]; omega
 have hw3 : wrap64 (now + 1 - taken) = now + 1 - taken := by unfold wrap64; omega
 have hw4 : IntKind.i64.wrap (now + 1 - taken) = now + 1 - taken := by rw [IntKind.wrap_i64]; omega
 have hw5 : wrap64 (now + 1 - sent) = now + 1 - sent := by unfold wrap64; omega
 have hw6 : IntKind.i64.wrap (now + 1 - sent) = now + 1 - sent := by rw [IntKind.wrap_i64]; omega
 go_enter Tryz.func16, Tryz.ntmps16
 obtain ⟨W, hW⟩ : ∃ v, w.alloc (.cells (u8s sec).toArray 23) = v := ⟨_, rfl⟩
 have bW : Below w.heap.size w W := by rw [← hW]; exact Below.alloc (Below.refl _ _) (Nat.le_refl _) _
 have zW : W.heap.size = w.heap.size + 1 := by rw [← hW, alloc_sizeW]
 have rK : row W w.heap.size = (u8s sec).toArray := by rw [← hW]; exact row_alloc_at _ _ _ rfl
 have rS := (row_below bW zS).trans hS
 have rT := (row_below bW zA).trans hT
 obtain ⟨W1, hW1⟩ : ∃ v, W.setRow S (u8s psk ++ [Value.bool true, .int .i64 r, .int .i64 k, .int .i64 p, .int .i64 d, .int .i64 (now + 1), .pointer (some ⟨A, 0, none⟩), .pointer b, .pointer c, .pointer none, .int .i64 asked, .int .i64 made, .int .i64 last]).toArray = v := ⟨_, rfl⟩
 have r1 : row W1 S = (u8s psk ++ [Value.bool true, .int .i64 r, .int .i64 k, .int .i64 p, .int .i64 d, .int .i64 (now + 1), .pointer (some ⟨A, 0, none⟩), .pointer b, .pointer c, .pointer none, .int .i64 asked, .int .i64 made, .int .i64 last]).toArray := by rw [← hW1]; exact row_setRow_same (by rw [rS]; simp) (by rw [rS]; simp)
 have t1 := (row_setRow_other (w := W) S A (u8s psk ++ [Value.bool true, .int .i64 r, .int .i64 k, .int .i64 p, .int .i64 d, .int .i64 (now + 1), .pointer (some ⟨A, 0, none⟩), .pointer b, .pointer c, .pointer none, .int .i64 asked, .int .i64 made, .int .i64 last]).toArray hA).trans rT
 have k1r := (row_setRow_other (w := W) S w.heap.size (u8s psk ++ [Value.bool true, .int .i64 r, .int .i64 k, .int .i64 p, .int .i64 d, .int .i64 (now + 1), .pointer (some ⟨A, 0, none⟩), .pointer b, .pointer c, .pointer none, .int .i64 asked, .int .i64 made, .int .i64 last]).toArray (by omega)).trans rK
 rw [hW1] at t1 k1r
 have z1 : W1.heap.size = W.heap.size := by rw [← hW1, setRow_size]
 have b1 : BelowBut w.heap.size S w W1 := by rw [← hW1]; exact (BelowBut.of bW).trans (BelowBut.set _ _)
 have HZ1 := Lib.hid z1
 have HZW := Lib.hid zW
 clear hS hT z1 zW hc
 go_wp2_with fail
 (try rw [hW])
 (try clear hW)
 go_wp2_with fail
 (try rw [hW1])
 (try clear hW1)
 clear rS rT rK
 have q1 := decide_eq_true h1
 obtain ⟨W2, hW2⟩ : ∃ v, W1.setRow S (u8s psk ++ [Value.bool true, .int .i64 r, .int .i64 k, .int .i64 p, .int .i64 d, .int .i64 (now + 1), .pointer none, .pointer b, .pointer c, .pointer none, .int .i64 asked, .int .i64 made, .int .i64 last]).toArray = v := ⟨_, rfl⟩
 have r2 : row W2 S = (u8s psk ++ [Value.bool true, .int .i64 r, .int .i64 k, .int .i64 p, .int .i64 d, .int .i64 (now + 1), .pointer none, .pointer b, .pointer c, .pointer none, .int .i64 asked, .int .i64 made, .int .i64 last]).toArray := by rw [← hW2]; exact row_setRow_same (by rw [r1]; simp) (by rw [r1]; simp)
 have z2 : W2.heap.size = W1.heap.size := by rw [← hW2, setRow_size]
 have b2 : BelowBut w.heap.size S w W2 := by rw [← hW2]; exact b1.trans (BelowBut.set _ _)
 have HZ2 := Lib.hid z2
 have k2r := (row_setRow_other (w := W1) S w.heap.size (u8s psk ++ [Value.bool true, .int .i64 r, .int .i64 k, .int .i64 p, .int .i64 d, .int .i64 (now + 1), .pointer none, .pointer b, .pointer c, .pointer none, .int .i64 asked, .int .i64 made, .int .i64 last]).toArray (by omega)).trans k1r
 rw [hW2] at k2r
 clear z2
 go_quiet (fail)
 go_wp2_with fail
 (try rw [hW2])
 (try clear hW2)
 clear r1 t1 b1 k1r k2r
 refine (HG.out _ ?_).mono ?_
 ·
  exact r2
 rintro e w3 ⟨T, q, rfl, rq, gq, zq, rT, gT, zT, nT, r3, b3⟩
 have b23 : BelowBut W2.heap.size S W2 w3 := (BelowBut.of (below_drewN (Below.refl _ W2) _)).trans b3
 have z3 : W2.heap.size ≤ w3.heap.size := b23.size
 have zz : w.heap.size ≤ W2.heap.size := by rw [HZ2.out, HZ1.out, HZW.out]; omega
 have B3 := b2.trans (b23.mono zz)
 have R3 := Lib.hid r3
 unfold LinkT.cells at r3
 dsimp only at r3
 clear b3 b23 b2 r2 rT rq z3 gq zq gT zT nT
 go_wp2_with fail
 go_quiet (fail)
 go_wp2_with fail
 go_ret
 exact ⟨⟨_, rfl⟩, ⟨_, _, R3.out⟩, B3.trans (BelowBut.of (below_drewN (Below.refl w.heap.size w3) _))⟩
theorem tick_dead_f (s : SessT) (hs : s.ok) (hc : s.count < 1099511627776) (hA : A ≠ S) (hsec : sec.length = 32) (hn : 0 ≤ now ∧ now ≤ 10000000) (hb0 : 0 ≤ s.born ∧ s.born ≤ 10000000) (ht0 : 0 ≤ s.taken ∧ s.taken ≤ 10000000) (he0 : 0 ≤ s.sent ∧ s.sent ≤ 10000000) (hk2 : k ≤ 70000) (h1 : d ≤ now + 1 - s.taken)
  (hS : row w S = (⟨psk, false, r, k, p, d, now, (some ⟨A, 0, none⟩), b, c, talk, asked, made, last⟩ : LinkT).cells.toArray) (hT : row w A = s.cells.toArray) :
  Calls Tryz.prog 16 #[.pointer (some ⟨S, 0, none⟩), .agg (u8s sec).toArray] w fun e w' => (∃ v, e = .returned v) ∧ (∃ tk ask2, row w' S = (⟨psk, false, r, k, p, d, (now + 1), none, b, c, tk, ask2, made, last⟩ : LinkT).cells.toArray) ∧ BelowBut w.heap.size S w w' := by
 have zS : S < w.heap.size := lt_of_row (i := 0) (by rw [hS]; simp [LinkT.cells, hp])
 have zA : A < w.heap.size := lt_of_row (i := 0) (by rw [hT]; simp [SessT.cells, hs.k1, hs.k2])
 have HG := Lib.hid (fun w hS => greet_off psk sec r k p d (now + 1) asked made last b c talk S w hp hS)
 obtain ⟨hk1, hkk⟩ := hs
 obtain ⟨k1, k2, id, n, top, bits, sm, born, sent, taken⟩ := s
 dsimp only at *
 have HT0 := Lib.hid hT
 unfold SessT.cells at hT
 unfold LinkT.cells at hS
 dsimp only at hT hS
 have hw1 : wrap64 (now + 1) = now + 1 := by unfold wrap64; omega
 have hw2 : IntKind.i64.wrap (now + 1) = now + 1 := by rw [IntKind.wrap_i64]; omega
 have hw3 : wrap64 (now + 1 - taken) = now + 1 - taken := by unfold wrap64; omega
 have hw4 : IntKind.i64.wrap (now + 1 - taken) = now + 1 - taken := by rw [IntKind.wrap_i64]; omega
 have hw5 : wrap64 (now + 1 - sent) = now + 1 - sent := by unfold wrap64; omega
 have hw6 : IntKind.i64.wrap (now + 1 - sent) = now + 1 - sent := by rw [IntKind.wrap_i64]; omega
 go_enter Tryz.func16, Tryz.ntmps16
 obtain ⟨W, hW⟩ : ∃ v, w.alloc (.cells (u8s sec).toArray 23) = v := ⟨_, rfl⟩
 have bW : Below w.heap.size w W := by rw [← hW]; exact Below.alloc (Below.refl _ _) (Nat.le_refl _) _
 have zW : W.heap.size = w.heap.size + 1 := by rw [← hW, alloc_sizeW]
 have rK : row W w.heap.size = (u8s sec).toArray := by rw [← hW]; exact row_alloc_at _ _ _ rfl
 have rS := (row_below bW zS).trans hS
 have rT := (row_below bW zA).trans hT
 obtain ⟨W1, hW1⟩ : ∃ v, W.setRow S (u8s psk ++ [Value.bool false, .int .i64 r, .int .i64 k, .int .i64 p, .int .i64 d, .int .i64 (now + 1), .pointer (some ⟨A, 0, none⟩), .pointer b, .pointer c, .pointer talk, .int .i64 asked, .int .i64 made, .int .i64 last]).toArray = v := ⟨_, rfl⟩
 have r1 : row W1 S = (u8s psk ++ [Value.bool false, .int .i64 r, .int .i64 k, .int .i64 p, .int .i64 d, .int .i64 (now + 1), .pointer (some ⟨A, 0, none⟩), .pointer b, .pointer c, .pointer talk, .int .i64 asked, .int .i64 made, .int .i64 last]).toArray := by rw [← hW1]; exact row_setRow_same (by rw [rS]; simp) (by rw [rS]; simp)
 have t1 := (row_setRow_other (w := W) S A (u8s psk ++ [Value.bool false, .int .i64 r, .int .i64 k, .int .i64 p, .int .i64 d, .int .i64 (now + 1), .pointer (some ⟨A, 0, none⟩), .pointer b, .pointer c, .pointer talk, .int .i64 asked, .int .i64 made, .int .i64 last]).toArray hA).trans rT
 have k1r := (row_setRow_other (w := W) S w.heap.size (u8s psk ++ [Value.bool false, .int .i64 r, .int .i64 k, .int .i64 p, .int .i64 d, .int .i64 (now + 1), .pointer (some ⟨A, 0, none⟩), .pointer b, .pointer c, .pointer talk, .int .i64 asked, .int .i64 made, .int .i64 last]).toArray (by omega)).trans rK
 rw [hW1] at t1 k1r
 have z1 : W1.heap.size = W.heap.size := by rw [← hW1, setRow_size]
 have b1 : BelowBut w.heap.size S w W1 := by rw [← hW1]; exact (BelowBut.of bW).trans (BelowBut.set _ _)
 have HZ1 := Lib.hid z1
 have HZW := Lib.hid zW
 clear hS hT z1 zW hc
 go_wp2_with fail
 (try rw [hW])
 (try clear hW)
 go_wp2_with fail
 (try rw [hW1])
 (try clear hW1)
 clear rS rT rK
 have q1 := decide_eq_true h1
 obtain ⟨W2, hW2⟩ : ∃ v, W1.setRow S (u8s psk ++ [Value.bool false, .int .i64 r, .int .i64 k, .int .i64 p, .int .i64 d, .int .i64 (now + 1), .pointer none, .pointer b, .pointer c, .pointer talk, .int .i64 asked, .int .i64 made, .int .i64 last]).toArray = v := ⟨_, rfl⟩
 have r2 : row W2 S = (u8s psk ++ [Value.bool false, .int .i64 r, .int .i64 k, .int .i64 p, .int .i64 d, .int .i64 (now + 1), .pointer none, .pointer b, .pointer c, .pointer talk, .int .i64 asked, .int .i64 made, .int .i64 last]).toArray := by rw [← hW2]; exact row_setRow_same (by rw [r1]; simp) (by rw [r1]; simp)
 have z2 : W2.heap.size = W1.heap.size := by rw [← hW2, setRow_size]
 have b2 : BelowBut w.heap.size S w W2 := by rw [← hW2]; exact b1.trans (BelowBut.set _ _)
 have HZ2 := Lib.hid z2
 have k2r := (row_setRow_other (w := W1) S w.heap.size (u8s psk ++ [Value.bool false, .int .i64 r, .int .i64 k, .int .i64 p, .int .i64 d, .int .i64 (now + 1), .pointer none, .pointer b, .pointer c, .pointer talk, .int .i64 asked, .int .i64 made, .int .i64 last]).toArray (by omega)).trans k1r
 rw [hW2] at k2r
 clear z2
 go_quiet (fail)
 go_wp2_with fail
 (try rw [hW2])
 (try clear hW2)
 clear r1 t1 b1 k1r k2r
 refine (HG.out _ ?_).mono ?_
 ·
  exact r2
 rintro e w3 ⟨rfl, b3⟩
 have b23 : Below W2.heap.size W2 w3 := Below.trans (below_drewN (Below.refl _ W2) _) b3
 have z3 : W2.heap.size ≤ w3.heap.size := b23.size
 have zz : w.heap.size + 1 ≤ W2.heap.size := by rw [HZ2.out, HZ1.out, HZW.out]; omega
 have B3 := b2.trans ((BelowBut.of b23).mono (by omega))
 have r3 := (row_below b23 (by omega)).trans r2
 have R3 := Lib.hid r3
 clear b3 b23 b2 r2 z3
 go_wp2_with fail
 go_quiet (fail)
 go_wp2_with fail
 go_ret
 exact ⟨⟨_, rfl⟩, ⟨_, _, R3.out⟩, B3.trans (BelowBut.of (below_drewN (Below.refl w.heap.size w3) _))⟩
end
end Go.Proofs.YtakkicppgkmokaaGreat
