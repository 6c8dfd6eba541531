/- Package link: a tick of an end that doesn't greet, and has no session. -/
import Derived.Test.YtakkicppgkmokaaGreatLnkJJ
set_option linter.unusedSimpArgs false
set_option linter.unusedVariables false
set_option maxRecDepth 4000
namespace Go.Proofs.YtakkicppgkmokaaGreat
open Go.RowKit
section
attribute [local irreducible] sealL nonceL tagL maskL greetL hailT
variable (psk sec : List UInt8) (g : Bool) (r k p d now asked made last : Int) (A : Nat) (b c talk : Option Addr) (S : Nat) (w : World) (hp : psk.length = 32)
include hp
set_option maxRecDepth 20000 in
set_option maxHeartbeats 4000000 in
theorem tick_off (hsec : sec.length = 32) (hn : 0 ≤ now ∧ now ≤ 10000000) (hS : row w S = (⟨psk, false, r, k, p, d, now, none, b, c, talk, asked, made, last⟩ : LinkT).cells.toArray) :
  Calls Tryz.prog 16 #[.pointer (some ⟨S, 0, none⟩), .agg (u8s sec).toArray] w fun e w' => e = .returned (.slice none 0 0) ∧ row w' S = (⟨psk, false, r, k, p, d, (now + 1), none, b, c, talk, asked, made, last⟩ : LinkT).cells.toArray ∧ BelowBut w.heap.size S w w' := by
 have zS : S < w.heap.size := lt_of_row (i := 0) (by rw [hS]; simp [LinkT.cells, hp])
 have HG := Lib.hid (fun w hS => greet_off psk sec r k p d (now + 1) asked made last b c talk S w hp hS)
 unfold LinkT.cells at hS
 dsimp only at hS
 have hw1 : wrap64 (now + 1) = now + 1 := by unfold wrap64; omega
 have hw2 : IntKind.i64.wrap (now + 1) = now + 1 := by rw [IntKind.wrap_i64]; omega
 go_enter Tryz.func16, Tryz.ntmps16
 obtain ⟨W, hW⟩ : ∃ v, w.alloc (.cells (u8s sec).toArray 23) = v := ⟨_, rfl⟩
 have bW : Below w.heap.size w W := by rw [← hW]; exact Below.alloc (Below.refl _ _) (Nat.le_refl _) _
 have zW : W.heap.size = w.heap.size + 1 := by rw [← hW, alloc_sizeW]
 have rK : row W w.heap.size = (u8s sec).toArray := by rw [← hW]; exact row_alloc_at _ _ _ rfl
 have rS := (row_below bW zS).trans hS
 obtain ⟨W1, hW1⟩ : ∃ v, W.setRow S (u8s psk ++ [Value.bool false, .int .i64 r, .int .i64 k, .int .i64 p, .int .i64 d, .int .i64 (now + 1), .pointer none, .pointer b, .pointer c, .pointer talk, .int .i64 asked, .int .i64 made, .int .i64 last]).toArray = v := ⟨_, rfl⟩
 have r1 : row W1 S = (u8s psk ++ [Value.bool false, .int .i64 r, .int .i64 k, .int .i64 p, .int .i64 d, .int .i64 (now + 1), .pointer none, .pointer b, .pointer c, .pointer talk, .int .i64 asked, .int .i64 made, .int .i64 last]).toArray := by rw [← hW1]; exact row_setRow_same (by rw [rS]; simp) (by rw [rS]; simp)
 have k1r := (row_setRow_other (w := W) S w.heap.size (u8s psk ++ [Value.bool false, .int .i64 r, .int .i64 k, .int .i64 p, .int .i64 d, .int .i64 (now + 1), .pointer none, .pointer b, .pointer c, .pointer talk, .int .i64 asked, .int .i64 made, .int .i64 last]).toArray (by omega)).trans rK
 rw [hW1] at k1r
 have z1 : W1.heap.size = W.heap.size := by rw [← hW1, setRow_size]
 have b1 : BelowBut w.heap.size S w W1 := by rw [← hW1]; exact (BelowBut.of bW).trans (BelowBut.set _ _)
 have HZ1 := Lib.hid z1
 have HZW := Lib.hid zW
 clear hS z1 zW
 go_wp2_with fail
 (try rw [hW])
 (try clear hW)
 go_wp2_with fail
 (try rw [hW1])
 (try clear hW1)
 clear rS rK
 go_quiet (fail)
 go_wp2_with fail
 refine (HG.out _ ?_).mono ?_
 ·
  exact r1
 rintro e w3 ⟨rfl, b3⟩
 have b23 : Below W1.heap.size W1 w3 := Below.trans (below_drewN (Below.refl _ W1) _) b3
 have z3 : W1.heap.size ≤ w3.heap.size := b23.size
 have zz : w.heap.size + 1 ≤ W1.heap.size := by rw [HZ1.out, HZW.out]; omega
 have B3 := b1.trans ((BelowBut.of b23).mono (by omega))
 have r3 := (row_below b23 (by omega)).trans r1
 have R3 := Lib.hid r3
 clear b3 b23 b1 r1 z3 k1r
 go_wp2_with fail
 go_quiet (fail)
 go_wp2_with fail
 go_ret
 exact ⟨rfl, R3.out, B3.trans (BelowBut.of (below_drewN (Below.refl w.heap.size w3) _))⟩
end
end Go.Proofs.YtakkicppgkmokaaGreat
