/- Contracts of the reference of chapter 13: a public key.  -/
import Derived.Test.YtakkicppgkmokaaGreatJ39
import Derived.Test.YtakkicppgkmokaaGreatJ21
import Derived.Test.YtakkicppgkmokaaGreatGrSJ
set_option linter.unusedSimpArgs false
set_option linter.unusedVariables false
set_option maxRecDepth 4000
namespace Go.Proofs.YtakkicppgkmokaaGreat
open Go.RowKit
attribute [local irreducible] sharedK
set_option maxRecDepth 20000 in
set_option maxHeartbeats 2000000 in
theorem public13_any (a : List UInt8) (w : World) (ha : a.length = 32) :
  Calls Tryz.prog 34 #[.agg (u8s a).toArray] w fun e w' => e = .returned (.string ⟨(pubL a).toArray⟩) ∧ Below w.heap.size w w' := by
 have HS := Lib.hid (fun w => sharedG_any a (9 :: List.replicate 31 0) w ha (by simp))
 have hl := pubL_length a
 rw [show sharedK a (9 :: List.replicate 31 0) = pubL a by unfold pubL; rfl] at HS
 rw [show u8s (9 :: List.replicate 31 (0 : UInt8)) = Value.int .u8 9 :: zeros 31 (Value.int .u8 0) from rfl] at HS
 have HT := Lib.hid (fun w => text13_any (pubL a) w hl)
 go_enter Tryz.func34, Tryz.ntmps34
 go_wp2_with fail
 refine (HS.out _).mono ?_
 rintro e w1 ⟨rfl, b1⟩
 have z1 := b1.size
 simp at z1
 have bb : Below w.heap.size w w1 := below_of b1 (by (repeat (first | exact Below.refl _ _ | refine Below.al ?_ _ | refine Below.drew ?_ | refine Below.sr ?_ _ | refine Below.sc ?_ _))) (by first | (simp; done) | (simp; omega) | omega)
 go_wp2_with fail
 refine (HT.out _).mono ?_
 rintro e w2 ⟨rfl, b2⟩
 go_wp2_with fail
 go_ret
 exact ⟨rfl, Below.trans bb (b2.mono (by omega))⟩
end Go.Proofs.YtakkicppgkmokaaGreat
