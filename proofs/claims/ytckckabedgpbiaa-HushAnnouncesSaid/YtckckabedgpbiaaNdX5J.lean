/- Parsing of a message with one byte changed: refused. -/
import Derived.Test.YtckckabedgpbiaaNdX4J
import Derived.Test.YtckckabedgpbiaaNdX2J
import Derived.Test.YtckckabedgpbiaaNdMJ
set_option linter.unusedSimpArgs false
set_option linter.unusedVariables false
set_option maxRecDepth 4000
namespace Go.Proofs.Ytckckabedgpbiaa
open Go.RowKit
set_option maxRecDepth 20000 in
set_option maxHeartbeats 2000000 in
theorem ndParse_refused (l m : List UInt8) (n : Int) (w : World) (hl : 64 ≤ l.length) (hl2 : l.length ≤ 10000) (sz : Nat) (hsz : numAt l 4 = sz) (hs2 : sz = 24 ∨ sz = 32) (hls : 40 + sz ≤ l.length) (h0 : l[0] = 96) (h6 : l[6] = 58) (h7 : l[7] = 255)
  (hm : (l.drop 40).take sz = m) (H : refused m n (vecAt l 8 16) (vecAt l 24 16) ip0 mac0 four0 0) :
  Calls Try.prog 46 #[.string ⟨l.toArray⟩] w fun e w' => e = .returned (.tuple #[.agg (ndV 0 ip0 ip0 ip0 mac0 false four0).toArray, .int .i64 n]) ∧ Below w.heap.size w w' := by
 have hmf : ∀ (fn : Fn) (first cap : Array Value) (w : World), (Instr.makeFunc fn first cap).run Try.prog w = .ok (.func fn first cap) w := fun _ _ _ _ => rfl
 go_enter_defers Try.func46, Try.ntmps46
 go_wp2_with fail
 have st0 := ndSt_start w
 refine (headed_ok l w.heap.size 0 ip0 ip0 ip0 mac0 false four0 _ hl hl2 sz hsz hs2 h0 h6 h7 hls st0.rX (by have := st0.hs; omega)).mono ?_
 rintro e w1 ⟨rfl, hb1⟩
 have st1 := (st0.setX (ndV 0 (vecAt l 8 16) (vecAt l 24 16) ip0 mac0 false four0) (by simp [ndV])).below (by simpa [ndV] using hb1)
 rw [hm]
 go_wp2_with fail
 refine (H w.heap.size _ st1.rX (by have := st1.hs; omega)).mono ?_
 rintro e w2 ⟨rfl, xs, hxs, hb2⟩
 have st2 := (st1.setX xs hxs).below (by simpa using hb2)
 exact st2.fail _ _ n rfl rfl rfl
end Go.Proofs.Ytckckabedgpbiaa
