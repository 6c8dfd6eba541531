/- Texts of this proof, merged: NoiV, LnkG, LnkT, LnkK, LnkW, LnkS. -/
import Derived.Test.YtfopoijikdmiaaaGreatDoorJ34
import Derived.Test.YtfopoijikdmiaaaGreatDoorJ36
import Derived.Test.YtfopoijikdmiaaaGreatDoorJ30
import Derived.Test.YtfopoijikdmiaaaGreatDoorJ3
import Derived.Test.YtfopoijikdmiaaaGreatDoorJ31
set_option maxHeartbeats 8000000
set_option maxRecDepth 20000
set_option linter.unusedSimpArgs false
set_option linter.unusedVariables false
namespace Go.Proofs.YtfopoijikdmiaaaGreatDoor
section
set_option maxRecDepth 20000
end
section
set_option maxRecDepth 20000
end
section
set_option maxRecDepth 20000
end
section
set_option maxRecDepth 20000
end
section
set_option maxRecDepth 20000
end
section
open Go.RowKit
structure SessT where
 k1 : List UInt8
 k2 : List UInt8
 id : Int
 count : Nat
 top : Nat
 bits : Nat
 some : Bool
 born : Int
 sent : Int
 taken : Int
structure SessT.ok (s : SessT) : Prop where
 k1 : s.k1.length = 32
 k2 : s.k2.length = 32
section
variable (psk : List UInt8) (g : Bool) (r k p d now asked made last : Int) (A : Nat) (b c talk : Option Addr) (S : Nat) (w : World) (hp : psk.length = 32)
include hp
theorem up_no (hS : row w S = (⟨psk, g, r, k, p, d, now, none, b, c, talk, asked, made, last⟩ : LinkT).cells.toArray) :
  Calls Tryz.prog 54 #[.pointer (some ⟨S, 0, none⟩)] w fun e w' => e = .returned (.bool false) ∧ w' = w := by
 unfold LinkT.cells at hS
 simp only at hS
 go_enter Tryz.func54, Tryz.ntmps54
 go_wp2_with fail
 go_ret
 exact ⟨rfl, rfl⟩
end
end
end Go.Proofs.YtfopoijikdmiaaaGreatDoor
