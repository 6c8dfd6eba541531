/-
  No cell of these rows narrows 'for every input' (looked for: loops, veiled, ifaces, maps, wideKeys, modest, calm, conditions, laid).
  DERIVED. THE GIVEN ROWS OF THIS SEAT. 7 by the template 'for every input the law returns true; each argument reads behind the call as it read before'; 0 by the template 'total and deterministic' (their statements: YtohhiibgjcbpiaaTotals.lean).
  GIVEN WITH THE SEED: the statements are not yours to turn. If you find one false, say at which input.
  Laid BY PROGRAM, IN A SANDBOX (cutbox-rows.mjs): the forced cells as the released guide's own fill.sh prints them over the translation 3998e661e0475007… (all of the seat's roots in one cut). By AI agents, Wed Nov 11 2026. No macro, syntax, notation, axiom, sorry.
-/
import Derived.Test.YtohhiibgjcbpiaaChecked
import GoSem.Claim
import GoSem.ClaimJoined
import GoSem.ClaimMapViews
import Derived.JoinedTies
import Derived.KernelRfl
namespace Go.Proofs.Ytohhiibgjcbpiaa
/- THE CELL 'sum', in the pinned program and in every row, IS THE sha256 OF THE DUMP (.gsa) THAT YtohhiibgjcbpiaaProg.lean LOADS. Nothing in Lean hashes anything: it is a label: what it is worth is what the hold of that sum in a sandbox is worth. -/
noncomputable def Try.pinned : Pinned := { name := "ytohhiibgjcbpiaa", sum := "3998e661e0475007f4a125e8caa9f9c6f04d48a1862d6b20ee5ada30d8330e1b", checked := Try.checked }
namespace Rows
def none {H : Type} : Left H := { results := [], args := [] }

/-- 'causeylaw06.CurveClamps': WHATEVER THE INPUT: true; the input reads as it did. -/
def curveClampsSpec : ChangeSpec := { name := "curveClamps", fn := fun _ => fun
  | [d1, d2] => { results := [.lit (.bool true)], args := [d1, d2] }
  | _ => none }
def curveClampsRow : OpenClaim := { program := "ytohhiibgjcbpiaa", sum := "3998e661e0475007f4a125e8caa9f9c6f04d48a1862d6b20ee5ada30d8330e1b", func := "causey/causeylaw06.CurveClamps", spec := "curveClamps", apart := false }
def CurveClampsSaid : Prop := curveClampsRow.holds Try.pinned (OpenSpec.ofChange curveClampsSpec)

/-- ITS FALSE NEIGHBOUR: 'it returns false'. Refute it at one input. -/
def curveClampsWrong : ChangeSpec := { name := "curveClamps", fn := fun _ => fun
  | [d1, d2] => { results := [.lit (.bool false)], args := [d1, d2] }
  | _ => none }
def CurveClampsWrongFalsely : Prop := curveClampsRow.holds Try.pinned (OpenSpec.ofChange curveClampsWrong)

/-- 'causeylaw06.CurveAgrees': WHATEVER THE INPUT: true; the input reads as it did. -/
def curveAgreesSpec : ChangeSpec := { name := "curveAgrees", fn := fun _ => fun
  | [d1, d2] => { results := [.lit (.bool true)], args := [d1, d2] }
  | _ => none }
def curveAgreesRow : OpenClaim := { program := "ytohhiibgjcbpiaa", sum := "3998e661e0475007f4a125e8caa9f9c6f04d48a1862d6b20ee5ada30d8330e1b", func := "causey/causeylaw06.CurveAgrees", spec := "curveAgrees", apart := false }
def CurveAgreesSaid : Prop := curveAgreesRow.holds Try.pinned (OpenSpec.ofChange curveAgreesSpec)

/-- ITS FALSE NEIGHBOUR: 'it returns false'. Refute it at one input. -/
def curveAgreesWrong : ChangeSpec := { name := "curveAgrees", fn := fun _ => fun
  | [d1, d2] => { results := [.lit (.bool false)], args := [d1, d2] }
  | _ => none }
def CurveAgreesWrongFalsely : Prop := curveAgreesRow.holds Try.pinned (OpenSpec.ofChange curveAgreesWrong)

/-- 'causeylaw06.CurveField': WHATEVER THE INPUT: true; the input reads as it did. -/
def curveFieldSpec : ChangeSpec := { name := "curveField", fn := fun _ => fun
  | [d1, d2, d3] => { results := [.lit (.bool true)], args := [d1, d2, d3] }
  | _ => none }
def curveFieldRow : OpenClaim := { program := "ytohhiibgjcbpiaa", sum := "3998e661e0475007f4a125e8caa9f9c6f04d48a1862d6b20ee5ada30d8330e1b", func := "causey/causeylaw06.CurveField", spec := "curveField", apart := false }
def CurveFieldSaid : Prop := curveFieldRow.holds Try.pinned (OpenSpec.ofChange curveFieldSpec)

/-- ITS FALSE NEIGHBOUR: 'it returns false'. Refute it at one input. -/
def curveFieldWrong : ChangeSpec := { name := "curveField", fn := fun _ => fun
  | [d1, d2, d3] => { results := [.lit (.bool false)], args := [d1, d2, d3] }
  | _ => none }
def CurveFieldWrongFalsely : Prop := curveFieldRow.holds Try.pinned (OpenSpec.ofChange curveFieldWrong)

/-- 'causeylaw06.CurvePlays': WHATEVER THE INPUT: true; the input reads as it did. -/
def curvePlaysSpec : ChangeSpec := { name := "curvePlays", fn := fun _ => fun
  | [d1, d2] => { results := [.lit (.bool true)], args := [d1, d2] }
  | _ => none }
def curvePlaysRow : OpenClaim := { program := "ytohhiibgjcbpiaa", sum := "3998e661e0475007f4a125e8caa9f9c6f04d48a1862d6b20ee5ada30d8330e1b", func := "causey/causeylaw06.CurvePlays", spec := "curvePlays", apart := false }
def CurvePlaysSaid : Prop := curvePlaysRow.holds Try.pinned (OpenSpec.ofChange curvePlaysSpec)

/-- ITS FALSE NEIGHBOUR: 'it returns false'. Refute it at one input. -/
def curvePlaysWrong : ChangeSpec := { name := "curvePlays", fn := fun _ => fun
  | [d1, d2] => { results := [.lit (.bool false)], args := [d1, d2] }
  | _ => none }
def CurvePlaysWrongFalsely : Prop := curvePlaysRow.holds Try.pinned (OpenSpec.ofChange curvePlaysWrong)

/-- 'causeylaw06.CurveShares': WHATEVER THE INPUT: true; the input reads as it did. -/
def curveSharesSpec : ChangeSpec := { name := "curveShares", fn := fun _ => fun
  | [d1, d2] => { results := [.lit (.bool true)], args := [d1, d2] }
  | _ => none }
def curveSharesRow : OpenClaim := { program := "ytohhiibgjcbpiaa", sum := "3998e661e0475007f4a125e8caa9f9c6f04d48a1862d6b20ee5ada30d8330e1b", func := "causey/causeylaw06.CurveShares", spec := "curveShares", apart := false }
def CurveSharesSaid : Prop := curveSharesRow.holds Try.pinned (OpenSpec.ofChange curveSharesSpec)

/-- ITS FALSE NEIGHBOUR: 'it returns false'. Refute it at one input. -/
def curveSharesWrong : ChangeSpec := { name := "curveShares", fn := fun _ => fun
  | [d1, d2] => { results := [.lit (.bool false)], args := [d1, d2] }
  | _ => none }
def CurveSharesWrongFalsely : Prop := curveSharesRow.holds Try.pinned (OpenSpec.ofChange curveSharesWrong)

/-- 'causeylaw06.CurveZero': WHATEVER THE INPUT: true; the input reads as it did. -/
def curveZeroSpec : ChangeSpec := { name := "curveZero", fn := fun _ => fun
  | [d] => { results := [.lit (.bool true)], args := [d] }
  | _ => none }
def curveZeroRow : OpenClaim := { program := "ytohhiibgjcbpiaa", sum := "3998e661e0475007f4a125e8caa9f9c6f04d48a1862d6b20ee5ada30d8330e1b", func := "causey/causeylaw06.CurveZero", spec := "curveZero", apart := false }
def CurveZeroSaid : Prop := curveZeroRow.holds Try.pinned (OpenSpec.ofChange curveZeroSpec)

/-- ITS FALSE NEIGHBOUR: 'it returns false'. Refute it at one input. -/
def curveZeroWrong : ChangeSpec := { name := "curveZero", fn := fun _ => fun
  | [d] => { results := [.lit (.bool false)], args := [d] }
  | _ => none }
def CurveZeroWrongFalsely : Prop := curveZeroRow.holds Try.pinned (OpenSpec.ofChange curveZeroWrong)

/-- 'causeylaw06.CurveThree': WHATEVER THE INPUT: true; the input reads as it did. -/
def curveThreeSpec : ChangeSpec := { name := "curveThree", fn := fun _ => fun
  | [d1, d2, d3] => { results := [.lit (.bool true)], args := [d1, d2, d3] }
  | _ => none }
def curveThreeRow : OpenClaim := { program := "ytohhiibgjcbpiaa", sum := "3998e661e0475007f4a125e8caa9f9c6f04d48a1862d6b20ee5ada30d8330e1b", func := "causey/causeylaw06.CurveThree", spec := "curveThree", apart := false }
def CurveThreeSaid : Prop := curveThreeRow.holds Try.pinned (OpenSpec.ofChange curveThreeSpec)

/-- ITS FALSE NEIGHBOUR: 'it returns false'. Refute it at one input. -/
def curveThreeWrong : ChangeSpec := { name := "curveThree", fn := fun _ => fun
  | [d1, d2, d3] => { results := [.lit (.bool false)], args := [d1, d2, d3] }
  | _ => none }
def CurveThreeWrongFalsely : Prop := curveThreeRow.holds Try.pinned (OpenSpec.ofChange curveThreeWrong)

/- THE SECOND FORM. 'bulk': how many values and letters a reading holds, each counted each time it is reached (what is shared counts as often as it is met; a slice's spare places count too). A statement '..UptoSaid' is the law's where the arguments, and the package variables that the reading takes, are together of bulk at most 1048576: NARROWER than '..Said'. Prove '..Said' where nothing that the law and all that it calls make is longer than what came in: it says more and counts as full. Else prove '..UptoSaid'. A law counts once. -/
mutual
def uptoBulk {H : Type} : DataW H → Nat
  | .lit (.string bytes) => bytes.length + 1
  | .lit _ => 1
  | .nil => 1
  | .ptr d => uptoBulk d + 1
  | .slice elems spare => uptoBulkAll elems + uptoBulkAll spare + 1
  | .agg parts => uptoBulkAll parts + 1
  | .iface _ d => uptoBulk d + 1
  | .map entries => uptoBulkEntries entries + 1
  | .held _ => 1
def uptoBulkAll {H : Type} : List (DataW H) → Nat
  | [] => 0
  | d :: r => uptoBulk d + uptoBulkAll r
def uptoBulkEntries {H : Type} : List (Lit × DataW H) → Nat
  | [] => 0
  | x :: r => uptoBulkEntry x + uptoBulkEntries r
def uptoBulkEntry {H : Type} : Lit × DataW H → Nat
  | (.string bytes, d) => bytes.length + uptoBulk d + 1
  | (_, d) => uptoBulk d + 1
 end
def uptoSmall : (H : Type) → List (DataW H) → Bool := fun _ ds => decide (uptoBulkAll ds ≤ 1048576)
def OpenSpec.upto (s : _root_.Go.ChangeSpec) : _root_.Go.OpenSpec := { _root_.Go.OpenSpec.ofChange s with cond := some uptoSmall }

/-- 'causeylaw06.CurveClamps', WHERE WHAT IT READS IS OF BULK AT MOST 1048576: true; the input reads as it did. -/
def curveClampsUptoRow : OpenClaim := { program := "ytohhiibgjcbpiaa", sum := "3998e661e0475007f4a125e8caa9f9c6f04d48a1862d6b20ee5ada30d8330e1b", func := "causey/causeylaw06.CurveClamps", spec := "curveClamps", apart := false, narrowed := true }
def CurveClampsUptoSaid : Prop := curveClampsUptoRow.holds Try.pinned (OpenSpec.upto curveClampsSpec)

/-- 'causeylaw06.CurveAgrees', WHERE WHAT IT READS IS OF BULK AT MOST 1048576: true; the input reads as it did. -/
def curveAgreesUptoRow : OpenClaim := { program := "ytohhiibgjcbpiaa", sum := "3998e661e0475007f4a125e8caa9f9c6f04d48a1862d6b20ee5ada30d8330e1b", func := "causey/causeylaw06.CurveAgrees", spec := "curveAgrees", apart := false, narrowed := true }
def CurveAgreesUptoSaid : Prop := curveAgreesUptoRow.holds Try.pinned (OpenSpec.upto curveAgreesSpec)

/-- 'causeylaw06.CurveField', WHERE WHAT IT READS IS OF BULK AT MOST 1048576: true; the input reads as it did. -/
def curveFieldUptoRow : OpenClaim := { program := "ytohhiibgjcbpiaa", sum := "3998e661e0475007f4a125e8caa9f9c6f04d48a1862d6b20ee5ada30d8330e1b", func := "causey/causeylaw06.CurveField", spec := "curveField", apart := false, narrowed := true }
def CurveFieldUptoSaid : Prop := curveFieldUptoRow.holds Try.pinned (OpenSpec.upto curveFieldSpec)

/-- 'causeylaw06.CurvePlays', WHERE WHAT IT READS IS OF BULK AT MOST 1048576: true; the input reads as it did. -/
def curvePlaysUptoRow : OpenClaim := { program := "ytohhiibgjcbpiaa", sum := "3998e661e0475007f4a125e8caa9f9c6f04d48a1862d6b20ee5ada30d8330e1b", func := "causey/causeylaw06.CurvePlays", spec := "curvePlays", apart := false, narrowed := true }
def CurvePlaysUptoSaid : Prop := curvePlaysUptoRow.holds Try.pinned (OpenSpec.upto curvePlaysSpec)

/-- 'causeylaw06.CurveShares', WHERE WHAT IT READS IS OF BULK AT MOST 1048576: true; the input reads as it did. -/
def curveSharesUptoRow : OpenClaim := { program := "ytohhiibgjcbpiaa", sum := "3998e661e0475007f4a125e8caa9f9c6f04d48a1862d6b20ee5ada30d8330e1b", func := "causey/causeylaw06.CurveShares", spec := "curveShares", apart := false, narrowed := true }
def CurveSharesUptoSaid : Prop := curveSharesUptoRow.holds Try.pinned (OpenSpec.upto curveSharesSpec)

/-- 'causeylaw06.CurveZero', WHERE WHAT IT READS IS OF BULK AT MOST 1048576: true; the input reads as it did. -/
def curveZeroUptoRow : OpenClaim := { program := "ytohhiibgjcbpiaa", sum := "3998e661e0475007f4a125e8caa9f9c6f04d48a1862d6b20ee5ada30d8330e1b", func := "causey/causeylaw06.CurveZero", spec := "curveZero", apart := false, narrowed := true }
def CurveZeroUptoSaid : Prop := curveZeroUptoRow.holds Try.pinned (OpenSpec.upto curveZeroSpec)

/-- 'causeylaw06.CurveThree', WHERE WHAT IT READS IS OF BULK AT MOST 1048576: true; the input reads as it did. -/
def curveThreeUptoRow : OpenClaim := { program := "ytohhiibgjcbpiaa", sum := "3998e661e0475007f4a125e8caa9f9c6f04d48a1862d6b20ee5ada30d8330e1b", func := "causey/causeylaw06.CurveThree", spec := "curveThree", apart := false, narrowed := true }
def CurveThreeUptoSaid : Prop := curveThreeUptoRow.holds Try.pinned (OpenSpec.upto curveThreeSpec)

end Rows
end Go.Proofs.Ytohhiibgjcbpiaa
