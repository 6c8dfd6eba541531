/-
  No cell of these rows narrows 'for every input' (looked for: loops, veiled, ifaces, maps, wideKeys, modest, calm, conditions, laid).
  DERIVED. THE GIVEN ROWS OF THIS SEAT. 3 by the template 'for every input the law returns true; each argument reads behind the call as it read before'; 0 by the template 'total and deterministic' (their statements: YtakkicppgkmokaaGreatTotals.lean).
  GIVEN WITH THE SEED: the statements are not yours to turn. If you find one false, say at which input.
  Laid BY PROGRAM, IN A SANDBOX (cutbox-rows.mjs): the forced cells as the released guide's own fill.sh prints them over the translation 420dec629f165ebc… (all of the seat's roots in one cut). By AI agents, Wed Nov 11 2026. No macro, syntax, notation, axiom, sorry.
-/
import Derived.Test.YtakkicppgkmokaaGreatChecked
import GoSem.Claim
import GoSem.ClaimJoined
import GoSem.ClaimMapViews
import Derived.JoinedTies
import Derived.KernelRfl
namespace Go.Proofs.YtakkicppgkmokaaGreat
/- THE CELL 'sum', in the pinned program and in every row, IS THE sha256 OF THE DUMP (.gsa) THAT YtakkicppgkmokaaGreatProg.lean LOADS. Nothing in Lean hashes anything: it is a label: what it is worth is what the hold of that sum in a sandbox is worth. -/
noncomputable def Tryz.pinned : Pinned := { name := "ytakkicppgkmokaagreat", sum := "420dec629f165ebc4261e2c1ed2b8afd401c035324c05c578d268acf135ade9a", checked := Tryz.checked }
namespace Rows
def none {H : Type} : Left H := { results := [], args := [] }

/-- 'causeylaw13.NoisePlays': WHATEVER THE INPUT: true; the input reads as it did. -/
def noisePlaysSpec : ChangeSpec := { name := "noisePlays", fn := fun _ => fun
  | [d1, d2, d3] => { results := [.lit (.bool true)], args := [d1, d2, d3] }
  | _ => none }
def noisePlaysRow : OpenClaim := { program := "ytakkicppgkmokaagreat", sum := "420dec629f165ebc4261e2c1ed2b8afd401c035324c05c578d268acf135ade9a", func := "causey/causeylaw13.NoisePlays", spec := "noisePlays", inPlace := ["math/bits.Add64", "internal/abi.NoEscape", "internal/bytealg.MakeNoZero"], unfollowed := true, recurses := true, apart := false }
def NoisePlaysSaid : Prop := noisePlaysRow.holds Tryz.pinned (OpenSpec.ofChange noisePlaysSpec)

/-- ITS FALSE NEIGHBOUR: 'it returns false'. Refute it at one input. -/
def noisePlaysWrong : ChangeSpec := { name := "noisePlays", fn := fun _ => fun
  | [d1, d2, d3] => { results := [.lit (.bool false)], args := [d1, d2, d3] }
  | _ => none }
def NoisePlaysWrongFalsely : Prop := noisePlaysRow.holds Tryz.pinned (OpenSpec.ofChange noisePlaysWrong)

/-- 'causeylaw15.LinkDies': WHATEVER THE INPUT: true; the input reads as it did. -/
def linkDiesSpec : ChangeSpec := { name := "linkDies", fn := fun _ => fun
  | [d1, d2, d3] => { results := [.lit (.bool true)], args := [d1, d2, d3] }
  | _ => none }
def linkDiesRow : OpenClaim := { program := "ytakkicppgkmokaagreat", sum := "420dec629f165ebc4261e2c1ed2b8afd401c035324c05c578d268acf135ade9a", func := "causey/causeylaw15.LinkDies", spec := "linkDies", inPlace := ["math/bits.Add64", "internal/abi.NoEscape", "internal/bytealg.MakeNoZero"], unfollowed := true, recurses := true, apart := false }
def LinkDiesSaid : Prop := linkDiesRow.holds Tryz.pinned (OpenSpec.ofChange linkDiesSpec)

/-- ITS FALSE NEIGHBOUR: 'it returns false'. Refute it at one input. -/
def linkDiesWrong : ChangeSpec := { name := "linkDies", fn := fun _ => fun
  | [d1, d2, d3] => { results := [.lit (.bool false)], args := [d1, d2, d3] }
  | _ => none }
def LinkDiesWrongFalsely : Prop := linkDiesRow.holds Tryz.pinned (OpenSpec.ofChange linkDiesWrong)

/-- 'causeylaw15.LinkRefuses': WHATEVER THE INPUT: true; the input reads as it did. -/
def linkRefusesSpec : ChangeSpec := { name := "linkRefuses", fn := fun _ => fun
  | [d1, d2, d3] => { results := [.lit (.bool true)], args := [d1, d2, d3] }
  | _ => none }
def linkRefusesRow : OpenClaim := { program := "ytakkicppgkmokaagreat", sum := "420dec629f165ebc4261e2c1ed2b8afd401c035324c05c578d268acf135ade9a", func := "causey/causeylaw15.LinkRefuses", spec := "linkRefuses", inPlace := ["math/bits.Add64", "internal/abi.NoEscape", "internal/bytealg.MakeNoZero"], unfollowed := true, recurses := true, apart := false }
def LinkRefusesSaid : Prop := linkRefusesRow.holds Tryz.pinned (OpenSpec.ofChange linkRefusesSpec)

/-- ITS FALSE NEIGHBOUR: 'it returns false'. Refute it at one input. -/
def linkRefusesWrong : ChangeSpec := { name := "linkRefuses", fn := fun _ => fun
  | [d1, d2, d3] => { results := [.lit (.bool false)], args := [d1, d2, d3] }
  | _ => none }
def LinkRefusesWrongFalsely : Prop := linkRefusesRow.holds Tryz.pinned (OpenSpec.ofChange linkRefusesWrong)

/- THE SECOND FORM. 'bulk': how many values and letters a reading holds, each counted each time it is reached (what is shared counts as often as it is met; a slice's spare places count too). A statement '..UptoSaid' is the law's where the arguments, and the package variables that the reading takes, are together of bulk at most 1048576: NARROWER than '..Said'. Prove '..Said' where nothing that the law and all that it calls make is longer than what came in: it says more and counts as full. Else prove '..UptoSaid'. A law counts once. -/
mutual
def uptoBulk {H : Type} : DataW H → Nat
  | .lit (.string bytes) => bytes.length + 1
  | .lit _ => 1
  | .nil => 1
  | .ptr d => uptoBulk d + 1
  | .slice elems spare => uptoBulkAll elems + uptoBulkAll spare + 1
  | .agg parts => uptoBulkAll parts + 1
  | .iface _ d => uptoBulk d + 1
  | .map entries => uptoBulkEntries entries + 1
  | .held _ => 1
def uptoBulkAll {H : Type} : List (DataW H) → Nat
  | [] => 0
  | d :: r => uptoBulk d + uptoBulkAll r
def uptoBulkEntries {H : Type} : List (Lit × DataW H) → Nat
  | [] => 0
  | x :: r => uptoBulkEntry x + uptoBulkEntries r
def uptoBulkEntry {H : Type} : Lit × DataW H → Nat
  | (.string bytes, d) => bytes.length + uptoBulk d + 1
  | (_, d) => uptoBulk d + 1
 end
def uptoSmall : (H : Type) → List (DataW H) → Bool := fun _ ds => decide (uptoBulkAll ds ≤ 1048576)
def OpenSpec.upto (s : _root_.Go.ChangeSpec) : _root_.Go.OpenSpec := { _root_.Go.OpenSpec.ofChange s with cond := some uptoSmall }

/-- 'causeylaw13.NoisePlays', WHERE WHAT IT READS IS OF BULK AT MOST 1048576: true; the input reads as it did. -/
def noisePlaysUptoRow : OpenClaim := { program := "ytakkicppgkmokaagreat", sum := "420dec629f165ebc4261e2c1ed2b8afd401c035324c05c578d268acf135ade9a", func := "causey/causeylaw13.NoisePlays", spec := "noisePlays", inPlace := ["math/bits.Add64", "internal/abi.NoEscape", "internal/bytealg.MakeNoZero"], unfollowed := true, recurses := true, apart := false, narrowed := true }
def NoisePlaysUptoSaid : Prop := noisePlaysUptoRow.holds Tryz.pinned (OpenSpec.upto noisePlaysSpec)

/-- 'causeylaw15.LinkDies', WHERE WHAT IT READS IS OF BULK AT MOST 1048576: true; the input reads as it did. -/
def linkDiesUptoRow : OpenClaim := { program := "ytakkicppgkmokaagreat", sum := "420dec629f165ebc4261e2c1ed2b8afd401c035324c05c578d268acf135ade9a", func := "causey/causeylaw15.LinkDies", spec := "linkDies", inPlace := ["math/bits.Add64", "internal/abi.NoEscape", "internal/bytealg.MakeNoZero"], unfollowed := true, recurses := true, apart := false, narrowed := true }
def LinkDiesUptoSaid : Prop := linkDiesUptoRow.holds Tryz.pinned (OpenSpec.upto linkDiesSpec)

/-- 'causeylaw15.LinkRefuses', WHERE WHAT IT READS IS OF BULK AT MOST 1048576: true; the input reads as it did. -/
def linkRefusesUptoRow : OpenClaim := { program := "ytakkicppgkmokaagreat", sum := "420dec629f165ebc4261e2c1ed2b8afd401c035324c05c578d268acf135ade9a", func := "causey/causeylaw15.LinkRefuses", spec := "linkRefuses", inPlace := ["math/bits.Add64", "internal/abi.NoEscape", "internal/bytealg.MakeNoZero"], unfollowed := true, recurses := true, apart := false, narrowed := true }
def LinkRefusesUptoSaid : Prop := linkRefusesUptoRow.holds Tryz.pinned (OpenSpec.upto linkRefusesSpec)

end Rows
end Go.Proofs.YtakkicppgkmokaaGreat
