/-
  No cell of these rows narrows 'for every input' (looked for: loops, veiled, ifaces, maps, wideKeys, modest, calm, conditions, laid).
  DERIVED. THE GIVEN ROWS OF THIS SEAT. 4 by the template 'for every input the law returns true; each argument reads behind the call as it read before'; 0 by the template 'total and deterministic' (their statements: YtakkicppgkmokaaTotals.lean).
  GIVEN WITH THE SEED: the statements are not yours to turn. If you find one false, say at which input.
  Laid BY PROGRAM, IN A SANDBOX (cutbox-rows.mjs): the forced cells as the released guide's own fill.sh prints them over the translation 61ca97f5cf4ff7b1… (all of the seat's roots in one cut). By AI agents, Wed Nov 11 2026. No macro, syntax, notation, axiom, sorry.
-/
import Derived.Test.YtakkicppgkmokaaChecked
import GoSem.Claim
import GoSem.ClaimJoined
import GoSem.ClaimMapViews
import Derived.JoinedTies
import Derived.KernelRfl
namespace Go.Proofs.Ytakkicppgkmokaa
/- THE CELL 'sum', in the pinned program and in every row, IS THE sha256 OF THE DUMP (.gsa) THAT YtakkicppgkmokaaProg.lean LOADS. Nothing in Lean hashes anything: it is a label: what it is worth is what the hold of that sum in a sandbox is worth. -/
noncomputable def Try.pinned : Pinned := { name := "ytakkicppgkmokaa", sum := "61ca97f5cf4ff7b1068aa4cb0683a0b2ea35476782761fb4d4f37eda4ff2ff4a", checked := Try.checked }
namespace Rows
def none {H : Type} : Left H := { results := [], args := [] }

/-- 'causeylaw13.NoiseOthers': WHATEVER THE INPUT: true; the input reads as it did. -/
def noiseOthersSpec : ChangeSpec := { name := "noiseOthers", fn := fun _ => fun
  | [d1, d2, d3, d4, d5, d6] => { results := [.lit (.bool true)], args := [d1, d2, d3, d4, d5, d6] }
  | _ => none }
def noiseOthersRow : OpenClaim := { program := "ytakkicppgkmokaa", sum := "61ca97f5cf4ff7b1068aa4cb0683a0b2ea35476782761fb4d4f37eda4ff2ff4a", func := "causey/causeylaw13.NoiseOthers", spec := "noiseOthers", inPlace := ["math/bits.Add64", "internal/abi.NoEscape", "internal/bytealg.MakeNoZero"], unfollowed := true, recurses := true, apart := false }
def NoiseOthersSaid : Prop := noiseOthersRow.holds Try.pinned (OpenSpec.ofChange noiseOthersSpec)

/-- ITS FALSE NEIGHBOUR: 'it returns false'. Refute it at one input. -/
def noiseOthersWrong : ChangeSpec := { name := "noiseOthers", fn := fun _ => fun
  | [d1, d2, d3, d4, d5, d6] => { results := [.lit (.bool false)], args := [d1, d2, d3, d4, d5, d6] }
  | _ => none }
def NoiseOthersWrongFalsely : Prop := noiseOthersRow.holds Try.pinned (OpenSpec.ofChange noiseOthersWrong)

/-- 'causeylaw13.NoiseAgrees': WHATEVER THE INPUT: true; the input reads as it did. -/
def noiseAgreesSpec : ChangeSpec := { name := "noiseAgrees", fn := fun _ => fun
  | [d1, d2, d3] => { results := [.lit (.bool true)], args := [d1, d2, d3] }
  | _ => none }
def noiseAgreesRow : OpenClaim := { program := "ytakkicppgkmokaa", sum := "61ca97f5cf4ff7b1068aa4cb0683a0b2ea35476782761fb4d4f37eda4ff2ff4a", func := "causey/causeylaw13.NoiseAgrees", spec := "noiseAgrees", inPlace := ["math/bits.Add64", "internal/abi.NoEscape", "internal/bytealg.MakeNoZero"], unfollowed := true, recurses := true, apart := false }
def NoiseAgreesSaid : Prop := noiseAgreesRow.holds Try.pinned (OpenSpec.ofChange noiseAgreesSpec)

/-- ITS FALSE NEIGHBOUR: 'it returns false'. Refute it at one input. -/
def noiseAgreesWrong : ChangeSpec := { name := "noiseAgrees", fn := fun _ => fun
  | [d1, d2, d3] => { results := [.lit (.bool false)], args := [d1, d2, d3] }
  | _ => none }
def NoiseAgreesWrongFalsely : Prop := noiseAgreesRow.holds Try.pinned (OpenSpec.ofChange noiseAgreesWrong)

/-- 'causeylaw13.NoiseSpoilt': WHATEVER THE INPUT: true; the input reads as it did. -/
def noiseSpoiltSpec : ChangeSpec := { name := "noiseSpoilt", fn := fun _ => fun
  | [d1, d2, d3, d4, d5, d6] => { results := [.lit (.bool true)], args := [d1, d2, d3, d4, d5, d6] }
  | _ => none }
def noiseSpoiltRow : OpenClaim := { program := "ytakkicppgkmokaa", sum := "61ca97f5cf4ff7b1068aa4cb0683a0b2ea35476782761fb4d4f37eda4ff2ff4a", func := "causey/causeylaw13.NoiseSpoilt", spec := "noiseSpoilt", inPlace := ["math/bits.Add64", "internal/abi.NoEscape", "internal/bytealg.MakeNoZero"], unfollowed := true, recurses := true, apart := false }
def NoiseSpoiltSaid : Prop := noiseSpoiltRow.holds Try.pinned (OpenSpec.ofChange noiseSpoiltSpec)

/-- ITS FALSE NEIGHBOUR: 'it returns false'. Refute it at one input. -/
def noiseSpoiltWrong : ChangeSpec := { name := "noiseSpoilt", fn := fun _ => fun
  | [d1, d2, d3, d4, d5, d6] => { results := [.lit (.bool false)], args := [d1, d2, d3, d4, d5, d6] }
  | _ => none }
def NoiseSpoiltWrongFalsely : Prop := noiseSpoiltRow.holds Try.pinned (OpenSpec.ofChange noiseSpoiltWrong)

/-- 'causeylaw13.NoiseClamps': WHATEVER THE INPUT: true; the input reads as it did. -/
def noiseClampsSpec : ChangeSpec := { name := "noiseClamps", fn := fun _ => fun
  | [d1, d2, d3] => { results := [.lit (.bool true)], args := [d1, d2, d3] }
  | _ => none }
def noiseClampsRow : OpenClaim := { program := "ytakkicppgkmokaa", sum := "61ca97f5cf4ff7b1068aa4cb0683a0b2ea35476782761fb4d4f37eda4ff2ff4a", func := "causey/causeylaw13.NoiseClamps", spec := "noiseClamps", inPlace := ["math/bits.Add64", "internal/abi.NoEscape", "internal/bytealg.MakeNoZero"], unfollowed := true, recurses := true, apart := false }
def NoiseClampsSaid : Prop := noiseClampsRow.holds Try.pinned (OpenSpec.ofChange noiseClampsSpec)

/-- ITS FALSE NEIGHBOUR: 'it returns false'. Refute it at one input. -/
def noiseClampsWrong : ChangeSpec := { name := "noiseClamps", fn := fun _ => fun
  | [d1, d2, d3] => { results := [.lit (.bool false)], args := [d1, d2, d3] }
  | _ => none }
def NoiseClampsWrongFalsely : Prop := noiseClampsRow.holds Try.pinned (OpenSpec.ofChange noiseClampsWrong)

/- THE SECOND FORM. 'bulk': how many values and letters a reading holds, each counted each time it is reached (what is shared counts as often as it is met; a slice's spare places count too). A statement '..UptoSaid' is the law's where the arguments, and the package variables that the reading takes, are together of bulk at most 1048576: NARROWER than '..Said'. Prove '..Said' where nothing that the law and all that it calls make is longer than what came in: it says more and counts as full. Else prove '..UptoSaid'. A law counts once. -/
mutual
def uptoBulk {H : Type} : DataW H → Nat
  | .lit (.string bytes) => bytes.length + 1
  | .lit _ => 1
  | .nil => 1
  | .ptr d => uptoBulk d + 1
  | .slice elems spare => uptoBulkAll elems + uptoBulkAll spare + 1
  | .agg parts => uptoBulkAll parts + 1
  | .iface _ d => uptoBulk d + 1
  | .map entries => uptoBulkEntries entries + 1
  | .held _ => 1
def uptoBulkAll {H : Type} : List (DataW H) → Nat
  | [] => 0
  | d :: r => uptoBulk d + uptoBulkAll r
def uptoBulkEntries {H : Type} : List (Lit × DataW H) → Nat
  | [] => 0
  | x :: r => uptoBulkEntry x + uptoBulkEntries r
def uptoBulkEntry {H : Type} : Lit × DataW H → Nat
  | (.string bytes, d) => bytes.length + uptoBulk d + 1
  | (_, d) => uptoBulk d + 1
 end
def uptoSmall : (H : Type) → List (DataW H) → Bool := fun _ ds => decide (uptoBulkAll ds ≤ 1048576)
def OpenSpec.upto (s : _root_.Go.ChangeSpec) : _root_.Go.OpenSpec := { _root_.Go.OpenSpec.ofChange s with cond := some uptoSmall }

/-- 'causeylaw13.NoiseOthers', WHERE WHAT IT READS IS OF BULK AT MOST 1048576: true; the input reads as it did. -/
def noiseOthersUptoRow : OpenClaim := { program := "ytakkicppgkmokaa", sum := "61ca97f5cf4ff7b1068aa4cb0683a0b2ea35476782761fb4d4f37eda4ff2ff4a", func := "causey/causeylaw13.NoiseOthers", spec := "noiseOthers", inPlace := ["math/bits.Add64", "internal/abi.NoEscape", "internal/bytealg.MakeNoZero"], unfollowed := true, recurses := true, apart := false, narrowed := true }
def NoiseOthersUptoSaid : Prop := noiseOthersUptoRow.holds Try.pinned (OpenSpec.upto noiseOthersSpec)

/-- 'causeylaw13.NoiseAgrees', WHERE WHAT IT READS IS OF BULK AT MOST 1048576: true; the input reads as it did. -/
def noiseAgreesUptoRow : OpenClaim := { program := "ytakkicppgkmokaa", sum := "61ca97f5cf4ff7b1068aa4cb0683a0b2ea35476782761fb4d4f37eda4ff2ff4a", func := "causey/causeylaw13.NoiseAgrees", spec := "noiseAgrees", inPlace := ["math/bits.Add64", "internal/abi.NoEscape", "internal/bytealg.MakeNoZero"], unfollowed := true, recurses := true, apart := false, narrowed := true }
def NoiseAgreesUptoSaid : Prop := noiseAgreesUptoRow.holds Try.pinned (OpenSpec.upto noiseAgreesSpec)

/-- 'causeylaw13.NoiseSpoilt', WHERE WHAT IT READS IS OF BULK AT MOST 1048576: true; the input reads as it did. -/
def noiseSpoiltUptoRow : OpenClaim := { program := "ytakkicppgkmokaa", sum := "61ca97f5cf4ff7b1068aa4cb0683a0b2ea35476782761fb4d4f37eda4ff2ff4a", func := "causey/causeylaw13.NoiseSpoilt", spec := "noiseSpoilt", inPlace := ["math/bits.Add64", "internal/abi.NoEscape", "internal/bytealg.MakeNoZero"], unfollowed := true, recurses := true, apart := false, narrowed := true }
def NoiseSpoiltUptoSaid : Prop := noiseSpoiltUptoRow.holds Try.pinned (OpenSpec.upto noiseSpoiltSpec)

/-- 'causeylaw13.NoiseClamps', WHERE WHAT IT READS IS OF BULK AT MOST 1048576: true; the input reads as it did. -/
def noiseClampsUptoRow : OpenClaim := { program := "ytakkicppgkmokaa", sum := "61ca97f5cf4ff7b1068aa4cb0683a0b2ea35476782761fb4d4f37eda4ff2ff4a", func := "causey/causeylaw13.NoiseClamps", spec := "noiseClamps", inPlace := ["math/bits.Add64", "internal/abi.NoEscape", "internal/bytealg.MakeNoZero"], unfollowed := true, recurses := true, apart := false, narrowed := true }
def NoiseClampsUptoSaid : Prop := noiseClampsUptoRow.holds Try.pinned (OpenSpec.upto noiseClampsSpec)

end Rows
end Go.Proofs.Ytakkicppgkmokaa
