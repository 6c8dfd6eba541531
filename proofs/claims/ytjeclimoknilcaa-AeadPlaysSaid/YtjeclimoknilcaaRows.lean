/-
  No cell of these rows narrows 'for every input' (looked for: loops, veiled, ifaces, maps, wideKeys, modest, calm, conditions, laid).
  DERIVED. THE GIVEN ROWS OF THIS SEAT. 7 by the template 'for every input the law returns true; each argument reads behind the call as it read before'; 0 by the template 'total and deterministic' (their statements: YtjeclimoknilcaaTotals.lean).
  GIVEN WITH THE SEED: the statements are not yours to turn. If you find one false, say at which input.
  Laid BY PROGRAM, IN A SANDBOX (cutbox-rows.mjs): the forced cells as the released guide's own fill.sh prints them over the translation a6ee167c226cae43… (all of the seat's roots in one cut). By AI agents, Wed Nov 11 2026. No macro, syntax, notation, axiom, sorry.
-/
import Derived.Test.YtjeclimoknilcaaChecked
import GoSem.Claim
import GoSem.ClaimJoined
import GoSem.ClaimMapViews
import Derived.JoinedTies
import Derived.KernelRfl
namespace Go.Proofs.Ytjeclimoknilcaa
/- THE CELL 'sum', in the pinned program and in every row, IS THE sha256 OF THE DUMP (.gsa) THAT YtjeclimoknilcaaProg.lean LOADS. Nothing in Lean hashes anything: it is a label: what it is worth is what the hold of that sum in a sandbox is worth. -/
noncomputable def Try.pinned : Pinned := { name := "ytjeclimoknilcaa", sum := "a6ee167c226cae430e8407af600fc275aff23c94b3d02b42ff9b2e5891ea1036", checked := Try.checked }
namespace Rows
def none {H : Type} : Left H := { results := [], args := [] }

/-- 'causeylaw05.AeadPlays': WHATEVER THE INPUT: true; the input reads as it did. -/
def aeadPlaysSpec : ChangeSpec := { name := "aeadPlays", fn := fun _ => fun
  | [d1, d2, d3, d4] => { results := [.lit (.bool true)], args := [d1, d2, d3, d4] }
  | _ => none }
def aeadPlaysRow : OpenClaim := { program := "ytjeclimoknilcaa", sum := "a6ee167c226cae430e8407af600fc275aff23c94b3d02b42ff9b2e5891ea1036", func := "causey/causeylaw05.AeadPlays", spec := "aeadPlays", inPlace := ["internal/abi.NoEscape", "internal/bytealg.MakeNoZero", "math/bits.Add64"], unfollowed := true, recurses := true, apart := false }
def AeadPlaysSaid : Prop := aeadPlaysRow.holds Try.pinned (OpenSpec.ofChange aeadPlaysSpec)

/-- ITS FALSE NEIGHBOUR: 'it returns false'. Refute it at one input. -/
def aeadPlaysWrong : ChangeSpec := { name := "aeadPlays", fn := fun _ => fun
  | [d1, d2, d3, d4] => { results := [.lit (.bool false)], args := [d1, d2, d3, d4] }
  | _ => none }
def AeadPlaysWrongFalsely : Prop := aeadPlaysRow.holds Try.pinned (OpenSpec.ofChange aeadPlaysWrong)

/-- 'causeylaw05.AeadTags': WHATEVER THE INPUT: true; the input reads as it did. -/
def aeadTagsSpec : ChangeSpec := { name := "aeadTags", fn := fun _ => fun
  | [d1, d2, d3, d4] => { results := [.lit (.bool true)], args := [d1, d2, d3, d4] }
  | _ => none }
def aeadTagsRow : OpenClaim := { program := "ytjeclimoknilcaa", sum := "a6ee167c226cae430e8407af600fc275aff23c94b3d02b42ff9b2e5891ea1036", func := "causey/causeylaw05.AeadTags", spec := "aeadTags", inPlace := ["internal/abi.NoEscape", "internal/bytealg.MakeNoZero", "math/bits.Add64"], unfollowed := true, recurses := true, apart := false }
def AeadTagsSaid : Prop := aeadTagsRow.holds Try.pinned (OpenSpec.ofChange aeadTagsSpec)

/-- ITS FALSE NEIGHBOUR: 'it returns false'. Refute it at one input. -/
def aeadTagsWrong : ChangeSpec := { name := "aeadTags", fn := fun _ => fun
  | [d1, d2, d3, d4] => { results := [.lit (.bool false)], args := [d1, d2, d3, d4] }
  | _ => none }
def AeadTagsWrongFalsely : Prop := aeadTagsRow.holds Try.pinned (OpenSpec.ofChange aeadTagsWrong)

/-- 'causeylaw05.AeadNonces': WHATEVER THE INPUT: true; the input reads as it did. -/
def aeadNoncesSpec : ChangeSpec := { name := "aeadNonces", fn := fun _ => fun
  | [d1, d2] => { results := [.lit (.bool true)], args := [d1, d2] }
  | _ => none }
def aeadNoncesRow : OpenClaim := { program := "ytjeclimoknilcaa", sum := "a6ee167c226cae430e8407af600fc275aff23c94b3d02b42ff9b2e5891ea1036", func := "causey/causeylaw05.AeadNonces", spec := "aeadNonces", inPlace := ["internal/abi.NoEscape", "internal/bytealg.MakeNoZero", "math/bits.Add64"], unfollowed := true, recurses := true, apart := false }
def AeadNoncesSaid : Prop := aeadNoncesRow.holds Try.pinned (OpenSpec.ofChange aeadNoncesSpec)

/-- ITS FALSE NEIGHBOUR: 'it returns false'. Refute it at one input. -/
def aeadNoncesWrong : ChangeSpec := { name := "aeadNonces", fn := fun _ => fun
  | [d1, d2] => { results := [.lit (.bool false)], args := [d1, d2] }
  | _ => none }
def AeadNoncesWrongFalsely : Prop := aeadNoncesRow.holds Try.pinned (OpenSpec.ofChange aeadNoncesWrong)

/-- 'causeylaw05.AeadBack': WHATEVER THE INPUT: true; the input reads as it did. -/
def aeadBackSpec : ChangeSpec := { name := "aeadBack", fn := fun _ => fun
  | [d1, d2, d3, d4] => { results := [.lit (.bool true)], args := [d1, d2, d3, d4] }
  | _ => none }
def aeadBackRow : OpenClaim := { program := "ytjeclimoknilcaa", sum := "a6ee167c226cae430e8407af600fc275aff23c94b3d02b42ff9b2e5891ea1036", func := "causey/causeylaw05.AeadBack", spec := "aeadBack", inPlace := ["internal/abi.NoEscape", "internal/bytealg.MakeNoZero", "math/bits.Add64"], unfollowed := true, recurses := true, apart := false }
def AeadBackSaid : Prop := aeadBackRow.holds Try.pinned (OpenSpec.ofChange aeadBackSpec)

/-- ITS FALSE NEIGHBOUR: 'it returns false'. Refute it at one input. -/
def aeadBackWrong : ChangeSpec := { name := "aeadBack", fn := fun _ => fun
  | [d1, d2, d3, d4] => { results := [.lit (.bool false)], args := [d1, d2, d3, d4] }
  | _ => none }
def AeadBackWrongFalsely : Prop := aeadBackRow.holds Try.pinned (OpenSpec.ofChange aeadBackWrong)

/-- 'causeylaw05.AeadOnly': WHATEVER THE INPUT: true; the input reads as it did. -/
def aeadOnlySpec : ChangeSpec := { name := "aeadOnly", fn := fun _ => fun
  | [d1, d2, d3, d4] => { results := [.lit (.bool true)], args := [d1, d2, d3, d4] }
  | _ => none }
def aeadOnlyRow : OpenClaim := { program := "ytjeclimoknilcaa", sum := "a6ee167c226cae430e8407af600fc275aff23c94b3d02b42ff9b2e5891ea1036", func := "causey/causeylaw05.AeadOnly", spec := "aeadOnly", inPlace := ["internal/abi.NoEscape", "internal/bytealg.MakeNoZero", "math/bits.Add64"], unfollowed := true, recurses := true, apart := false }
def AeadOnlySaid : Prop := aeadOnlyRow.holds Try.pinned (OpenSpec.ofChange aeadOnlySpec)

/-- ITS FALSE NEIGHBOUR: 'it returns false'. Refute it at one input. -/
def aeadOnlyWrong : ChangeSpec := { name := "aeadOnly", fn := fun _ => fun
  | [d1, d2, d3, d4] => { results := [.lit (.bool false)], args := [d1, d2, d3, d4] }
  | _ => none }
def AeadOnlyWrongFalsely : Prop := aeadOnlyRow.holds Try.pinned (OpenSpec.ofChange aeadOnlyWrong)

/-- 'causeylaw05.AeadSpoilt': WHATEVER THE INPUT: true; the input reads as it did. -/
def aeadSpoiltSpec : ChangeSpec := { name := "aeadSpoilt", fn := fun _ => fun
  | [d1, d2, d3, d4, d5, d6] => { results := [.lit (.bool true)], args := [d1, d2, d3, d4, d5, d6] }
  | _ => none }
def aeadSpoiltRow : OpenClaim := { program := "ytjeclimoknilcaa", sum := "a6ee167c226cae430e8407af600fc275aff23c94b3d02b42ff9b2e5891ea1036", func := "causey/causeylaw05.AeadSpoilt", spec := "aeadSpoilt", inPlace := ["internal/abi.NoEscape", "internal/bytealg.MakeNoZero", "math/bits.Add64"], unfollowed := true, recurses := true, apart := false }
def AeadSpoiltSaid : Prop := aeadSpoiltRow.holds Try.pinned (OpenSpec.ofChange aeadSpoiltSpec)

/-- ITS FALSE NEIGHBOUR: 'it returns false'. Refute it at one input. -/
def aeadSpoiltWrong : ChangeSpec := { name := "aeadSpoilt", fn := fun _ => fun
  | [d1, d2, d3, d4, d5, d6] => { results := [.lit (.bool false)], args := [d1, d2, d3, d4, d5, d6] }
  | _ => none }
def AeadSpoiltWrongFalsely : Prop := aeadSpoiltRow.holds Try.pinned (OpenSpec.ofChange aeadSpoiltWrong)

/-- 'causeylaw05.AeadBeside': WHATEVER THE INPUT: true; the input reads as it did. -/
def aeadBesideSpec : ChangeSpec := { name := "aeadBeside", fn := fun _ => fun
  | [d1, d2, d3, d4, d5] => { results := [.lit (.bool true)], args := [d1, d2, d3, d4, d5] }
  | _ => none }
def aeadBesideRow : OpenClaim := { program := "ytjeclimoknilcaa", sum := "a6ee167c226cae430e8407af600fc275aff23c94b3d02b42ff9b2e5891ea1036", func := "causey/causeylaw05.AeadBeside", spec := "aeadBeside", inPlace := ["internal/abi.NoEscape", "internal/bytealg.MakeNoZero", "math/bits.Add64"], unfollowed := true, recurses := true, apart := false }
def AeadBesideSaid : Prop := aeadBesideRow.holds Try.pinned (OpenSpec.ofChange aeadBesideSpec)

/-- ITS FALSE NEIGHBOUR: 'it returns false'. Refute it at one input. -/
def aeadBesideWrong : ChangeSpec := { name := "aeadBeside", fn := fun _ => fun
  | [d1, d2, d3, d4, d5] => { results := [.lit (.bool false)], args := [d1, d2, d3, d4, d5] }
  | _ => none }
def AeadBesideWrongFalsely : Prop := aeadBesideRow.holds Try.pinned (OpenSpec.ofChange aeadBesideWrong)

/- THE SECOND FORM. 'bulk': how many values and letters a reading holds, each counted each time it is reached (what is shared counts as often as it is met; a slice's spare places count too). A statement '..UptoSaid' is the law's where the arguments, and the package variables that the reading takes, are together of bulk at most 1048576: NARROWER than '..Said'. Prove '..Said' where nothing that the law and all that it calls make is longer than what came in: it says more and counts as full. Else prove '..UptoSaid'. A law counts once. -/
mutual
def uptoBulk {H : Type} : DataW H → Nat
  | .lit (.string bytes) => bytes.length + 1
  | .lit _ => 1
  | .nil => 1
  | .ptr d => uptoBulk d + 1
  | .slice elems spare => uptoBulkAll elems + uptoBulkAll spare + 1
  | .agg parts => uptoBulkAll parts + 1
  | .iface _ d => uptoBulk d + 1
  | .map entries => uptoBulkEntries entries + 1
  | .held _ => 1
def uptoBulkAll {H : Type} : List (DataW H) → Nat
  | [] => 0
  | d :: r => uptoBulk d + uptoBulkAll r
def uptoBulkEntries {H : Type} : List (Lit × DataW H) → Nat
  | [] => 0
  | x :: r => uptoBulkEntry x + uptoBulkEntries r
def uptoBulkEntry {H : Type} : Lit × DataW H → Nat
  | (.string bytes, d) => bytes.length + uptoBulk d + 1
  | (_, d) => uptoBulk d + 1
 end
def uptoSmall : (H : Type) → List (DataW H) → Bool := fun _ ds => decide (uptoBulkAll ds ≤ 1048576)
def OpenSpec.upto (s : _root_.Go.ChangeSpec) : _root_.Go.OpenSpec := { _root_.Go.OpenSpec.ofChange s with cond := some uptoSmall }

/-- 'causeylaw05.AeadPlays', WHERE WHAT IT READS IS OF BULK AT MOST 1048576: true; the input reads as it did. -/
def aeadPlaysUptoRow : OpenClaim := { program := "ytjeclimoknilcaa", sum := "a6ee167c226cae430e8407af600fc275aff23c94b3d02b42ff9b2e5891ea1036", func := "causey/causeylaw05.AeadPlays", spec := "aeadPlays", inPlace := ["internal/abi.NoEscape", "internal/bytealg.MakeNoZero", "math/bits.Add64"], unfollowed := true, recurses := true, apart := false, narrowed := true }
def AeadPlaysUptoSaid : Prop := aeadPlaysUptoRow.holds Try.pinned (OpenSpec.upto aeadPlaysSpec)

/-- 'causeylaw05.AeadTags', WHERE WHAT IT READS IS OF BULK AT MOST 1048576: true; the input reads as it did. -/
def aeadTagsUptoRow : OpenClaim := { program := "ytjeclimoknilcaa", sum := "a6ee167c226cae430e8407af600fc275aff23c94b3d02b42ff9b2e5891ea1036", func := "causey/causeylaw05.AeadTags", spec := "aeadTags", inPlace := ["internal/abi.NoEscape", "internal/bytealg.MakeNoZero", "math/bits.Add64"], unfollowed := true, recurses := true, apart := false, narrowed := true }
def AeadTagsUptoSaid : Prop := aeadTagsUptoRow.holds Try.pinned (OpenSpec.upto aeadTagsSpec)

/-- 'causeylaw05.AeadNonces', WHERE WHAT IT READS IS OF BULK AT MOST 1048576: true; the input reads as it did. -/
def aeadNoncesUptoRow : OpenClaim := { program := "ytjeclimoknilcaa", sum := "a6ee167c226cae430e8407af600fc275aff23c94b3d02b42ff9b2e5891ea1036", func := "causey/causeylaw05.AeadNonces", spec := "aeadNonces", inPlace := ["internal/abi.NoEscape", "internal/bytealg.MakeNoZero", "math/bits.Add64"], unfollowed := true, recurses := true, apart := false, narrowed := true }
def AeadNoncesUptoSaid : Prop := aeadNoncesUptoRow.holds Try.pinned (OpenSpec.upto aeadNoncesSpec)

/-- 'causeylaw05.AeadBack', WHERE WHAT IT READS IS OF BULK AT MOST 1048576: true; the input reads as it did. -/
def aeadBackUptoRow : OpenClaim := { program := "ytjeclimoknilcaa", sum := "a6ee167c226cae430e8407af600fc275aff23c94b3d02b42ff9b2e5891ea1036", func := "causey/causeylaw05.AeadBack", spec := "aeadBack", inPlace := ["internal/abi.NoEscape", "internal/bytealg.MakeNoZero", "math/bits.Add64"], unfollowed := true, recurses := true, apart := false, narrowed := true }
def AeadBackUptoSaid : Prop := aeadBackUptoRow.holds Try.pinned (OpenSpec.upto aeadBackSpec)

/-- 'causeylaw05.AeadOnly', WHERE WHAT IT READS IS OF BULK AT MOST 1048576: true; the input reads as it did. -/
def aeadOnlyUptoRow : OpenClaim := { program := "ytjeclimoknilcaa", sum := "a6ee167c226cae430e8407af600fc275aff23c94b3d02b42ff9b2e5891ea1036", func := "causey/causeylaw05.AeadOnly", spec := "aeadOnly", inPlace := ["internal/abi.NoEscape", "internal/bytealg.MakeNoZero", "math/bits.Add64"], unfollowed := true, recurses := true, apart := false, narrowed := true }
def AeadOnlyUptoSaid : Prop := aeadOnlyUptoRow.holds Try.pinned (OpenSpec.upto aeadOnlySpec)

/-- 'causeylaw05.AeadSpoilt', WHERE WHAT IT READS IS OF BULK AT MOST 1048576: true; the input reads as it did. -/
def aeadSpoiltUptoRow : OpenClaim := { program := "ytjeclimoknilcaa", sum := "a6ee167c226cae430e8407af600fc275aff23c94b3d02b42ff9b2e5891ea1036", func := "causey/causeylaw05.AeadSpoilt", spec := "aeadSpoilt", inPlace := ["internal/abi.NoEscape", "internal/bytealg.MakeNoZero", "math/bits.Add64"], unfollowed := true, recurses := true, apart := false, narrowed := true }
def AeadSpoiltUptoSaid : Prop := aeadSpoiltUptoRow.holds Try.pinned (OpenSpec.upto aeadSpoiltSpec)

/-- 'causeylaw05.AeadBeside', WHERE WHAT IT READS IS OF BULK AT MOST 1048576: true; the input reads as it did. -/
def aeadBesideUptoRow : OpenClaim := { program := "ytjeclimoknilcaa", sum := "a6ee167c226cae430e8407af600fc275aff23c94b3d02b42ff9b2e5891ea1036", func := "causey/causeylaw05.AeadBeside", spec := "aeadBeside", inPlace := ["internal/abi.NoEscape", "internal/bytealg.MakeNoZero", "math/bits.Add64"], unfollowed := true, recurses := true, apart := false, narrowed := true }
def AeadBesideUptoSaid : Prop := aeadBesideUptoRow.holds Try.pinned (OpenSpec.upto aeadBesideSpec)

end Rows
end Go.Proofs.Ytjeclimoknilcaa
