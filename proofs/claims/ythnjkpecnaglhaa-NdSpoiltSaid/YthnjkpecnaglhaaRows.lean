/-
  No cell of these rows narrows 'for every input' (looked for: loops, veiled, ifaces, maps, wideKeys, modest, calm, conditions, laid).
  DERIVED. THE GIVEN ROWS OF THIS SEAT. 12 by the template 'for every input the law returns true; each argument reads behind the call as it read before'; 0 by the template 'total and deterministic' (their statements: YthnjkpecnaglhaaTotals.lean).
  GIVEN WITH THE SEED: the statements are not yours to turn. If you find one false, say at which input.
  Laid BY PROGRAM, IN A SANDBOX (cutbox-rows.mjs): the forced cells as the released guide's own fill.sh prints them over the translation f728bab9c224f4d9… (all of the seat's roots in one cut). By AI agents, Wed Nov 11 2026. No macro, syntax, notation, axiom, sorry.
-/
import Derived.Test.YthnjkpecnaglhaaChecked
import GoSem.Claim
import GoSem.ClaimJoined
import GoSem.ClaimMapViews
import Derived.JoinedTies
import Derived.KernelRfl
namespace Go.Proofs.Ythnjkpecnaglhaa
/- THE CELL 'sum', in the pinned program and in every row, IS THE sha256 OF THE DUMP (.gsa) THAT YthnjkpecnaglhaaProg.lean LOADS. Nothing in Lean hashes anything: it is a label: what it is worth is what the hold of that sum in a sandbox is worth. -/
noncomputable def Try.pinned : Pinned := { name := "ythnjkpecnaglhaa", sum := "f728bab9c224f4d95b6ca22f53ab4fd79a0bbf7dc4de51250259ae1069105bc9", checked := Try.checked }
namespace Rows
def none {H : Type} : Left H := { results := [], args := [] }

/-- 'causeylaw09.ArpBack': WHATEVER THE INPUT: true; the input reads as it did. -/
def arpBackSpec : ChangeSpec := { name := "arpBack", fn := fun _ => fun
  | [d1, d2] => { results := [.lit (.bool true)], args := [d1, d2] }
  | _ => none }
def arpBackRow : OpenClaim := { program := "ythnjkpecnaglhaa", sum := "f728bab9c224f4d95b6ca22f53ab4fd79a0bbf7dc4de51250259ae1069105bc9", func := "causey/causeylaw09.ArpBack", spec := "arpBack", unfollowed := true, recurses := true, apart := false }
def ArpBackSaid : Prop := arpBackRow.holds Try.pinned (OpenSpec.ofChange arpBackSpec)

/-- ITS FALSE NEIGHBOUR: 'it returns false'. Refute it at one input. -/
def arpBackWrong : ChangeSpec := { name := "arpBack", fn := fun _ => fun
  | [d1, d2] => { results := [.lit (.bool false)], args := [d1, d2] }
  | _ => none }
def ArpBackWrongFalsely : Prop := arpBackRow.holds Try.pinned (OpenSpec.ofChange arpBackWrong)

/-- 'causeylaw09.ArpPlays': WHATEVER THE INPUT: true; the input reads as it did. -/
def arpPlaysSpec : ChangeSpec := { name := "arpPlays", fn := fun _ => fun
  | [d1, d2] => { results := [.lit (.bool true)], args := [d1, d2] }
  | _ => none }
def arpPlaysRow : OpenClaim := { program := "ythnjkpecnaglhaa", sum := "f728bab9c224f4d95b6ca22f53ab4fd79a0bbf7dc4de51250259ae1069105bc9", func := "causey/causeylaw09.ArpPlays", spec := "arpPlays", unfollowed := true, recurses := true, apart := false }
def ArpPlaysSaid : Prop := arpPlaysRow.holds Try.pinned (OpenSpec.ofChange arpPlaysSpec)

/-- ITS FALSE NEIGHBOUR: 'it returns false'. Refute it at one input. -/
def arpPlaysWrong : ChangeSpec := { name := "arpPlays", fn := fun _ => fun
  | [d1, d2] => { results := [.lit (.bool false)], args := [d1, d2] }
  | _ => none }
def ArpPlaysWrongFalsely : Prop := arpPlaysRow.holds Try.pinned (OpenSpec.ofChange arpPlaysWrong)

/-- 'causeylaw09.ArpCut': WHATEVER THE INPUT: true; the input reads as it did. -/
def arpCutSpec : ChangeSpec := { name := "arpCut", fn := fun _ => fun
  | [d1, d2, d3] => { results := [.lit (.bool true)], args := [d1, d2, d3] }
  | _ => none }
def arpCutRow : OpenClaim := { program := "ythnjkpecnaglhaa", sum := "f728bab9c224f4d95b6ca22f53ab4fd79a0bbf7dc4de51250259ae1069105bc9", func := "causey/causeylaw09.ArpCut", spec := "arpCut", unfollowed := true, recurses := true, apart := false }
def ArpCutSaid : Prop := arpCutRow.holds Try.pinned (OpenSpec.ofChange arpCutSpec)

/-- ITS FALSE NEIGHBOUR: 'it returns false'. Refute it at one input. -/
def arpCutWrong : ChangeSpec := { name := "arpCut", fn := fun _ => fun
  | [d1, d2, d3] => { results := [.lit (.bool false)], args := [d1, d2, d3] }
  | _ => none }
def ArpCutWrongFalsely : Prop := arpCutRow.holds Try.pinned (OpenSpec.ofChange arpCutWrong)

/-- 'causeylaw09.ArpFrames': WHATEVER THE INPUT: true; the input reads as it did. -/
def arpFramesSpec : ChangeSpec := { name := "arpFrames", fn := fun _ => fun
  | [d1, d2, d3, d4] => { results := [.lit (.bool true)], args := [d1, d2, d3, d4] }
  | _ => none }
def arpFramesRow : OpenClaim := { program := "ythnjkpecnaglhaa", sum := "f728bab9c224f4d95b6ca22f53ab4fd79a0bbf7dc4de51250259ae1069105bc9", func := "causey/causeylaw09.ArpFrames", spec := "arpFrames", unfollowed := true, recurses := true, apart := false }
def ArpFramesSaid : Prop := arpFramesRow.holds Try.pinned (OpenSpec.ofChange arpFramesSpec)

/-- ITS FALSE NEIGHBOUR: 'it returns false'. Refute it at one input. -/
def arpFramesWrong : ChangeSpec := { name := "arpFrames", fn := fun _ => fun
  | [d1, d2, d3, d4] => { results := [.lit (.bool false)], args := [d1, d2, d3, d4] }
  | _ => none }
def ArpFramesWrongFalsely : Prop := arpFramesRow.holds Try.pinned (OpenSpec.ofChange arpFramesWrong)

/-- 'causeylaw10.NdBack': WHATEVER THE INPUT: true; the input reads as it did. -/
def ndBackSpec : ChangeSpec := { name := "ndBack", fn := fun _ => fun
  | [d1, d2] => { results := [.lit (.bool true)], args := [d1, d2] }
  | _ => none }
def ndBackRow : OpenClaim := { program := "ythnjkpecnaglhaa", sum := "f728bab9c224f4d95b6ca22f53ab4fd79a0bbf7dc4de51250259ae1069105bc9", func := "causey/causeylaw10.NdBack", spec := "ndBack", unfollowed := true, recurses := true, apart := false }
def NdBackSaid : Prop := ndBackRow.holds Try.pinned (OpenSpec.ofChange ndBackSpec)

/-- ITS FALSE NEIGHBOUR: 'it returns false'. Refute it at one input. -/
def ndBackWrong : ChangeSpec := { name := "ndBack", fn := fun _ => fun
  | [d1, d2] => { results := [.lit (.bool false)], args := [d1, d2] }
  | _ => none }
def NdBackWrongFalsely : Prop := ndBackRow.holds Try.pinned (OpenSpec.ofChange ndBackWrong)

/-- 'causeylaw10.NdSpoilt': WHATEVER THE INPUT: true; the input reads as it did. -/
def ndSpoiltSpec : ChangeSpec := { name := "ndSpoilt", fn := fun _ => fun
  | [d1, d2, d3] => { results := [.lit (.bool true)], args := [d1, d2, d3] }
  | _ => none }
def ndSpoiltRow : OpenClaim := { program := "ythnjkpecnaglhaa", sum := "f728bab9c224f4d95b6ca22f53ab4fd79a0bbf7dc4de51250259ae1069105bc9", func := "causey/causeylaw10.NdSpoilt", spec := "ndSpoilt", unfollowed := true, recurses := true, apart := false }
def NdSpoiltSaid : Prop := ndSpoiltRow.holds Try.pinned (OpenSpec.ofChange ndSpoiltSpec)

/-- ITS FALSE NEIGHBOUR: 'it returns false'. Refute it at one input. -/
def ndSpoiltWrong : ChangeSpec := { name := "ndSpoilt", fn := fun _ => fun
  | [d1, d2, d3] => { results := [.lit (.bool false)], args := [d1, d2, d3] }
  | _ => none }
def NdSpoiltWrongFalsely : Prop := ndSpoiltRow.holds Try.pinned (OpenSpec.ofChange ndSpoiltWrong)

/-- 'causeylaw10.NdCut': WHATEVER THE INPUT: true; the input reads as it did. -/
def ndCutSpec : ChangeSpec := { name := "ndCut", fn := fun _ => fun
  | [d1, d2] => { results := [.lit (.bool true)], args := [d1, d2] }
  | _ => none }
def ndCutRow : OpenClaim := { program := "ythnjkpecnaglhaa", sum := "f728bab9c224f4d95b6ca22f53ab4fd79a0bbf7dc4de51250259ae1069105bc9", func := "causey/causeylaw10.NdCut", spec := "ndCut", unfollowed := true, recurses := true, apart := false }
def NdCutSaid : Prop := ndCutRow.holds Try.pinned (OpenSpec.ofChange ndCutSpec)

/-- ITS FALSE NEIGHBOUR: 'it returns false'. Refute it at one input. -/
def ndCutWrong : ChangeSpec := { name := "ndCut", fn := fun _ => fun
  | [d1, d2] => { results := [.lit (.bool false)], args := [d1, d2] }
  | _ => none }
def NdCutWrongFalsely : Prop := ndCutRow.holds Try.pinned (OpenSpec.ofChange ndCutWrong)

/-- 'causeylaw08.EtherBack': WHATEVER THE INPUT: true; the input reads as it did. -/
def etherBackSpec : ChangeSpec := { name := "etherBack", fn := fun _ => fun
  | [d] => { results := [.lit (.bool true)], args := [d] }
  | _ => none }
def etherBackRow : OpenClaim := { program := "ythnjkpecnaglhaa", sum := "f728bab9c224f4d95b6ca22f53ab4fd79a0bbf7dc4de51250259ae1069105bc9", func := "causey/causeylaw08.EtherBack", spec := "etherBack", unfollowed := true, recurses := true, apart := false }
def EtherBackSaid : Prop := etherBackRow.holds Try.pinned (OpenSpec.ofChange etherBackSpec)

/-- ITS FALSE NEIGHBOUR: 'it returns false'. Refute it at one input. -/
def etherBackWrong : ChangeSpec := { name := "etherBack", fn := fun _ => fun
  | [d] => { results := [.lit (.bool false)], args := [d] }
  | _ => none }
def EtherBackWrongFalsely : Prop := etherBackRow.holds Try.pinned (OpenSpec.ofChange etherBackWrong)

/-- 'causeylaw08.EtherAgain': WHATEVER THE INPUT: true; the input reads as it did. -/
def etherAgainSpec : ChangeSpec := { name := "etherAgain", fn := fun _ => fun
  | [d] => { results := [.lit (.bool true)], args := [d] }
  | _ => none }
def etherAgainRow : OpenClaim := { program := "ythnjkpecnaglhaa", sum := "f728bab9c224f4d95b6ca22f53ab4fd79a0bbf7dc4de51250259ae1069105bc9", func := "causey/causeylaw08.EtherAgain", spec := "etherAgain", unfollowed := true, recurses := true, apart := false }
def EtherAgainSaid : Prop := etherAgainRow.holds Try.pinned (OpenSpec.ofChange etherAgainSpec)

/-- ITS FALSE NEIGHBOUR: 'it returns false'. Refute it at one input. -/
def etherAgainWrong : ChangeSpec := { name := "etherAgain", fn := fun _ => fun
  | [d] => { results := [.lit (.bool false)], args := [d] }
  | _ => none }
def EtherAgainWrongFalsely : Prop := etherAgainRow.holds Try.pinned (OpenSpec.ofChange etherAgainWrong)

/-- 'causeylaw08.EtherTags': WHATEVER THE INPUT: true; the input reads as it did. -/
def etherTagsSpec : ChangeSpec := { name := "etherTags", fn := fun _ => fun
  | [d1, d2, d3] => { results := [.lit (.bool true)], args := [d1, d2, d3] }
  | _ => none }
def etherTagsRow : OpenClaim := { program := "ythnjkpecnaglhaa", sum := "f728bab9c224f4d95b6ca22f53ab4fd79a0bbf7dc4de51250259ae1069105bc9", func := "causey/causeylaw08.EtherTags", spec := "etherTags", unfollowed := true, recurses := true, apart := false }
def EtherTagsSaid : Prop := etherTagsRow.holds Try.pinned (OpenSpec.ofChange etherTagsSpec)

/-- ITS FALSE NEIGHBOUR: 'it returns false'. Refute it at one input. -/
def etherTagsWrong : ChangeSpec := { name := "etherTags", fn := fun _ => fun
  | [d1, d2, d3] => { results := [.lit (.bool false)], args := [d1, d2, d3] }
  | _ => none }
def EtherTagsWrongFalsely : Prop := etherTagsRow.holds Try.pinned (OpenSpec.ofChange etherTagsWrong)

/-- 'causeylaw08.EtherCut': WHATEVER THE INPUT: true; the input reads as it did. -/
def etherCutSpec : ChangeSpec := { name := "etherCut", fn := fun _ => fun
  | [d1, d2] => { results := [.lit (.bool true)], args := [d1, d2] }
  | _ => none }
def etherCutRow : OpenClaim := { program := "ythnjkpecnaglhaa", sum := "f728bab9c224f4d95b6ca22f53ab4fd79a0bbf7dc4de51250259ae1069105bc9", func := "causey/causeylaw08.EtherCut", spec := "etherCut", unfollowed := true, recurses := true, apart := false }
def EtherCutSaid : Prop := etherCutRow.holds Try.pinned (OpenSpec.ofChange etherCutSpec)

/-- ITS FALSE NEIGHBOUR: 'it returns false'. Refute it at one input. -/
def etherCutWrong : ChangeSpec := { name := "etherCut", fn := fun _ => fun
  | [d1, d2] => { results := [.lit (.bool false)], args := [d1, d2] }
  | _ => none }
def EtherCutWrongFalsely : Prop := etherCutRow.holds Try.pinned (OpenSpec.ofChange etherCutWrong)

/-- 'causeylaw10.NdAnswers': WHATEVER THE INPUT: true; the input reads as it did. -/
def ndAnswersSpec : ChangeSpec := { name := "ndAnswers", fn := fun _ => fun
  | [d1, d2, d3] => { results := [.lit (.bool true)], args := [d1, d2, d3] }
  | _ => none }
def ndAnswersRow : OpenClaim := { program := "ythnjkpecnaglhaa", sum := "f728bab9c224f4d95b6ca22f53ab4fd79a0bbf7dc4de51250259ae1069105bc9", func := "causey/causeylaw10.NdAnswers", spec := "ndAnswers", unfollowed := true, recurses := true, apart := false }
def NdAnswersSaid : Prop := ndAnswersRow.holds Try.pinned (OpenSpec.ofChange ndAnswersSpec)

/-- ITS FALSE NEIGHBOUR: 'it returns false'. Refute it at one input. -/
def ndAnswersWrong : ChangeSpec := { name := "ndAnswers", fn := fun _ => fun
  | [d1, d2, d3] => { results := [.lit (.bool false)], args := [d1, d2, d3] }
  | _ => none }
def NdAnswersWrongFalsely : Prop := ndAnswersRow.holds Try.pinned (OpenSpec.ofChange ndAnswersWrong)

/- THE SECOND FORM. 'bulk': how many values and letters a reading holds, each counted each time it is reached (what is shared counts as often as it is met; a slice's spare places count too). A statement '..UptoSaid' is the law's where the arguments, and the package variables that the reading takes, are together of bulk at most 1048576: NARROWER than '..Said'. Prove '..Said' where nothing that the law and all that it calls make is longer than what came in: it says more and counts as full. Else prove '..UptoSaid'. A law counts once. -/
mutual
def uptoBulk {H : Type} : DataW H → Nat
  | .lit (.string bytes) => bytes.length + 1
  | .lit _ => 1
  | .nil => 1
  | .ptr d => uptoBulk d + 1
  | .slice elems spare => uptoBulkAll elems + uptoBulkAll spare + 1
  | .agg parts => uptoBulkAll parts + 1
  | .iface _ d => uptoBulk d + 1
  | .map entries => uptoBulkEntries entries + 1
  | .held _ => 1
def uptoBulkAll {H : Type} : List (DataW H) → Nat
  | [] => 0
  | d :: r => uptoBulk d + uptoBulkAll r
def uptoBulkEntries {H : Type} : List (Lit × DataW H) → Nat
  | [] => 0
  | x :: r => uptoBulkEntry x + uptoBulkEntries r
def uptoBulkEntry {H : Type} : Lit × DataW H → Nat
  | (.string bytes, d) => bytes.length + uptoBulk d + 1
  | (_, d) => uptoBulk d + 1
 end
def uptoSmall : (H : Type) → List (DataW H) → Bool := fun _ ds => decide (uptoBulkAll ds ≤ 1048576)
def OpenSpec.upto (s : _root_.Go.ChangeSpec) : _root_.Go.OpenSpec := { _root_.Go.OpenSpec.ofChange s with cond := some uptoSmall }

/-- 'causeylaw09.ArpBack', WHERE WHAT IT READS IS OF BULK AT MOST 1048576: true; the input reads as it did. -/
def arpBackUptoRow : OpenClaim := { program := "ythnjkpecnaglhaa", sum := "f728bab9c224f4d95b6ca22f53ab4fd79a0bbf7dc4de51250259ae1069105bc9", func := "causey/causeylaw09.ArpBack", spec := "arpBack", unfollowed := true, recurses := true, apart := false, narrowed := true }
def ArpBackUptoSaid : Prop := arpBackUptoRow.holds Try.pinned (OpenSpec.upto arpBackSpec)

/-- 'causeylaw09.ArpPlays', WHERE WHAT IT READS IS OF BULK AT MOST 1048576: true; the input reads as it did. -/
def arpPlaysUptoRow : OpenClaim := { program := "ythnjkpecnaglhaa", sum := "f728bab9c224f4d95b6ca22f53ab4fd79a0bbf7dc4de51250259ae1069105bc9", func := "causey/causeylaw09.ArpPlays", spec := "arpPlays", unfollowed := true, recurses := true, apart := false, narrowed := true }
def ArpPlaysUptoSaid : Prop := arpPlaysUptoRow.holds Try.pinned (OpenSpec.upto arpPlaysSpec)

/-- 'causeylaw09.ArpCut', WHERE WHAT IT READS IS OF BULK AT MOST 1048576: true; the input reads as it did. -/
def arpCutUptoRow : OpenClaim := { program := "ythnjkpecnaglhaa", sum := "f728bab9c224f4d95b6ca22f53ab4fd79a0bbf7dc4de51250259ae1069105bc9", func := "causey/causeylaw09.ArpCut", spec := "arpCut", unfollowed := true, recurses := true, apart := false, narrowed := true }
def ArpCutUptoSaid : Prop := arpCutUptoRow.holds Try.pinned (OpenSpec.upto arpCutSpec)

/-- 'causeylaw09.ArpFrames', WHERE WHAT IT READS IS OF BULK AT MOST 1048576: true; the input reads as it did. -/
def arpFramesUptoRow : OpenClaim := { program := "ythnjkpecnaglhaa", sum := "f728bab9c224f4d95b6ca22f53ab4fd79a0bbf7dc4de51250259ae1069105bc9", func := "causey/causeylaw09.ArpFrames", spec := "arpFrames", unfollowed := true, recurses := true, apart := false, narrowed := true }
def ArpFramesUptoSaid : Prop := arpFramesUptoRow.holds Try.pinned (OpenSpec.upto arpFramesSpec)

/-- 'causeylaw10.NdBack', WHERE WHAT IT READS IS OF BULK AT MOST 1048576: true; the input reads as it did. -/
def ndBackUptoRow : OpenClaim := { program := "ythnjkpecnaglhaa", sum := "f728bab9c224f4d95b6ca22f53ab4fd79a0bbf7dc4de51250259ae1069105bc9", func := "causey/causeylaw10.NdBack", spec := "ndBack", unfollowed := true, recurses := true, apart := false, narrowed := true }
def NdBackUptoSaid : Prop := ndBackUptoRow.holds Try.pinned (OpenSpec.upto ndBackSpec)

/-- 'causeylaw10.NdSpoilt', WHERE WHAT IT READS IS OF BULK AT MOST 1048576: true; the input reads as it did. -/
def ndSpoiltUptoRow : OpenClaim := { program := "ythnjkpecnaglhaa", sum := "f728bab9c224f4d95b6ca22f53ab4fd79a0bbf7dc4de51250259ae1069105bc9", func := "causey/causeylaw10.NdSpoilt", spec := "ndSpoilt", unfollowed := true, recurses := true, apart := false, narrowed := true }
def NdSpoiltUptoSaid : Prop := ndSpoiltUptoRow.holds Try.pinned (OpenSpec.upto ndSpoiltSpec)

/-- 'causeylaw10.NdCut', WHERE WHAT IT READS IS OF BULK AT MOST 1048576: true; the input reads as it did. -/
def ndCutUptoRow : OpenClaim := { program := "ythnjkpecnaglhaa", sum := "f728bab9c224f4d95b6ca22f53ab4fd79a0bbf7dc4de51250259ae1069105bc9", func := "causey/causeylaw10.NdCut", spec := "ndCut", unfollowed := true, recurses := true, apart := false, narrowed := true }
def NdCutUptoSaid : Prop := ndCutUptoRow.holds Try.pinned (OpenSpec.upto ndCutSpec)

/-- 'causeylaw08.EtherBack', WHERE WHAT IT READS IS OF BULK AT MOST 1048576: true; the input reads as it did. -/
def etherBackUptoRow : OpenClaim := { program := "ythnjkpecnaglhaa", sum := "f728bab9c224f4d95b6ca22f53ab4fd79a0bbf7dc4de51250259ae1069105bc9", func := "causey/causeylaw08.EtherBack", spec := "etherBack", unfollowed := true, recurses := true, apart := false, narrowed := true }
def EtherBackUptoSaid : Prop := etherBackUptoRow.holds Try.pinned (OpenSpec.upto etherBackSpec)

/-- 'causeylaw08.EtherAgain', WHERE WHAT IT READS IS OF BULK AT MOST 1048576: true; the input reads as it did. -/
def etherAgainUptoRow : OpenClaim := { program := "ythnjkpecnaglhaa", sum := "f728bab9c224f4d95b6ca22f53ab4fd79a0bbf7dc4de51250259ae1069105bc9", func := "causey/causeylaw08.EtherAgain", spec := "etherAgain", unfollowed := true, recurses := true, apart := false, narrowed := true }
def EtherAgainUptoSaid : Prop := etherAgainUptoRow.holds Try.pinned (OpenSpec.upto etherAgainSpec)

/-- 'causeylaw08.EtherTags', WHERE WHAT IT READS IS OF BULK AT MOST 1048576: true; the input reads as it did. -/
def etherTagsUptoRow : OpenClaim := { program := "ythnjkpecnaglhaa", sum := "f728bab9c224f4d95b6ca22f53ab4fd79a0bbf7dc4de51250259ae1069105bc9", func := "causey/causeylaw08.EtherTags", spec := "etherTags", unfollowed := true, recurses := true, apart := false, narrowed := true }
def EtherTagsUptoSaid : Prop := etherTagsUptoRow.holds Try.pinned (OpenSpec.upto etherTagsSpec)

/-- 'causeylaw08.EtherCut', WHERE WHAT IT READS IS OF BULK AT MOST 1048576: true; the input reads as it did. -/
def etherCutUptoRow : OpenClaim := { program := "ythnjkpecnaglhaa", sum := "f728bab9c224f4d95b6ca22f53ab4fd79a0bbf7dc4de51250259ae1069105bc9", func := "causey/causeylaw08.EtherCut", spec := "etherCut", unfollowed := true, recurses := true, apart := false, narrowed := true }
def EtherCutUptoSaid : Prop := etherCutUptoRow.holds Try.pinned (OpenSpec.upto etherCutSpec)

/-- 'causeylaw10.NdAnswers', WHERE WHAT IT READS IS OF BULK AT MOST 1048576: true; the input reads as it did. -/
def ndAnswersUptoRow : OpenClaim := { program := "ythnjkpecnaglhaa", sum := "f728bab9c224f4d95b6ca22f53ab4fd79a0bbf7dc4de51250259ae1069105bc9", func := "causey/causeylaw10.NdAnswers", spec := "ndAnswers", unfollowed := true, recurses := true, apart := false, narrowed := true }
def NdAnswersUptoSaid : Prop := ndAnswersUptoRow.holds Try.pinned (OpenSpec.upto ndAnswersSpec)

end Rows
end Go.Proofs.Ythnjkpecnaglhaa
