/-
  No cell of these rows narrows 'for every input' (looked for: loops, veiled, ifaces, maps, wideKeys, modest, calm, conditions, laid).
  DERIVED. THE GIVEN ROWS OF THIS SEAT. 10 by the template 'for every input the law returns true; each argument reads behind the call as it read before'; 0 by the template 'total and deterministic' (their statements: YtckckabedgpbiaaTotals.lean).
  GIVEN WITH THE SEED: the statements are not yours to turn. If you find one false, say at which input.
  Laid BY PROGRAM, IN A SANDBOX (cutbox-rows.mjs): the forced cells as the released guide's own fill.sh prints them over the translation b726a6d2df681b4e… (all of the seat's roots in one cut). By AI agents, Wed Nov 11 2026. No macro, syntax, notation, axiom, sorry.
-/
import Derived.Test.YtckckabedgpbiaaChecked
import GoSem.Claim
import GoSem.ClaimJoined
import GoSem.ClaimMapViews
import Derived.JoinedTies
import Derived.KernelRfl
namespace Go.Proofs.Ytckckabedgpbiaa
/- THE CELL 'sum', in the pinned program and in every row, IS THE sha256 OF THE DUMP (.gsa) THAT YtckckabedgpbiaaProg.lean LOADS. Nothing in Lean hashes anything: it is a label: what it is worth is what the hold of that sum in a sandbox is worth. -/
noncomputable def Try.pinned : Pinned := { name := "ytckckabedgpbiaa", sum := "b726a6d2df681b4e24aec6b8896716bcbb63e2db7bc14e565536790d493664e9", checked := Try.checked }
namespace Rows
def none {H : Type} : Left H := { results := [], args := [] }

/-- 'causeylaw21.HushSays': WHATEVER THE INPUT: true; the input reads as it did. -/
def hushSaysSpec : ChangeSpec := { name := "hushSays", fn := fun _ => fun
  | [d1, d2] => { results := [.lit (.bool true)], args := [d1, d2] }
  | _ => none }
def hushSaysRow : OpenClaim := { program := "ytckckabedgpbiaa", sum := "b726a6d2df681b4e24aec6b8896716bcbb63e2db7bc14e565536790d493664e9", func := "causey/causeylaw21.HushSays", spec := "hushSays", unfollowed := true, recurses := true, plainKeys := false, apart := false }
def HushSaysSaid : Prop := hushSaysRow.holds Try.pinned (OpenSpec.ofChange hushSaysSpec)

/-- ITS FALSE NEIGHBOUR: 'it returns false'. Refute it at one input. -/
def hushSaysWrong : ChangeSpec := { name := "hushSays", fn := fun _ => fun
  | [d1, d2] => { results := [.lit (.bool false)], args := [d1, d2] }
  | _ => none }
def HushSaysWrongFalsely : Prop := hushSaysRow.holds Try.pinned (OpenSpec.ofChange hushSaysWrong)

/-- 'causeylaw21.HushNew': WHATEVER THE INPUT: true; the input reads as it did. -/
def hushNewSpec : ChangeSpec := { name := "hushNew", fn := fun _ => fun
  | [d1, d2, d3] => { results := [.lit (.bool true)], args := [d1, d2, d3] }
  | _ => none }
def hushNewRow : OpenClaim := { program := "ytckckabedgpbiaa", sum := "b726a6d2df681b4e24aec6b8896716bcbb63e2db7bc14e565536790d493664e9", func := "causey/causeylaw21.HushNew", spec := "hushNew", unfollowed := true, recurses := true, plainKeys := false, apart := false }
def HushNewSaid : Prop := hushNewRow.holds Try.pinned (OpenSpec.ofChange hushNewSpec)

/-- ITS FALSE NEIGHBOUR: 'it returns false'. Refute it at one input. -/
def hushNewWrong : ChangeSpec := { name := "hushNew", fn := fun _ => fun
  | [d1, d2, d3] => { results := [.lit (.bool false)], args := [d1, d2, d3] }
  | _ => none }
def HushNewWrongFalsely : Prop := hushNewRow.holds Try.pinned (OpenSpec.ofChange hushNewWrong)

/-- 'causeylaw21.HushPlays': WHATEVER THE INPUT: true; the input reads as it did. -/
def hushPlaysSpec : ChangeSpec := { name := "hushPlays", fn := fun _ => fun
  | [d1, d2] => { results := [.lit (.bool true)], args := [d1, d2] }
  | _ => none }
def hushPlaysRow : OpenClaim := { program := "ytckckabedgpbiaa", sum := "b726a6d2df681b4e24aec6b8896716bcbb63e2db7bc14e565536790d493664e9", func := "causey/causeylaw21.HushPlays", spec := "hushPlays", unfollowed := true, recurses := true, plainKeys := false, apart := false }
def HushPlaysSaid : Prop := hushPlaysRow.holds Try.pinned (OpenSpec.ofChange hushPlaysSpec)

/-- ITS FALSE NEIGHBOUR: 'it returns false'. Refute it at one input. -/
def hushPlaysWrong : ChangeSpec := { name := "hushPlays", fn := fun _ => fun
  | [d1, d2] => { results := [.lit (.bool false)], args := [d1, d2] }
  | _ => none }
def HushPlaysWrongFalsely : Prop := hushPlaysRow.holds Try.pinned (OpenSpec.ofChange hushPlaysWrong)

/-- 'causeylaw21.HushAnnounces': WHATEVER THE INPUT: true; the input reads as it did. -/
def hushAnnouncesSpec : ChangeSpec := { name := "hushAnnounces", fn := fun _ => fun
  | [d] => { results := [.lit (.bool true)], args := [d] }
  | _ => none }
def hushAnnouncesRow : OpenClaim := { program := "ytckckabedgpbiaa", sum := "b726a6d2df681b4e24aec6b8896716bcbb63e2db7bc14e565536790d493664e9", func := "causey/causeylaw21.HushAnnounces", spec := "hushAnnounces", unfollowed := true, recurses := true, plainKeys := false, apart := false }
def HushAnnouncesSaid : Prop := hushAnnouncesRow.holds Try.pinned (OpenSpec.ofChange hushAnnouncesSpec)

/-- ITS FALSE NEIGHBOUR: 'it returns false'. Refute it at one input. -/
def hushAnnouncesWrong : ChangeSpec := { name := "hushAnnounces", fn := fun _ => fun
  | [d] => { results := [.lit (.bool false)], args := [d] }
  | _ => none }
def HushAnnouncesWrongFalsely : Prop := hushAnnouncesRow.holds Try.pinned (OpenSpec.ofChange hushAnnouncesWrong)

/-- 'causeylaw21.HushApart': WHATEVER THE INPUT: true; the input reads as it did. -/
def hushApartSpec : ChangeSpec := { name := "hushApart", fn := fun _ => fun
  | [d1, d2, d3, d4, d5, d6, d7] => { results := [.lit (.bool true)], args := [d1, d2, d3, d4, d5, d6, d7] }
  | _ => none }
def hushApartRow : OpenClaim := { program := "ytckckabedgpbiaa", sum := "b726a6d2df681b4e24aec6b8896716bcbb63e2db7bc14e565536790d493664e9", func := "causey/causeylaw21.HushApart", spec := "hushApart", unfollowed := true, recurses := true, plainKeys := false, apart := false }
def HushApartSaid : Prop := hushApartRow.holds Try.pinned (OpenSpec.ofChange hushApartSpec)

/-- ITS FALSE NEIGHBOUR: 'it returns false'. Refute it at one input. -/
def hushApartWrong : ChangeSpec := { name := "hushApart", fn := fun _ => fun
  | [d1, d2, d3, d4, d5, d6, d7] => { results := [.lit (.bool false)], args := [d1, d2, d3, d4, d5, d6, d7] }
  | _ => none }
def HushApartWrongFalsely : Prop := hushApartRow.holds Try.pinned (OpenSpec.ofChange hushApartWrong)

/-- 'causeylaw22.RelayAll': WHATEVER THE INPUT: true; the input reads as it did. -/
def relayAllSpec : ChangeSpec := { name := "relayAll", fn := fun _ => fun
  | [d1, d2, d3, d4] => { results := [.lit (.bool true)], args := [d1, d2, d3, d4] }
  | _ => none }
def relayAllRow : OpenClaim := { program := "ytckckabedgpbiaa", sum := "b726a6d2df681b4e24aec6b8896716bcbb63e2db7bc14e565536790d493664e9", func := "causey/causeylaw22.RelayAll", spec := "relayAll", unfollowed := true, recurses := true, plainKeys := false, apart := false }
def RelayAllSaid : Prop := relayAllRow.holds Try.pinned (OpenSpec.ofChange relayAllSpec)

/-- ITS FALSE NEIGHBOUR: 'it returns false'. Refute it at one input. -/
def relayAllWrong : ChangeSpec := { name := "relayAll", fn := fun _ => fun
  | [d1, d2, d3, d4] => { results := [.lit (.bool false)], args := [d1, d2, d3, d4] }
  | _ => none }
def RelayAllWrongFalsely : Prop := relayAllRow.holds Try.pinned (OpenSpec.ofChange relayAllWrong)

/-- 'causeylaw22.RelayControl': WHATEVER THE INPUT: true; the input reads as it did. -/
def relayControlSpec : ChangeSpec := { name := "relayControl", fn := fun _ => fun
  | [d1, d2, d3, d4] => { results := [.lit (.bool true)], args := [d1, d2, d3, d4] }
  | _ => none }
def relayControlRow : OpenClaim := { program := "ytckckabedgpbiaa", sum := "b726a6d2df681b4e24aec6b8896716bcbb63e2db7bc14e565536790d493664e9", func := "causey/causeylaw22.RelayControl", spec := "relayControl", unfollowed := true, recurses := true, plainKeys := false, apart := false }
def RelayControlSaid : Prop := relayControlRow.holds Try.pinned (OpenSpec.ofChange relayControlSpec)

/-- ITS FALSE NEIGHBOUR: 'it returns false'. Refute it at one input. -/
def relayControlWrong : ChangeSpec := { name := "relayControl", fn := fun _ => fun
  | [d1, d2, d3, d4] => { results := [.lit (.bool false)], args := [d1, d2, d3, d4] }
  | _ => none }
def RelayControlWrongFalsely : Prop := relayControlRow.holds Try.pinned (OpenSpec.ofChange relayControlWrong)

/-- 'causeylaw22.RelayHears': WHATEVER THE INPUT: true; the input reads as it did. -/
def relayHearsSpec : ChangeSpec := { name := "relayHears", fn := fun _ => fun
  | [d1, d2, d3] => { results := [.lit (.bool true)], args := [d1, d2, d3] }
  | _ => none }
def relayHearsRow : OpenClaim := { program := "ytckckabedgpbiaa", sum := "b726a6d2df681b4e24aec6b8896716bcbb63e2db7bc14e565536790d493664e9", func := "causey/causeylaw22.RelayHears", spec := "relayHears", unfollowed := true, recurses := true, plainKeys := false, apart := false }
def RelayHearsSaid : Prop := relayHearsRow.holds Try.pinned (OpenSpec.ofChange relayHearsSpec)

/-- ITS FALSE NEIGHBOUR: 'it returns false'. Refute it at one input. -/
def relayHearsWrong : ChangeSpec := { name := "relayHears", fn := fun _ => fun
  | [d1, d2, d3] => { results := [.lit (.bool false)], args := [d1, d2, d3] }
  | _ => none }
def RelayHearsWrongFalsely : Prop := relayHearsRow.holds Try.pinned (OpenSpec.ofChange relayHearsWrong)

/-- 'causeylaw22.RelayKnown': WHATEVER THE INPUT: true; the input reads as it did. -/
def relayKnownSpec : ChangeSpec := { name := "relayKnown", fn := fun _ => fun
  | [d1, d2, d3, d4] => { results := [.lit (.bool true)], args := [d1, d2, d3, d4] }
  | _ => none }
def relayKnownRow : OpenClaim := { program := "ytckckabedgpbiaa", sum := "b726a6d2df681b4e24aec6b8896716bcbb63e2db7bc14e565536790d493664e9", func := "causey/causeylaw22.RelayKnown", spec := "relayKnown", unfollowed := true, recurses := true, plainKeys := false, apart := false }
def RelayKnownSaid : Prop := relayKnownRow.holds Try.pinned (OpenSpec.ofChange relayKnownSpec)

/-- ITS FALSE NEIGHBOUR: 'it returns false'. Refute it at one input. -/
def relayKnownWrong : ChangeSpec := { name := "relayKnown", fn := fun _ => fun
  | [d1, d2, d3, d4] => { results := [.lit (.bool false)], args := [d1, d2, d3, d4] }
  | _ => none }
def RelayKnownWrongFalsely : Prop := relayKnownRow.holds Try.pinned (OpenSpec.ofChange relayKnownWrong)

/-- 'causeylaw22.RelayOnce': WHATEVER THE INPUT: true; the input reads as it did. -/
def relayOnceSpec : ChangeSpec := { name := "relayOnce", fn := fun _ => fun
  | [d1, d2, d3] => { results := [.lit (.bool true)], args := [d1, d2, d3] }
  | _ => none }
def relayOnceRow : OpenClaim := { program := "ytckckabedgpbiaa", sum := "b726a6d2df681b4e24aec6b8896716bcbb63e2db7bc14e565536790d493664e9", func := "causey/causeylaw22.RelayOnce", spec := "relayOnce", unfollowed := true, recurses := true, plainKeys := false, apart := false }
def RelayOnceSaid : Prop := relayOnceRow.holds Try.pinned (OpenSpec.ofChange relayOnceSpec)

/-- ITS FALSE NEIGHBOUR: 'it returns false'. Refute it at one input. -/
def relayOnceWrong : ChangeSpec := { name := "relayOnce", fn := fun _ => fun
  | [d1, d2, d3] => { results := [.lit (.bool false)], args := [d1, d2, d3] }
  | _ => none }
def RelayOnceWrongFalsely : Prop := relayOnceRow.holds Try.pinned (OpenSpec.ofChange relayOnceWrong)

/- THE SECOND FORM. 'bulk': how many values and letters a reading holds, each counted each time it is reached (what is shared counts as often as it is met; a slice's spare places count too). A statement '..UptoSaid' is the law's where the arguments, and the package variables that the reading takes, are together of bulk at most 1048576: NARROWER than '..Said'. Prove '..Said' where nothing that the law and all that it calls make is longer than what came in: it says more and counts as full. Else prove '..UptoSaid'. A law counts once. -/
mutual
def uptoBulk {H : Type} : DataW H → Nat
  | .lit (.string bytes) => bytes.length + 1
  | .lit _ => 1
  | .nil => 1
  | .ptr d => uptoBulk d + 1
  | .slice elems spare => uptoBulkAll elems + uptoBulkAll spare + 1
  | .agg parts => uptoBulkAll parts + 1
  | .iface _ d => uptoBulk d + 1
  | .map entries => uptoBulkEntries entries + 1
  | .held _ => 1
def uptoBulkAll {H : Type} : List (DataW H) → Nat
  | [] => 0
  | d :: r => uptoBulk d + uptoBulkAll r
def uptoBulkEntries {H : Type} : List (Lit × DataW H) → Nat
  | [] => 0
  | x :: r => uptoBulkEntry x + uptoBulkEntries r
def uptoBulkEntry {H : Type} : Lit × DataW H → Nat
  | (.string bytes, d) => bytes.length + uptoBulk d + 1
  | (_, d) => uptoBulk d + 1
 end
def uptoSmall : (H : Type) → List (DataW H) → Bool := fun _ ds => decide (uptoBulkAll ds ≤ 1048576)
def OpenSpec.upto (s : _root_.Go.ChangeSpec) : _root_.Go.OpenSpec := { _root_.Go.OpenSpec.ofChange s with cond := some uptoSmall }

/-- 'causeylaw21.HushSays', WHERE WHAT IT READS IS OF BULK AT MOST 1048576: true; the input reads as it did. -/
def hushSaysUptoRow : OpenClaim := { program := "ytckckabedgpbiaa", sum := "b726a6d2df681b4e24aec6b8896716bcbb63e2db7bc14e565536790d493664e9", func := "causey/causeylaw21.HushSays", spec := "hushSays", unfollowed := true, recurses := true, plainKeys := false, apart := false, narrowed := true }
def HushSaysUptoSaid : Prop := hushSaysUptoRow.holds Try.pinned (OpenSpec.upto hushSaysSpec)

/-- 'causeylaw21.HushNew', WHERE WHAT IT READS IS OF BULK AT MOST 1048576: true; the input reads as it did. -/
def hushNewUptoRow : OpenClaim := { program := "ytckckabedgpbiaa", sum := "b726a6d2df681b4e24aec6b8896716bcbb63e2db7bc14e565536790d493664e9", func := "causey/causeylaw21.HushNew", spec := "hushNew", unfollowed := true, recurses := true, plainKeys := false, apart := false, narrowed := true }
def HushNewUptoSaid : Prop := hushNewUptoRow.holds Try.pinned (OpenSpec.upto hushNewSpec)

/-- 'causeylaw21.HushPlays', WHERE WHAT IT READS IS OF BULK AT MOST 1048576: true; the input reads as it did. -/
def hushPlaysUptoRow : OpenClaim := { program := "ytckckabedgpbiaa", sum := "b726a6d2df681b4e24aec6b8896716bcbb63e2db7bc14e565536790d493664e9", func := "causey/causeylaw21.HushPlays", spec := "hushPlays", unfollowed := true, recurses := true, plainKeys := false, apart := false, narrowed := true }
def HushPlaysUptoSaid : Prop := hushPlaysUptoRow.holds Try.pinned (OpenSpec.upto hushPlaysSpec)

/-- 'causeylaw21.HushAnnounces', WHERE WHAT IT READS IS OF BULK AT MOST 1048576: true; the input reads as it did. -/
def hushAnnouncesUptoRow : OpenClaim := { program := "ytckckabedgpbiaa", sum := "b726a6d2df681b4e24aec6b8896716bcbb63e2db7bc14e565536790d493664e9", func := "causey/causeylaw21.HushAnnounces", spec := "hushAnnounces", unfollowed := true, recurses := true, plainKeys := false, apart := false, narrowed := true }
def HushAnnouncesUptoSaid : Prop := hushAnnouncesUptoRow.holds Try.pinned (OpenSpec.upto hushAnnouncesSpec)

/-- 'causeylaw21.HushApart', WHERE WHAT IT READS IS OF BULK AT MOST 1048576: true; the input reads as it did. -/
def hushApartUptoRow : OpenClaim := { program := "ytckckabedgpbiaa", sum := "b726a6d2df681b4e24aec6b8896716bcbb63e2db7bc14e565536790d493664e9", func := "causey/causeylaw21.HushApart", spec := "hushApart", unfollowed := true, recurses := true, plainKeys := false, apart := false, narrowed := true }
def HushApartUptoSaid : Prop := hushApartUptoRow.holds Try.pinned (OpenSpec.upto hushApartSpec)

/-- 'causeylaw22.RelayAll', WHERE WHAT IT READS IS OF BULK AT MOST 1048576: true; the input reads as it did. -/
def relayAllUptoRow : OpenClaim := { program := "ytckckabedgpbiaa", sum := "b726a6d2df681b4e24aec6b8896716bcbb63e2db7bc14e565536790d493664e9", func := "causey/causeylaw22.RelayAll", spec := "relayAll", unfollowed := true, recurses := true, plainKeys := false, apart := false, narrowed := true }
def RelayAllUptoSaid : Prop := relayAllUptoRow.holds Try.pinned (OpenSpec.upto relayAllSpec)

/-- 'causeylaw22.RelayControl', WHERE WHAT IT READS IS OF BULK AT MOST 1048576: true; the input reads as it did. -/
def relayControlUptoRow : OpenClaim := { program := "ytckckabedgpbiaa", sum := "b726a6d2df681b4e24aec6b8896716bcbb63e2db7bc14e565536790d493664e9", func := "causey/causeylaw22.RelayControl", spec := "relayControl", unfollowed := true, recurses := true, plainKeys := false, apart := false, narrowed := true }
def RelayControlUptoSaid : Prop := relayControlUptoRow.holds Try.pinned (OpenSpec.upto relayControlSpec)

/-- 'causeylaw22.RelayHears', WHERE WHAT IT READS IS OF BULK AT MOST 1048576: true; the input reads as it did. -/
def relayHearsUptoRow : OpenClaim := { program := "ytckckabedgpbiaa", sum := "b726a6d2df681b4e24aec6b8896716bcbb63e2db7bc14e565536790d493664e9", func := "causey/causeylaw22.RelayHears", spec := "relayHears", unfollowed := true, recurses := true, plainKeys := false, apart := false, narrowed := true }
def RelayHearsUptoSaid : Prop := relayHearsUptoRow.holds Try.pinned (OpenSpec.upto relayHearsSpec)

/-- 'causeylaw22.RelayKnown', WHERE WHAT IT READS IS OF BULK AT MOST 1048576: true; the input reads as it did. -/
def relayKnownUptoRow : OpenClaim := { program := "ytckckabedgpbiaa", sum := "b726a6d2df681b4e24aec6b8896716bcbb63e2db7bc14e565536790d493664e9", func := "causey/causeylaw22.RelayKnown", spec := "relayKnown", unfollowed := true, recurses := true, plainKeys := false, apart := false, narrowed := true }
def RelayKnownUptoSaid : Prop := relayKnownUptoRow.holds Try.pinned (OpenSpec.upto relayKnownSpec)

/-- 'causeylaw22.RelayOnce', WHERE WHAT IT READS IS OF BULK AT MOST 1048576: true; the input reads as it did. -/
def relayOnceUptoRow : OpenClaim := { program := "ytckckabedgpbiaa", sum := "b726a6d2df681b4e24aec6b8896716bcbb63e2db7bc14e565536790d493664e9", func := "causey/causeylaw22.RelayOnce", spec := "relayOnce", unfollowed := true, recurses := true, plainKeys := false, apart := false, narrowed := true }
def RelayOnceUptoSaid : Prop := relayOnceUptoRow.holds Try.pinned (OpenSpec.upto relayOnceSpec)

end Rows
end Go.Proofs.Ytckckabedgpbiaa
