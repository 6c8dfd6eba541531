/- Texts of this proof, merged: Nfa, Nfb, Nfc, Nfd, Nfe, Nff. -/
import Derived.Test.YtfopoijikdmiaaaGreatDoorRows
import Derived.JoinedOf
import Derived.LaidMore
import Derived.Stop.Joined
set_option maxRecDepth 100000
set_option maxHeartbeats 8000000
set_option maxRecDepth 20000
namespace Go.Proofs.YtfopoijikdmiaaaGreatDoor
section
theorem fabricRefuses_k1 : (Rows.fabricRefusesRow.wf (OpenSpec.ofChange Rows.fabricRefusesSpec)) = true := by kernel_rfl
theorem fabricRefuses_k2 : (laidOutB Tryz.pinned.checked.prog) = true := by kernel_rfl
theorem fabricRefuses_k3 : (mapsRowed Tryz.pinned.checked.prog) = true := by kernel_rfl
theorem fabricRefuses_k4 : (Tryz.f3.params.all (Tryz.pinned.checked.prog.readableRec ·)) = true := by kernel_rfl
theorem fabricRefuses_k5 : (namedTie Tryz.pinned.checked.prog Rows.fabricRefusesRow.named Rows.fabricRefusesSpec.vars) = true := by kernel_rfl
theorem fabricRefuses_k6 : ((Rows.fabricRefusesRow.stops == [])) = true := by kernel_rfl
theorem fabricRefuses_k7 : ((Tryz.pinned.checked.prog.stops == [])) = true := by kernel_rfl
theorem fabricRefuses_k8 : ((Rows.fabricRefusesRow.knobs == [])) = true := by kernel_rfl
theorem fabricRefuses_k9 : ((Tryz.pinned.checked.prog.stopKnobs == [])) = true := by kernel_rfl
theorem fabricRefuses_k14 : ((Rows.fabricRefusesRow.maps == (Tryz.f3.params.toList ++ Rows.fabricRefusesSpec.plain.varTypes Tryz.pinned.checked.prog).any (Tryz.pinned.checked.prog.mapsRec ·))) = true := by kernel_rfl
theorem fabricRefuses_k15 : ((Rows.fabricRefusesRow.ifaces == (Tryz.f3.params.toList ++ Rows.fabricRefusesSpec.plain.varTypes Tryz.pinned.checked.prog).any (Tryz.pinned.checked.prog.ifacesRec ·))) = true := by kernel_rfl
theorem fabricRefuses_k16 : ((Rows.fabricRefusesRow.mapsOut == Tryz.pinned.checked.prog.mapsAmong Tryz.f3.resultTypes.toList)) = true := by kernel_rfl
theorem fabricRefuses_k17 : ((Rows.fabricRefusesRow.loops == (Tryz.f3.params.toList ++ Rows.fabricRefusesSpec.plain.varTypes Tryz.pinned.checked.prog).any (Tryz.pinned.checked.prog.loopsFrom ·))) = true := by kernel_rfl
theorem fabricRefuses_k18 : ((Rows.fabricRefusesRow.wideKeys == (Tryz.f3.params.toList ++ Rows.fabricRefusesSpec.plain.varTypes Tryz.pinned.checked.prog ++ Tryz.f3.resultTypes.toList).any (Tryz.pinned.checked.prog.wideKeysFrom ·))) = true := by kernel_rfl
theorem fabricRefuses_k19 : (Rows.fabricRefusesSpec.vars.all (Tryz.pinned.checked.prog.varReadable ·)) = true := by kernel_rfl
theorem fabricRefuses_k20 : (Tryz.f3.resultTypes.all (fun t => Tryz.pinned.checked.prog.readableRec t && decide (t < Tryz.pinned.checked.prog.types.size))) = true := by kernel_rfl
theorem fabricRefuses_k21 : ((Rows.fabricRefusesRow.ifacesOut == Tryz.f3.resultTypes.toList.any (Tryz.pinned.checked.prog.ifacesRec ·))) = true := by kernel_rfl
theorem fabricRefuses_k22 : ((Rows.fabricRefusesRow.loopsOut == Tryz.f3.resultTypes.toList.any (Tryz.pinned.checked.prog.loopsFrom ·))) = true := by kernel_rfl
theorem fabricRefuses_k23 : ((Rows.fabricRefusesRow.plainKeys == Tryz.pinned.checked.prog.plainKeys)) = true := by kernel_rfl
theorem fabricRefuses_k24 : (Rows.fabricRefusesRow.shortTexts.isNone) = true := by kernel_rfl
theorem fabricRefuses_k25 : (Tryz.pinned.checked.prog.stopsHeard) = true := by kernel_rfl
theorem fabricRefuses_k26 : (Tryz.pinned.checked.prog.mayEnter) = true := by kernel_rfl
theorem fabricRefuses_k27 : ((Rows.fabricRefusesRow.lifted == Tryz.pinned.checked.prog.liftsFinal)) = true := by kernel_rfl
theorem fabricRefuses_k28 : ((Tryz.pinned.checked.prog.make == some Rows.fabricRefusesRow.make)) = true := by kernel_rfl
theorem fabricRefuses_k29 : ((Rows.fabricRefusesRow.kinds == (if Rows.fabricRefusesRow.domain.isEmpty then [] else Tryz.f3.params.toList.map fun t => match Tryz.pinned.checked.prog.underlying t with | some (.int k) => some k | _ => none))) = true := by kernel_rfl
theorem fabricRefuses_k30 : ((Rows.fabricRefusesRow.pinned == Rows.fabricRefusesRow.pinnedBy)) = true := by kernel_rfl
theorem fabricRefuses_k31 : ((Rows.fabricRefusesRow.veiled == (Tryz.f3.params.toList ++ Rows.fabricRefusesSpec.plain.varTypes Tryz.pinned.checked.prog ++ Tryz.f3.resultTypes.toList).any (Tryz.pinned.checked.prog.veiledRec ·))) = true := by kernel_rfl
theorem fabricRefuses_k32 : (Rows.fabricRefusesRow.veiledFits Tryz.pinned.checked.prog Tryz.f3.params.toList (Tryz.f3.params.toList ++ Rows.fabricRefusesSpec.plain.varTypes Tryz.pinned.checked.prog ++ Tryz.f3.resultTypes.toList)) = true := by kernel_rfl
end
section
theorem fabricRefuses_k10 : ((Rows.fabricRefusesRow.inPlace == Tryz.pinned.checked.prog.inPlace 3)) = true := by kernel_rfl
end
section
theorem fabricRefuses_k11 : ((Rows.fabricRefusesRow.unfollowed == Tryz.pinned.checked.prog.unfollowed 3)) = true := by kernel_rfl
end
section
theorem fabricRefuses_k12 : ((Rows.fabricRefusesRow.recurses == Tryz.pinned.checked.prog.recurses 3)) = true := by kernel_rfl
end
section
theorem fabricRefuses_k13 : ((Rows.fabricRefusesRow.named == Tryz.pinned.checked.prog.varsNamed 3)) = true := by kernel_rfl
end
section
theorem and_t {a b : Bool} (h : a = true) (k : b = true) : (a && b) = true := by rw [h, k]; rfl
theorem fabricRefuses_closed : joinedFacts Tryz.pinned.checked.prog 3 Tryz.f3 Rows.fabricRefusesSpec Rows.fabricRefusesRow = true := by
 unfold joinedFacts
 exact (and_t (and_t (and_t (and_t (and_t (and_t (and_t (and_t (and_t (and_t (and_t (and_t (and_t (and_t (and_t (and_t (and_t (and_t (and_t (and_t (and_t (and_t (and_t (and_t (and_t (and_t (and_t (and_t (and_t (and_t (and_t fabricRefuses_k1 fabricRefuses_k2) fabricRefuses_k3) fabricRefuses_k4) fabricRefuses_k5) fabricRefuses_k6) fabricRefuses_k7) fabricRefuses_k8) fabricRefuses_k9) fabricRefuses_k10) fabricRefuses_k11) fabricRefuses_k12) fabricRefuses_k13) fabricRefuses_k14) fabricRefuses_k15) fabricRefuses_k16) fabricRefuses_k17) fabricRefuses_k18) fabricRefuses_k19) fabricRefuses_k20) fabricRefuses_k21) fabricRefuses_k22) fabricRefuses_k23) fabricRefuses_k24) fabricRefuses_k25) fabricRefuses_k26) fabricRefuses_k27) fabricRefuses_k28) fabricRefuses_k29) fabricRefuses_k30) fabricRefuses_k31) fabricRefuses_k32)
theorem fabricRefuses_named : Tryz.pinned.checked.prog.funcNamed Rows.fabricRefusesRow.func = some 3 := by kernel_rfl
theorem fabricRefuses_inst : Tryz.f3.isInstance Tryz.pinned.checked.prog Rows.fabricRefusesRow.origin Rows.fabricRefusesRow.targs := of_decide_eq_true (by kernel_rfl)
theorem fabricRefuses_wrap : Tryz.f3.isWrapper Tryz.pinned.checked.prog Rows.fabricRefusesRow.wrapper Rows.fabricRefusesRow.mainSum := by
 unfold Func.isWrapper
 first | (rw [if_pos (by decide +kernel)]; kernel_rfl) | (rw [if_neg (by decide +kernel)]; exact ⟨rfl, rfl⟩)
theorem door_met (os : Os) (args : Array Value) : laidMetH Tryz.prog Rows.fabricRefusesRow.laid ((World.doorLaid Tryz.prog 24 os).forCall (fun _ _ => 0) ⟨#[], args, []⟩).memory :=
 laidMetH_of_parts3 (fuel := 8) (laidMet_of_run' 8 (by kernel_rfl) (by kernel_rfl)) (by kernel_rfl) (by kernel_rfl)
end
end Go.Proofs.YtfopoijikdmiaaaGreatDoor
