/- The law HushSays is true for every input: what is answered was announced in that VLAN. -/
import Derived.Test.YtckckabedgpbiaaHusWSJ
set_option linter.unusedSimpArgs false
set_option linter.unusedVariables false
set_option maxRecDepth 4000
namespace Go.Proofs.Ytckckabedgpbiaa
open Go.ChangeShapes Go.WideShapes Go.ChangeAt Go.RowKit
set_option maxRecDepth 100000 in
theorem hushSays_lifted (os : Os) (started : os.Started) (H : Type) (enc : TypeId × Value → H) :
  ReturnsInHanded {} Try.checked os 3 .any (Rows.hushSaysSpec.pre6 enc Try.prog Try.f3 Rows.hushSaysRow.domain false) (Rows.hushSaysSpec.post enc Try.prog Try.f3 false true false false) := by
 refine returnsInHanded_of_change (C := Try.checked) own started (by kernel_rfl) Try.func3
  (ChangeSpec.witness6 (enc := enc) (C := Try.checked) false ⟨#[], #[.int .i64 0, .slice none 0 0], []⟩ 8 (by kernel_rfl) (by kernel_rfl) (by kernel_rfl) (by kernel_rfl)) ?_
 intro W base args ds gs before hval0 hW hcnd _
 have hval : ∀ (j : Nat) t v, Try.f3.params[j]? = some t → args[j]? = some v → Value.okWide Try.prog W .any base t v := hval0
 have hlen : args.size = Try.f3.params.size := by
  obtain ⟨p, q, hA, _⟩ := hW
  have := (trodAll_len _ _ _ _ hA).1
  simpa using this
 have hread : ∀ (j : Nat) t v, Try.f3.params.toList[j]? = some t → args.toList[j]? = some v → Reads Try.prog W t v := by
  obtain ⟨p, q, hA, _⟩ := hW
  exact reads_all hA
 exact (hushSays_walk W base args hlen hval hread).mono fun e W' ⟨he, hb⟩ => ⟨.bool true, he, law_post laidOut (by kernel_rfl) Try.underlying4 (by kernel_rfl) rfl (by intro ds h; rcases ds with _ | ⟨d1, _ | ⟨d2, _ | ⟨d3, ds⟩⟩⟩ <;> simp at h <;> exact ⟨rfl, rfl, rfl⟩) hW hb⟩
theorem hushSays_holds : Rows.HushSaysSaid :=
 OpenClaim.holds_of_wide 3 Try.f3 rfl rfl rfl rfl rfl rfl rfl ⟨rfl, rfl, rfl, rfl, rfl⟩ rfl rfl rfl rfl rfl (by kernel_rfl) Try.func3 (by kernel_rfl)
  (of_decide_eq_true (by kernel_rfl)) (by unfold Func.isWrapper; first | (rw [if_pos (by decide +kernel)]; kernel_rfl) | (rw [if_neg (by decide +kernel)]; exact ⟨rfl, rfl⟩))
  (fun os started H enc _ => hushSays_lifted os started H enc)
#print axioms hushSays_holds
end Go.Proofs.Ytckckabedgpbiaa
