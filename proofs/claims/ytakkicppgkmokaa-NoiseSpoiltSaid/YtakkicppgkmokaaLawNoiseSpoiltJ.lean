/- The law NoiseSpoilt is true for every input: with a byte of the seal changed nothing is opened; of another length it is refused. -/
import Derived.Test.YtakkicppgkmokaaJ52
set_option linter.unusedSimpArgs false
set_option linter.unusedVariables false
set_option maxRecDepth 4000
namespace Go.Proofs.Ytakkicppgkmokaa
open Go.ChangeShapes Go.WideShapes Go.ChangeAt Go.RowKit
set_option maxRecDepth 100000 in
theorem noiseSpoilt_lifted (os : Os) (started : os.Started) (H : Type) (enc : TypeId × Value → H) :
    ReturnsInHanded {} Try.checked os 5 .any (Rows.noiseSpoiltSpec.pre6 enc Try.prog Try.f5 Rows.noiseSpoiltRow.domain false) (Rows.noiseSpoiltSpec.post enc Try.prog Try.f5 false true false false) := by
  refine returnsInHanded_of_change (C := Try.checked) own started (by kernel_rfl) Try.func5
    (ChangeSpec.witness6 (enc := enc) (C := Try.checked) false ⟨#[], #[.agg (List.replicate 32 (.int .u8 0)).toArray, .agg (List.replicate 32 (.int .u8 0)).toArray, .agg (List.replicate 32 (.int .u8 0)).toArray, .int .u8 0, .int .u8 1, .int .u8 0], []⟩ 8 (by kernel_rfl) (by kernel_rfl) (by kernel_rfl) (by kernel_rfl)) ?_
  intro W base args ds gs before hval0 hW hcnd _
  have hval : ∀ (j : Nat) t v, Try.f5.params[j]? = some t → args[j]? = some v → Value.okWide Try.prog W .any base t v := hval0
  have hlen : args.size = Try.f5.params.size := by
    obtain ⟨p, q, hA, _⟩ := hW
    have := (trodAll_len _ _ _ _ hA).1
    simpa using this
  exact (noiseSpoilt_walk W base args hlen hval).mono fun e W' ⟨he, hb⟩ => ⟨.bool true, he, law_post laidOut (by kernel_rfl) Try.underlying4 (by kernel_rfl) rfl (by intro ds h; rcases ds with _ | ⟨d1, _ | ⟨d2, _ | ⟨d3, _ | ⟨d4, _ | ⟨d5, _ | ⟨d6, _ | ⟨d7, ds⟩⟩⟩⟩⟩⟩⟩ <;> simp at h <;> exact ⟨rfl, rfl, rfl⟩) hW hb⟩
theorem noiseSpoilt_holds : Rows.NoiseSpoiltSaid :=
  OpenClaim.holds_of_wide 5 Try.f5 rfl rfl rfl rfl rfl rfl rfl ⟨rfl, rfl, rfl, rfl, rfl⟩ rfl rfl rfl rfl rfl (by kernel_rfl) Try.func5 (by kernel_rfl)
    (of_decide_eq_true (by kernel_rfl)) (by unfold Func.isWrapper; first | (rw [if_pos (by decide +kernel)]; kernel_rfl) | (rw [if_neg (by decide +kernel)]; exact ⟨rfl, rfl⟩))
    (fun os started H enc _ => noiseSpoilt_lifted os started H enc)
#print axioms noiseSpoilt_holds
end Go.Proofs.Ytakkicppgkmokaa
