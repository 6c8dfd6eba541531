/- The law NdAnswers is true for every input: the answer's frame goes to who asked, from the station; its body is parsed as an answer about what was asked. -/
import Derived.Test.YthnjkpecnaglhaaNdW3
set_option linter.unusedSimpArgs false
set_option linter.unusedVariables false
namespace Go.Proofs.Ythnjkpecnaglhaa
open Go.ChangeShapes Go.WideShapes Go.ChangeAt Go.RowKit
set_option maxRecDepth 100000 in
theorem ndAnswers_lifted (os : Os) (started : os.Started) (H : Type) (enc : TypeId × Value → H) :
    ReturnsInHanded {} Try.checked os 14 .any (Rows.ndAnswersSpec.pre6 enc Try.prog Try.f14 Rows.ndAnswersRow.domain false) (Rows.ndAnswersSpec.post enc Try.prog Try.f14 false true false false) := by
  refine returnsInHanded_of_change (C := Try.checked) own started (by kernel_rfl) Try.func14
    (ChangeSpec.witness6 (enc := enc) (C := Try.checked) false ⟨#[], #[.agg (Value.int .i64 0 :: (List.replicate 54 (.int .u8 0) ++ (.bool false :: List.replicate 4 (.int .u8 0)))).toArray, .agg (List.replicate 6 (Value.int .u8 0)).toArray, .agg (List.replicate 6 (Value.int .u8 0)).toArray], []⟩ 8 (by kernel_rfl) (by kernel_rfl) (by kernel_rfl) (by kernel_rfl)) ?_
  intro W base args ds gs before hval0 hW hcnd _
  have hval : ∀ (j : Nat) t v, Try.f14.params[j]? = some t → args[j]? = some v → Value.okWide Try.prog W .any base t v := hval0
  have hlen : args.size = Try.f14.params.size := by
    obtain ⟨p, q, hA, _⟩ := hW
    have := (trodAll_len _ _ _ _ hA).1
    simpa using this
  exact (ndAnswers_walk W base args hlen hval).mono fun e W' ⟨he, hb⟩ => ⟨.bool true, he, law_post laidOut (by kernel_rfl) Try.underlying4 (by kernel_rfl) rfl (by intro ds h; rcases ds with _ | ⟨d1, _ | ⟨d2, _ | ⟨d3, _ | ⟨d4, ds⟩⟩⟩⟩ <;> simp at h <;> exact ⟨rfl, rfl, rfl⟩) hW hb⟩
theorem ndAnswers_holds : Rows.NdAnswersSaid :=
  OpenClaim.holds_of_wide 14 Try.f14 rfl rfl rfl rfl rfl rfl rfl ⟨rfl, rfl, rfl, rfl, rfl⟩ rfl rfl rfl rfl rfl (by kernel_rfl) Try.func14 (by kernel_rfl)
    (of_decide_eq_true (by kernel_rfl)) (by unfold Func.isWrapper; first | (rw [if_pos (by decide +kernel)]; kernel_rfl) | (rw [if_neg (by decide +kernel)]; exact ⟨rfl, rfl⟩))
    (fun os started H enc _ => ndAnswers_lifted os started H enc)
#print axioms ndAnswers_holds
end Go.Proofs.Ythnjkpecnaglhaa
