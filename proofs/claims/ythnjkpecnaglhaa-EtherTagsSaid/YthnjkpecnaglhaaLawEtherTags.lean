/- The law EtherTags is true for every input: a tag makes a frame four bytes longer; without it the frame is the same. -/
import Derived.Test.YthnjkpecnaglhaaEthW4
set_option linter.unusedSimpArgs false
set_option linter.unusedVariables false
namespace Go.Proofs.Ythnjkpecnaglhaa
open Go.ChangeShapes Go.WideShapes Go.ChangeAt Go.RowKit
set_option maxRecDepth 100000 in
theorem etherTags_lifted (os : Os) (started : os.Started) (H : Type) (enc : TypeId × Value → H) :
    ReturnsInHanded {} Try.checked os 12 .any (Rows.etherTagsSpec.pre6 enc Try.prog Try.f12 Rows.etherTagsRow.domain false) (Rows.etherTagsSpec.post enc Try.prog Try.f12 false true false false) := by
  refine returnsInHanded_of_change (C := Try.checked) own started (by kernel_rfl) Try.func12
    (ChangeSpec.witness6 (enc := enc) (C := Try.checked) false ⟨#[], #[.agg (List.replicate 12 (Value.int .u8 0) ++ [Value.int .i64 0, .string ByteArray.empty, .int .i64 0, .int .i64 0]).toArray, .int .u16 0, .int .u8 0], []⟩ 8 (by kernel_rfl) (by kernel_rfl) (by kernel_rfl) (by kernel_rfl)) ?_
  intro W base args ds gs before hval0 hW hcnd _
  have hval : ∀ (j : Nat) t v, Try.f12.params[j]? = some t → args[j]? = some v → Value.okWide Try.prog W .any base t v := hval0
  have hlen : args.size = Try.f12.params.size := by
    obtain ⟨p, q, hA, _⟩ := hW
    have := (trodAll_len _ _ _ _ hA).1
    simpa using this
  exact (etherTags_walk W base args hlen hval).mono fun e W' ⟨he, hb⟩ => ⟨.bool true, he, law_post laidOut (by kernel_rfl) Try.underlying4 (by kernel_rfl) rfl (by intro ds h; rcases ds with _ | ⟨d1, _ | ⟨d2, _ | ⟨d3, _ | ⟨d4, ds⟩⟩⟩⟩ <;> simp at h <;> exact ⟨rfl, rfl, rfl⟩) hW hb⟩
theorem etherTags_holds : Rows.EtherTagsSaid :=
  OpenClaim.holds_of_wide 12 Try.f12 rfl rfl rfl rfl rfl rfl rfl ⟨rfl, rfl, rfl, rfl, rfl⟩ rfl rfl rfl rfl rfl (by kernel_rfl) Try.func12 (by kernel_rfl)
    (of_decide_eq_true (by kernel_rfl)) (by unfold Func.isWrapper; first | (rw [if_pos (by decide +kernel)]; kernel_rfl) | (rw [if_neg (by decide +kernel)]; exact ⟨rfl, rfl⟩))
    (fun os started H enc _ => etherTags_lifted os started H enc)
#print axioms etherTags_holds
end Go.Proofs.Ythnjkpecnaglhaa
