/- The law EtherAgain is true for every input: what ether.Parse parses is right, and printed it is what was parsed, but for what lies behind it; what it refuses is the empty frame. -/
import Derived.Test.YthnjkpecnaglhaaEthW2
set_option linter.unusedSimpArgs false
set_option linter.unusedVariables false
namespace Go.Proofs.Ythnjkpecnaglhaa
open Go.ChangeShapes Go.WideShapes Go.ChangeAt Go.RowKit
set_option maxRecDepth 100000 in
theorem etherAgain_lifted (os : Os) (started : os.Started) (H : Type) (enc : TypeId × Value → H) :
    ReturnsInHanded {} Try.checked os 11 .any (Rows.etherAgainSpec.pre6 enc Try.prog Try.f11 Rows.etherAgainRow.domain false) (Rows.etherAgainSpec.post enc Try.prog Try.f11 false true false false) := by
  refine returnsInHanded_of_change (C := Try.checked) own started (by kernel_rfl) Try.func11
    (ChangeSpec.witness6 (enc := enc) (C := Try.checked) false ⟨#[], #[.string ByteArray.empty], []⟩ 8 (by kernel_rfl) (by kernel_rfl) (by kernel_rfl) (by kernel_rfl)) ?_
  intro W base args ds gs before hval0 hW hcnd _
  have hval : ∀ (j : Nat) t v, Try.f11.params[j]? = some t → args[j]? = some v → Value.okWide Try.prog W .any base t v := hval0
  have hlen : args.size = Try.f11.params.size := by
    obtain ⟨p, q, hA, _⟩ := hW
    have := (trodAll_len _ _ _ _ hA).1
    simpa using this
  exact (etherAgain_walk W base args hlen hval).mono fun e W' ⟨he, hb⟩ => ⟨.bool true, he, law_post laidOut (by kernel_rfl) Try.underlying4 (by kernel_rfl) rfl (by intro ds h; rcases ds with _ | ⟨d1, _ | ⟨d2, ds⟩⟩ <;> simp at h <;> exact ⟨rfl, rfl, rfl⟩) hW hb⟩
theorem etherAgain_holds : Rows.EtherAgainSaid :=
  OpenClaim.holds_of_wide 11 Try.f11 rfl rfl rfl rfl rfl rfl rfl ⟨rfl, rfl, rfl, rfl, rfl⟩ rfl rfl rfl rfl rfl (by kernel_rfl) Try.func11 (by kernel_rfl)
    (of_decide_eq_true (by kernel_rfl)) (by unfold Func.isWrapper; first | (rw [if_pos (by decide +kernel)]; kernel_rfl) | (rw [if_neg (by decide +kernel)]; exact ⟨rfl, rfl⟩))
    (fun os started H enc _ => etherAgain_lifted os started H enc)
#print axioms etherAgain_holds
end Go.Proofs.Ythnjkpecnaglhaa
