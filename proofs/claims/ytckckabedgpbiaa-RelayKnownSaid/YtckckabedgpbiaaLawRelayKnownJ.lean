/- The law RelayKnown is true for every input: a frame to a station that was heard goes out of its port alone. -/
import Derived.Test.YtckckabedgpbiaaJ52
set_option linter.unusedSimpArgs false
set_option linter.unusedVariables false
set_option maxRecDepth 4000
namespace Go.Proofs.Ytckckabedgpbiaa
open Go.ChangeShapes Go.WideShapes Go.ChangeAt Go.RowKit
theorem relayKnown_walk (W : World) (base : Nat) (args : Array Value) (hlen : args.size = Try.f11.params.size) (hval : ∀ (j : Nat) t v, Try.f11.params[j]? = some t → args[j]? = some v → Value.okWide Try.prog W .any base t v)
  (hread : ∀ (j : Nat) t v, Try.f11.params.toList[j]? = some t → args.toList[j]? = some v → Reads Try.prog W t v) :
  Calls Try.prog 11 args W fun e W' => e = .returned (.bool true) ∧ Below W.heap.size W W' := by
 obtain ⟨l⟩ := args
 match l, hlen with
 | [v0, v1, v2, v3], _ =>
 obtain ⟨pa, rs, cap, rfl, hp⟩ := open_rports (hval 0 61 v0 rfl rfl) (hread 0 61 v0 rfl rfl)
 obtain ⟨n1, rfl, h1⟩ := open_u8W Try.underlying5 (hval 1 5 v1 rfl rfl)
 obtain ⟨n2, rfl, h2⟩ := open_u8W Try.underlying5 (hval 2 5 v2 rfl rfl)
 obtain ⟨n3, rfl, h3⟩ := open_u8W Try.underlying5 (hval 3 5 v3 rfl rfl)
 exact relayKnown_any pa cap rs n1 n2 n3 W hp h1 h2 h3
set_option maxRecDepth 100000 in
theorem relayKnown_lifted (os : Os) (started : os.Started) (H : Type) (enc : TypeId × Value → H) :
  ReturnsInHanded {} Try.checked os 11 .any (Rows.relayKnownSpec.pre6 enc Try.prog Try.f11 Rows.relayKnownRow.domain false) (Rows.relayKnownSpec.post enc Try.prog Try.f11 false true false false) := by
 refine returnsInHanded_of_change (C := Try.checked) own started (by kernel_rfl) Try.func11
  (ChangeSpec.witness6 (enc := enc) (C := Try.checked) false ⟨#[], #[.slice none 0 0, .int .u8 0, .int .u8 0, .int .u8 0], []⟩ 8 (by kernel_rfl) (by kernel_rfl) (by kernel_rfl) (by kernel_rfl)) ?_
 intro W base args ds gs before hval0 hW hcnd _
 have hval : ∀ (j : Nat) t v, Try.f11.params[j]? = some t → args[j]? = some v → Value.okWide Try.prog W .any base t v := hval0
 have hlen : args.size = Try.f11.params.size := by
  obtain ⟨p, q, hA, _⟩ := hW
  have := (trodAll_len _ _ _ _ hA).1
  simpa using this
 have hread : ∀ (j : Nat) t v, Try.f11.params.toList[j]? = some t → args.toList[j]? = some v → Reads Try.prog W t v := by
  obtain ⟨p, q, hA, _⟩ := hW
  exact reads_all hA
 exact (relayKnown_walk W base args hlen hval hread).mono fun e W' ⟨he, hb⟩ => ⟨.bool true, he, law_post laidOut (by kernel_rfl) Try.underlying4 (by kernel_rfl) rfl (by intro ds h; rcases ds with _ | ⟨d1, _ | ⟨d2, _ | ⟨d3, _ | ⟨d4, _ | ⟨d5, ds⟩⟩⟩⟩⟩ <;> simp at h <;> exact ⟨rfl, rfl, rfl⟩) hW hb⟩
theorem relayKnown_holds : Rows.RelayKnownSaid :=
 OpenClaim.holds_of_wide 11 Try.f11 rfl rfl rfl rfl rfl rfl rfl ⟨rfl, rfl, rfl, rfl, rfl⟩ rfl rfl rfl rfl rfl (by kernel_rfl) Try.func11 (by kernel_rfl)
  (of_decide_eq_true (by kernel_rfl)) (by unfold Func.isWrapper; first | (rw [if_pos (by decide +kernel)]; kernel_rfl) | (rw [if_neg (by decide +kernel)]; exact ⟨rfl, rfl⟩))
  (fun os started H enc _ => relayKnown_lifted os started H enc)
#print axioms relayKnown_holds
end Go.Proofs.Ytckckabedgpbiaa
