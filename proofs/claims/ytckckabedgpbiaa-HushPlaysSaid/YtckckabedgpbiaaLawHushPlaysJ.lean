/- The law HushPlays is true for every input: what is kept, and what is answered, is the document's. -/
import Derived.Test.YtckckabedgpbiaaJ52
set_option linter.unusedSimpArgs false
set_option linter.unusedVariables false
set_option maxRecDepth 4000
namespace Go.Proofs.Ytckckabedgpbiaa
open Go.ChangeShapes Go.WideShapes Go.ChangeAt Go.RowKit
theorem hushPlays_walk (W : World) (base : Nat) (args : Array Value) (hlen : args.size = Try.f5.params.size) (hval : ∀ (j : Nat) t v, Try.f5.params[j]? = some t → args[j]? = some v → Value.okWide Try.prog W .any base t v)
  (hread : ∀ (j : Nat) t v, Try.f5.params.toList[j]? = some t → args.toList[j]? = some v → Reads Try.prog W t v) :
  Calls Try.prog 5 args W fun e W' => e = .returned (.bool true) ∧ Below W.heap.size W W' := by
 obtain ⟨l⟩ := args
 match l, hlen with
 | [v0, v1], _ =>
 obtain ⟨n, rfl, _⟩ := open_intW Try.underlying3 (hval 0 3 v0 rfl rfl)
 obtain ⟨l, hl, hg⟩ := open_slW Try.underlying22 good_act (by decide) (hval 1 22 v1 rfl rfl) (hread 1 22 v1 rfl rfl)
 obtain ⟨acts, rfl⟩ := acts_of l hg
 obtain ⟨a, cap, rfl, hm, hsl⟩ := sl_open hl
 rw [List.length_map] at hm ⊢
 exact hushPlays_any n a cap acts W ⟨hm, fun i x hx => hsl i (actC x) (by rw [List.getElem?_map, hx]; rfl)⟩
set_option maxRecDepth 100000 in
theorem hushPlays_lifted (os : Os) (started : os.Started) (H : Type) (enc : TypeId × Value → H) :
  ReturnsInHanded {} Try.checked os 5 .any (Rows.hushPlaysSpec.pre6 enc Try.prog Try.f5 Rows.hushPlaysRow.domain false) (Rows.hushPlaysSpec.post enc Try.prog Try.f5 false true false false) := by
 refine returnsInHanded_of_change (C := Try.checked) own started (by kernel_rfl) Try.func5
  (ChangeSpec.witness6 (enc := enc) (C := Try.checked) false ⟨#[], #[.int .i64 0, .slice none 0 0], []⟩ 8 (by kernel_rfl) (by kernel_rfl) (by kernel_rfl) (by kernel_rfl)) ?_
 intro W base args ds gs before hval0 hW hcnd _
 have hval : ∀ (j : Nat) t v, Try.f5.params[j]? = some t → args[j]? = some v → Value.okWide Try.prog W .any base t v := hval0
 have hlen : args.size = Try.f5.params.size := by
  obtain ⟨p, q, hA, _⟩ := hW
  have := (trodAll_len _ _ _ _ hA).1
  simpa using this
 have hread : ∀ (j : Nat) t v, Try.f5.params.toList[j]? = some t → args.toList[j]? = some v → Reads Try.prog W t v := by
  obtain ⟨p, q, hA, _⟩ := hW
  exact reads_all hA
 exact (hushPlays_walk W base args hlen hval hread).mono fun e W' ⟨he, hb⟩ => ⟨.bool true, he, law_post laidOut (by kernel_rfl) Try.underlying4 (by kernel_rfl) rfl (by intro ds h; rcases ds with _ | ⟨d1, _ | ⟨d2, _ | ⟨d3, ds⟩⟩⟩ <;> simp at h <;> exact ⟨rfl, rfl, rfl⟩) hW hb⟩
theorem hushPlays_holds : Rows.HushPlaysSaid :=
 OpenClaim.holds_of_wide 5 Try.f5 rfl rfl rfl rfl rfl rfl rfl ⟨rfl, rfl, rfl, rfl, rfl⟩ rfl rfl rfl rfl rfl (by kernel_rfl) Try.func5 (by kernel_rfl)
  (of_decide_eq_true (by kernel_rfl)) (by unfold Func.isWrapper; first | (rw [if_pos (by decide +kernel)]; kernel_rfl) | (rw [if_neg (by decide +kernel)]; exact ⟨rfl, rfl⟩))
  (fun os started H enc _ => hushPlays_lifted os started H enc)
#print axioms hushPlays_holds
end Go.Proofs.Ytckckabedgpbiaa
