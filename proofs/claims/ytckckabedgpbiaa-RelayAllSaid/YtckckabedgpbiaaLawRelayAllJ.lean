/- The law RelayAll is true for every input: a frame to all goes out of each port that may, once. -/
import Derived.Test.YtckckabedgpbiaaJ52
import Derived.Test.YtckckabedgpbiaaJ12
import Derived.Test.YtckckabedgpbiaaJ22
set_option linter.unusedSimpArgs false
set_option linter.unusedVariables false
set_option maxRecDepth 4000
namespace Go.Proofs.Ytckckabedgpbiaa
open Go.ChangeShapes Go.WideShapes Go.ChangeAt Go.RowKit
theorem bytes_of : ∀ (l : List (List Value)), (∀ y ∈ l, goods [.int .u8] y) → ∃ bs : List Nat, l = bs.map (fun b : Nat => [Value.int .u8 (b : Int)]) ∧ ∀ b ∈ bs, b < 256
 | [], _ => ⟨[], rfl, by simp⟩
 | y :: l, h => by
  obtain ⟨bs, hb, hl⟩ := bytes_of l fun z hz => h z (by simp [hz])
  obtain ⟨n, r, e, hn, h2⟩ := goods_int (h y (by simp))
  have e2 := goods_nil h2
  subst e2
  have hn2 : 0 ≤ n ∧ n ≤ 255 := by simpa [IntKind.has, IntKind.min, IntKind.max, IntKind.bits, IntKind.signed] using hn
  refine ⟨n.toNat :: bs, ?_, ?_⟩
  ·
   rw [e, hb, List.map_cons]
   congr 3
   congr 1
   omega
  ·
   intro b hb2
   rcases List.mem_cons.1 hb2 with rfl | hb2
   ·
    omega
   ·
    exact hl b hb2
theorem relayAll_walk (W : World) (base : Nat) (args : Array Value) (hlen : args.size = Try.f8.params.size) (hval : ∀ (j : Nat) t v, Try.f8.params[j]? = some t → args[j]? = some v → Value.okWide Try.prog W .any base t v)
  (hread : ∀ (j : Nat) t v, Try.f8.params.toList[j]? = some t → args.toList[j]? = some v → Reads Try.prog W t v) :
  Calls Try.prog 8 args W fun e W' => e = .returned (.bool true) ∧ Below W.heap.size W W' := by
 obtain ⟨l⟩ := args
 match l, hlen with
 | [v0, v1, v2, v3], _ =>
 obtain ⟨pa, rs, cap, rfl, hp⟩ := open_rports (hval 0 61 v0 rfl rfl) (hread 0 61 v0 rfl rfl)
 obtain ⟨n1, rfl, h1⟩ := open_u8W Try.underlying5 (hval 1 5 v1 rfl rfl)
 obtain ⟨src, rfl⟩ := open_mac (hval 2 30 v2 rfl rfl)
 obtain ⟨l3, hl3, hg3⟩ := open_slW Try.underlying62 (good_int Try.underlying5 (by kernel_rfl)) (by decide) (hval 3 62 v3 rfl rfl) (hread 3 62 v3 rfl rfl)
 obtain ⟨bs, rfl, hb⟩ := bytes_of l3 hg3
 obtain ⟨ba, bcap, rfl, hm, hsl⟩ := sl_open hl3
 rw [List.length_map] at hm ⊢
 exact relayAll_any pa cap rs n1 src ba bcap bs W hp h1 ⟨by rw [List.length_map]; exact hm, hsl⟩ hb
set_option maxRecDepth 100000 in
theorem relayAll_lifted (os : Os) (started : os.Started) (H : Type) (enc : TypeId × Value → H) :
  ReturnsInHanded {} Try.checked os 8 .any (Rows.relayAllSpec.pre6 enc Try.prog Try.f8 Rows.relayAllRow.domain false) (Rows.relayAllSpec.post enc Try.prog Try.f8 false true false false) := by
 refine returnsInHanded_of_change (C := Try.checked) own started (by kernel_rfl) Try.func8
  (ChangeSpec.witness6 (enc := enc) (C := Try.checked) false ⟨#[], #[.slice none 0 0, .int .u8 0, .agg (List.replicate 6 (.int .u8 0)).toArray, .slice none 0 0], []⟩ 8 (by kernel_rfl) (by kernel_rfl) (by kernel_rfl) (by kernel_rfl)) ?_
 intro W base args ds gs before hval0 hW hcnd _
 have hval : ∀ (j : Nat) t v, Try.f8.params[j]? = some t → args[j]? = some v → Value.okWide Try.prog W .any base t v := hval0
 have hlen : args.size = Try.f8.params.size := by
  obtain ⟨p, q, hA, _⟩ := hW
  have := (trodAll_len _ _ _ _ hA).1
  simpa using this
 have hread : ∀ (j : Nat) t v, Try.f8.params.toList[j]? = some t → args.toList[j]? = some v → Reads Try.prog W t v := by
  obtain ⟨p, q, hA, _⟩ := hW
  exact reads_all hA
 exact (relayAll_walk W base args hlen hval hread).mono fun e W' ⟨he, hb⟩ => ⟨.bool true, he, law_post laidOut (by kernel_rfl) Try.underlying4 (by kernel_rfl) rfl (by intro ds h; rcases ds with _ | ⟨d1, _ | ⟨d2, _ | ⟨d3, _ | ⟨d4, _ | ⟨d5, ds⟩⟩⟩⟩⟩ <;> simp at h <;> exact ⟨rfl, rfl, rfl⟩) hW hb⟩
theorem relayAll_holds : Rows.RelayAllSaid :=
 OpenClaim.holds_of_wide 8 Try.f8 rfl rfl rfl rfl rfl rfl rfl ⟨rfl, rfl, rfl, rfl, rfl⟩ rfl rfl rfl rfl rfl (by kernel_rfl) Try.func8 (by kernel_rfl)
  (of_decide_eq_true (by kernel_rfl)) (by unfold Func.isWrapper; first | (rw [if_pos (by decide +kernel)]; kernel_rfl) | (rw [if_neg (by decide +kernel)]; exact ⟨rfl, rfl⟩))
  (fun os started H enc _ => relayAll_lifted os started H enc)
#print axioms relayAll_holds
end Go.Proofs.Ytckckabedgpbiaa
