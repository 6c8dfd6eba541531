/- The law RelayHears is true for every input: a frame that is stopped changes nothing; of a port that learns its station is kept. -/
import Derived.Test.YtckckabedgpbiaaJ52
import Derived.Test.YtckckabedgpbiaaJ22
set_option linter.unusedSimpArgs false
set_option linter.unusedVariables false
set_option maxRecDepth 4000
namespace Go.Proofs.Ytckckabedgpbiaa
open Go.ChangeShapes Go.WideShapes Go.ChangeAt Go.RowKit
theorem open_frame2 {W : World} {base : Nat} {v : Value} (h : Value.okWide Try.prog W .any base 32 v) :
  ∃ (dst src : Vector UInt8 6) (ty : Int) (body : List UInt8), v = .agg (frameV dst src ty body).toArray ∧ body.length ≤ maxLen := by
 obtain ⟨vs, hv, hg⟩ := open_plain (ls := leaves 6 (.int .u8) ++ (leaves 6 (.int .u8) ++ (.int .i64 :: (.str :: [])))) Try.underlying32 (by kernel_rfl) (by kernel_rfl) (by kernel_rfl) h
 obtain ⟨dst, r1, e1, h1⟩ := goods_u8 hg
 obtain ⟨src, r2, e2, h2⟩ := goods_u8 h1
 obtain ⟨ty, r3, e3, _, h3⟩ := goods_int h2
 obtain ⟨body, r4, e4, hl, h4⟩ := goods_str h3
 have e5 := goods_nil h4
 exact ⟨dst, src, ty, body.toList, by rw [hv, e1, e2, e3, e4, e5]; simp [frameV], by simpa using hl⟩
theorem relayHears_walk (W : World) (base : Nat) (args : Array Value) (hlen : args.size = Try.f10.params.size) (hval : ∀ (j : Nat) t v, Try.f10.params[j]? = some t → args[j]? = some v → Value.okWide Try.prog W .any base t v)
  (hread : ∀ (j : Nat) t v, Try.f10.params.toList[j]? = some t → args.toList[j]? = some v → Reads Try.prog W t v) :
  Calls Try.prog 10 args W fun e W' => e = .returned (.bool true) ∧ Below W.heap.size W W' := by
 obtain ⟨l⟩ := args
 match l, hlen with
 | [v0, v1, v2], _ =>
 obtain ⟨pa, rs, cap, rfl, hp⟩ := open_rports (hval 0 61 v0 rfl rfl) (hread 0 61 v0 rfl rfl)
 obtain ⟨dst, src, ty, body, rfl, hb⟩ := open_frame2 (hval 1 32 v1 rfl rfl)
 obtain ⟨n1, rfl, h1⟩ := open_u8W Try.underlying5 (hval 2 5 v2 rfl rfl)
 exact relayHears_any pa cap rs dst src ty body n1 W hp h1 hb
set_option maxRecDepth 100000 in
theorem relayHears_lifted (os : Os) (started : os.Started) (H : Type) (enc : TypeId × Value → H) :
  ReturnsInHanded {} Try.checked os 10 .any (Rows.relayHearsSpec.pre6 enc Try.prog Try.f10 Rows.relayHearsRow.domain false) (Rows.relayHearsSpec.post enc Try.prog Try.f10 false true false false) := by
 refine returnsInHanded_of_change (C := Try.checked) own started (by kernel_rfl) Try.func10
  (ChangeSpec.witness6 (enc := enc) (C := Try.checked) false ⟨#[], #[.slice none 0 0, .agg (zeros 12 (Value.int .u8 0) ++ [Value.int .i64 0, Value.string ⟨#[]⟩]).toArray, .int .u8 0], []⟩ 8 (by kernel_rfl) (by kernel_rfl) (by kernel_rfl) (by kernel_rfl)) ?_
 intro W base args ds gs before hval0 hW hcnd _
 have hval : ∀ (j : Nat) t v, Try.f10.params[j]? = some t → args[j]? = some v → Value.okWide Try.prog W .any base t v := hval0
 have hlen : args.size = Try.f10.params.size := by
  obtain ⟨p, q, hA, _⟩ := hW
  have := (trodAll_len _ _ _ _ hA).1
  simpa using this
 have hread : ∀ (j : Nat) t v, Try.f10.params.toList[j]? = some t → args.toList[j]? = some v → Reads Try.prog W t v := by
  obtain ⟨p, q, hA, _⟩ := hW
  exact reads_all hA
 exact (relayHears_walk W base args hlen hval hread).mono fun e W' ⟨he, hb⟩ => ⟨.bool true, he, law_post laidOut (by kernel_rfl) Try.underlying4 (by kernel_rfl) rfl (by intro ds h; rcases ds with _ | ⟨d1, _ | ⟨d2, _ | ⟨d3, _ | ⟨d4, ds⟩⟩⟩⟩ <;> simp at h <;> exact ⟨rfl, rfl, rfl⟩) hW hb⟩
theorem relayHears_holds : Rows.RelayHearsSaid :=
 OpenClaim.holds_of_wide 10 Try.f10 rfl rfl rfl rfl rfl rfl rfl ⟨rfl, rfl, rfl, rfl, rfl⟩ rfl rfl rfl rfl rfl (by kernel_rfl) Try.func10 (by kernel_rfl)
  (of_decide_eq_true (by kernel_rfl)) (by unfold Func.isWrapper; first | (rw [if_pos (by decide +kernel)]; kernel_rfl) | (rw [if_neg (by decide +kernel)]; exact ⟨rfl, rfl⟩))
  (fun os started H enc _ => relayHears_lifted os started H enc)
#print axioms relayHears_holds
end Go.Proofs.Ytckckabedgpbiaa
