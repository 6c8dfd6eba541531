/- The law NodeRefuses is true for every input: what may not be is refused; nil is nothing. -/
import Derived.Test.YtcebllbikmgjpaaGreatJ51
import Derived.Test.YtcebllbikmgjpaaGreatCfaJ
import Derived.Test.YtcebllbikmgjpaaGreatJ15
import Derived.Test.YtcebllbikmgjpaaGreatJ42
set_option linter.unusedSimpArgs false
set_option linter.unusedVariables false
set_option maxHeartbeats 8000000
set_option maxRecDepth 20000
namespace Go.Proofs.YtcebllbikmgjpaaGreat
open Go.ChangeShapes Go.WideShapes Go.ChangeAt Go.RowKit Go.Shelf
theorem nodeRefuses_walk (W : World) (base : Nat) (args : Array Value) (hlen : args.size = Tryz.f5.params.size) (hval : ∀ (j : Nat) t v, Tryz.f5.params[j]? = some t → args[j]? = some v → Value.okWide Tryz.prog W .any base t v)
  (hread : ∀ (j : Nat) t v, Tryz.f5.params.toList[j]? = some t → args.toList[j]? = some v → Reads Tryz.prog W t v) :
  Calls Tryz.prog 5 args W fun e W' => e = .returned (.bool true) ∧ Below W.heap.size W W' := by
 obtain ⟨l⟩ := args
 match l, hlen with
 | [v0, v1, v2, v3, v4], _ =>
 obtain ⟨id, ma, he, de, ageing, pa, ps, cap, rfl, hp⟩ := open_conf (hval 0 25 v0 rfl rfl) (hread 0 25 v0 rfl rfl)
 obtain ⟨vs, rfl, hg⟩ := open_plain (ls := leaves 4 (.int .i64) ++ []) Tryz.underlying70 rfl kr_ kr_ (hval 1 70 v1 rfl rfl)
 simp only [leaves, List.cons_append, List.nil_append] at hg
 obtain ⟨t0, q, rfl, _, hg⟩ := goods_int hg
 obtain ⟨t1, q, rfl, _, hg⟩ := goods_int hg
 obtain ⟨t2, q, rfl, _, hg⟩ := goods_int hg
 obtain ⟨t3, q, rfl, _, hg⟩ := goods_int hg
 have := goods_nil hg
 subst this
 obtain ⟨n2, rfl, _⟩ := open_intW Tryz.underlying3 (hval 2 3 v2 rfl rfl)
 obtain ⟨n3, rfl, _⟩ := open_intW Tryz.underlying3 (hval 3 3 v3 rfl rfl)
 obtain ⟨s, rfl, hs⟩ := open_str Tryz.underlying9 (hval 4 9 v4 rfl rfl)
 cases hf : fewC ps with
 | false => exact nodeRefuses_many id ma he de ageing pa cap ps t0 t1 t2 t3 n2 n3 s W hp hf
 | true =>
  by_cases h1 : s.length ≤ 2000
  ·
   cases hb : newOkN n2 t0 t1 t2 t3 ma he de ageing ps with
   | false => exact nodeRefuses_bad id ma he de ageing pa cap ps t0 t1 t2 t3 n2 n3 s W hp hf h1 hb
   | true => exact nodeRefuses_good id ma he de ageing pa cap ps t0 t1 t2 t3 n2 n3 s W hp hf h1 hb
  ·
   exact nodeRefuses_long id ma he de ageing pa cap ps t0 t1 t2 t3 n2 n3 s W hp hf (by omega)
set_option maxRecDepth 100000 in
theorem nodeRefuses_lifted (os : Os) (started : os.Started) (H : Type) (enc : TypeId × Value → H) :
  ReturnsInHanded {} Tryz.checked os 5 .any (Rows.nodeRefusesSpec.pre6 enc Tryz.prog Tryz.f5 Rows.nodeRefusesRow.domain false) (Rows.nodeRefusesSpec.post enc Tryz.prog Tryz.f5 false true false false) := by
 refine returnsInHanded_of_change (C := Tryz.checked) own started kr_ Tryz.func5
  (ChangeSpec.witness6 (enc := enc) (C := Tryz.checked) false ⟨#[], #[.agg (List.replicate 8 (Value.int .u8 0) ++ (List.replicate 4 (Value.int .i64 0) ++ [Value.slice none 0 0])).toArray, .agg (List.replicate 4 (.int .i64 0)).toArray, .int .i64 0, .int .i64 0, .string ⟨#[]⟩], []⟩ 8 kr_ kr_ kr_ kr_) ?_
 intro W base args ds gs before hval0 hW hcnd _
 have hval : ∀ (j : Nat) t v, Tryz.f5.params[j]? = some t → args[j]? = some v → Value.okWide Tryz.prog W .any base t v := hval0
 have hlen : args.size = Tryz.f5.params.size := by
  obtain ⟨p, q, hA, _⟩ := hW
  have := (trodAll_len _ _ _ _ hA).1
  simpa using this
 have hread : ∀ (j : Nat) t v, Tryz.f5.params.toList[j]? = some t → args.toList[j]? = some v → Reads Tryz.prog W t v := by
  obtain ⟨p, q, hA, _⟩ := hW
  exact reads_all hA
 exact (nodeRefuses_walk W base args hlen hval hread).mono fun e W' ⟨he, hb⟩ => ⟨.bool true, he, law_post laidOut kr_ Tryz.underlying4 kr_ rfl (by intro ds h; rcases ds with _ | ⟨d1, _ | ⟨d2, _ | ⟨d3, _ | ⟨d4, _ | ⟨d5, _ | ⟨d6, ds⟩⟩⟩⟩⟩⟩ <;> simp at h <;> exact ⟨rfl, rfl, rfl⟩) hW hb⟩
theorem nodeRefuses_holds : Rows.NodeRefusesSaid :=
 OpenClaim.holds_of_wide 5 Tryz.f5 rfl rfl rfl rfl rfl rfl rfl ⟨rfl, rfl, rfl, rfl, rfl⟩ rfl rfl rfl rfl rfl nodeRefuses_named Tryz.func5 nodeRefuses_closed
  nodeRefuses_inst nodeRefuses_wrap (fun os started H enc _ => nodeRefuses_lifted os started H enc)
#print axioms nodeRefuses_holds
end Go.Proofs.YtcebllbikmgjpaaGreat
