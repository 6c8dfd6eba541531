/- The law FabricRefuses is true for every input, the listed variables being tied to the program's text: what may not be is refused; nil is nothing. -/
import Derived.Test.YtfopoijikdmiaaaGreatDoorJ51
import Derived.Test.YtfopoijikdmiaaaGreatDoorJ41
import Derived.Test.YtfopoijikdmiaaaGreatDoorJ44
import Derived.Test.YtfopoijikdmiaaaGreatDoorJ52
import Derived.Test.YtfopoijikdmiaaaGreatDoorTie
import Derived.Test.YtfopoijikdmiaaaGreatDoorCards
import Derived.SevenTiedAt
set_option linter.unusedSimpArgs false
set_option linter.unusedVariables false
set_option maxHeartbeats 8000000
set_option maxRecDepth 20000
namespace Go.Proofs.YtfopoijikdmiaaaGreatDoor
open Go.ChangeShapes Go.WideShapes Go.ChangeAt Go.RowKit Go.Shelf
theorem fabricRefuses_walk (W : World) (base : Nat) (args : Array Value) (hlen : args.size = Tryz.f3.params.size) (hval : ∀ (j : Nat) t v, Tryz.f3.params[j]? = some t → args[j]? = some v → Value.okWide Tryz.prog W .any base t v)
  (hread : ∀ (j : Nat) t v, Tryz.f3.params.toList[j]? = some t → args.toList[j]? = some v → Reads Tryz.prog W t v) :
  Calls Tryz.prog 3 args W fun e W' => e = .returned (.bool true) ∧ Below W.heap.size W W' := by
 obtain ⟨l⟩ := args
 match l, hlen with
 | [v0, v1, v2, v3, v4], _ =>
 obtain ⟨ca, cs, cc, wa, ws, wc, r, k, p, d, room, seed, rfl, hC, hWs⟩ := open_plan (hval 0 26 v0 rfl rfl) (hread 0 26 v0 rfl rfl)
 obtain ⟨n1, rfl, _⟩ := open_intW Tryz.underlying3 (hval 1 3 v1 rfl rfl)
 obtain ⟨n2, rfl, _⟩ := open_intW Tryz.underlying3 (hval 2 3 v2 rfl rfl)
 obtain ⟨n3, rfl, _⟩ := open_intW Tryz.underlying3 (hval 3 3 v3 rfl rfl)
 obtain ⟨s, rfl, hs⟩ := open_str Tryz.underlying9 (hval 4 9 v4 rfl rfl)
 cases hf : fewP cs ws.length seed with
 | false => exact fabricRefuses_many ca cc cs wa wc ws r k p d room seed n1 n2 n3 s W hC hf
 | true =>
  by_cases h1 : s.length ≤ 1600
  ·
   cases hr : rightF r k p d room cs ws with
   | false => exact fabricRefuses_wrong ca cc cs wa wc ws r k p d room seed n1 n2 n3 s W hC hWs hf h1 hr
   | true =>
    by_cases hn : n1 < 0 ∨ (cs.length : Int) ≤ n1
    ·
     exact fabricRefuses_out ca cc cs wa wc ws r k p d room seed n1 n2 n3 s W hC hWs hf h1 hr hn
    ·
     obtain ⟨i, rfl⟩ : ∃ i : Nat, n1 = i := ⟨n1.toNat, by omega⟩
     exact fabricRefuses_in ca cc cs wa wc ws r k p d room seed n2 n3 s W hC hWs hf h1 hr i (by omega)
  ·
   exact fabricRefuses_long ca cc cs wa wc ws r k p d room seed n1 n2 n3 s W hC hf (by omega)
set_option maxRecDepth 100000 in
theorem fabricRefuses_lifted (os : Os) (started : os.Started) (H : Type) (enc : TypeId × Value → H) :
  ReturnsInHanded {} Tryz.checked os 3 .any (fun w args => (Rows.fabricRefusesSpec.pre enc Tryz.prog Tryz.f3 [] false w args ∧ laidMetH Tryz.prog Rows.fabricRefusesRow.laid w) ∧ sizedMet enc Tryz.prog Tryz.f3 (OpenSpec.ofChange Rows.fabricRefusesSpec) false w args)
   (Rows.fabricRefusesSpec.post enc Tryz.prog Tryz.f3 false true false false) := by
 refine returnsInHanded_of_change_and (C := Tryz.checked) (X := fun w _ => laidMetH Tryz.prog Rows.fabricRefusesRow.laid w) (fun _ _ _ hh h => h.of_heap hh) own started kr_ Tryz.func3
  (ChangeSpec.witness_shaped (enc := enc) (C := Tryz.checked) (os := os) (X := fun w _ => laidMetH Tryz.prog Rows.fabricRefusesRow.laid w) false (World.doorLaid Tryz.prog 24 os) #[.agg #[.slice none 0 0, .slice none 0 0, .int .i64 0, .int .i64 0, .int .i64 0, .int .i64 0, .int .i64 0, .string ⟨#[]⟩], .int .i64 0, .int .i64 0, .int .i64 0, .string ⟨#[]⟩] 8 rfl (World.shaped_of_RefB kr_ kr_) kr_ kr_ kr_ (door_met os _)) ?_
 intro W base args ds gs before hval0 hW hcnd _ _ _
 have hval : ∀ (j : Nat) t v, Tryz.f3.params[j]? = some t → args[j]? = some v → Value.okWide Tryz.prog W .any base t v := hval0
 have hlen : args.size = Tryz.f3.params.size := by
  obtain ⟨p, q, hA, _⟩ := hW
  have := (trodAll_len _ _ _ _ hA).1
  simpa using this
 have hread : ∀ (j : Nat) t v, Tryz.f3.params.toList[j]? = some t → args.toList[j]? = some v → Reads Tryz.prog W t v := by
  obtain ⟨p, q, hA, _⟩ := hW
  exact reads_all hA
 exact (fabricRefuses_walk W base args hlen hval hread).mono fun e W' ⟨he, hb⟩ => ⟨.bool true, he, law_post laidOut kr_ Tryz.underlying4 kr_ rfl (by intro ds h; rcases ds with _ | ⟨d1, _ | ⟨d2, _ | ⟨d3, _ | ⟨d4, _ | ⟨d5, _ | ⟨d6, ds⟩⟩⟩⟩⟩⟩ <;> simp at h <;> exact ⟨rfl, rfl, rfl⟩) hW hb⟩
theorem fabricRefuses_said : Rows.FabricRefusesSaid :=
 OpenClaim.holds_of_wide 3 Tryz.f3 rfl rfl rfl rfl rfl rfl rfl ⟨rfl, rfl, rfl, rfl, rfl⟩ rfl rfl rfl rfl rfl fabricRefuses_named Tryz.func3 fabricRefuses_closed
  fabricRefuses_inst fabricRefuses_wrap (fun os started H enc _ => fabricRefuses_lifted os started H enc)
theorem fabricRefuses_holds : Rows.FabricRefusesCardSaid :=
 Claim7.holds_tied_plain_at .later [] [.data, .data, .data] true (true, "da6a2d6ba4718340eb4de3dc7e56a8285d40c90f684123bfe0a6a62a4bfb026f") true
  fabricRefuses_said (fun _ h => by cases h) kr_ (fun _ h => by cases h) fabricRefuses_row_tie rfl ⟨rfl, rfl⟩ kr_ rfl
  (fun f fn hf hfn => by
   obtain rfl : f = 3 := (Option.some.inj (fabricRefuses_named.symm.trans hf)).symm
   obtain rfl : fn = Tryz.f3 := (Option.some.inj (Tryz.func3.symm.trans hfn)).symm
   exact ⟨by kernel_rfl, fun j t ht => by
    have hp : Tryz.f3.params = #[26, 3, 3, 3, 9] := by kernel_rfl
    rw [hp] at ht
    have hm : t ∈ [26, 3, 3, 3, 9] := by simpa using Array.mem_of_getElem? ht
    have hall : ([26, 3, 3, 3, 9].all fun u => !Tryz.prog.wantsStandIn u) = true := by kernel_rfl
    exact (show Tryz.prog.wantsStandIn t = false by simpa using List.all_eq_true.1 hall t hm)⟩)
  kr_
#print axioms fabricRefuses_holds
end Go.Proofs.YtfopoijikdmiaaaGreatDoor
