/- The law RelayPlays is true for every input: whatever befalls a bridge, what goes out, and how many frames there were, is the document's. -/
import Derived.Test.YtckckabedgpbiaaGreatJ52
import Derived.Test.YtckckabedgpbiaaGreatJ7
set_option linter.unusedSimpArgs false
set_option linter.unusedVariables false
set_option maxRecDepth 4000
namespace Go.Proofs.YtckckabedgpbiaaGreat
open Go.ChangeShapes Go.WideShapes Go.ChangeAt Go.RowKit
theorem good_act22 : GoodT Tryz.prog 40 ([.int .u8] ++ ([.int .i64] ++ ([.int .i64] ++ ([.str] ++ [])))) :=
 good_struct [(5, [.int .u8]), (3, [.int .i64]), (3, [.int .i64]), (9, [.str])]
  (by
   intro p hp
   simp only [List.mem_cons, List.not_mem_nil, or_false] at hp
   rcases hp with rfl | rfl | rfl | rfl
   ·
    exact good_int Tryz.underlying5 (by kernel_rfl)
   ·
    exact good_int Tryz.underlying3 (by kernel_rfl)
   ·
    exact good_int Tryz.underlying3 (by kernel_rfl)
   ·
    exact good_str Tryz.underlying9 (by kernel_rfl)) Tryz.underlying40 (by kernel_rfl) (by kernel_rfl)
theorem acts22_of : ∀ (l : List (List Value)), (∀ y ∈ l, goods ([.int .u8] ++ ([.int .i64] ++ ([.int .i64] ++ ([.str] ++ [])))) y) → ∃ acts : List Act22, l = acts.map act22C ∧ (∀ a ∈ acts, a.s.length ≤ maxLen) ∧ ∀ a ∈ acts, a.d < 256
 | [], _ => ⟨[], rfl, by simp, by simp⟩
 | y :: l, h => by
  obtain ⟨xs, ha, hs, hd⟩ := acts22_of l fun z hz => h z (by simp [hz])
  have h1 := h y (by simp)
  simp only [List.cons_append, List.nil_append] at h1
  obtain ⟨d, r1, e1, k1, h2⟩ := goods_int h1
  obtain ⟨p, r2, e2, _, h3⟩ := goods_int h2
  obtain ⟨n, r3, e3, _, h4⟩ := goods_int h3
  obtain ⟨s, r4, e4, k4, h5⟩ := goods_str h4
  have e5 := goods_nil h5
  have k2 : 0 ≤ d ∧ d ≤ 255 := by simpa [IntKind.has, IntKind.min, IntKind.max, IntKind.bits, IntKind.signed] using k1
  refine ⟨⟨d.toNat, p, n, s.toList⟩ :: xs, ?_, ?_, ?_⟩
  ·
   rw [ha, e1, e2, e3, e4, e5, List.map_cons]
   have : ((d.toNat : Nat) : Int) = d := Int.toNat_of_nonneg k2.1
   simp [act22C, this]
  ·
   intro a h
   rcases List.mem_cons.1 h with rfl | h
   ·
    simpa using k4
   ·
    exact hs a h
  ·
   intro a h
   rcases List.mem_cons.1 h with rfl | h
   ·
    dsimp only; omega
   ·
    exact hd a h
theorem relayPlays_walk (W : World) (base : Nat) (args : Array Value) (hlen : args.size = Tryz.f3.params.size) (hval : ∀ (j : Nat) t v, Tryz.f3.params[j]? = some t → args[j]? = some v → Value.okWide Tryz.prog W .any base t v)
  (hread : ∀ (j : Nat) t v, Tryz.f3.params.toList[j]? = some t → args.toList[j]? = some v → Reads Tryz.prog W t v) :
  Calls Tryz.prog 3 args W fun e W' => e = .returned (.bool true) ∧ Below W.heap.size W W' := by
 obtain ⟨l⟩ := args
 match l, hlen with
 | [v0, v1, v2], _ =>
 obtain ⟨pa, rs, cap, rfl, hp⟩ := open_rports (hval 0 22 v0 rfl rfl) (hread 0 22 v0 rfl rfl)
 obtain ⟨n, rfl, _⟩ := open_intW Tryz.underlying3 (hval 1 3 v1 rfl rfl)
 obtain ⟨l, hl, hg⟩ := open_slW Tryz.underlying23 good_act22 (by decide) (hval 2 23 v2 rfl rfl) (hread 2 23 v2 rfl rfl)
 obtain ⟨acts, rfl, hs, hd⟩ := acts22_of l hg
 obtain ⟨a, acap, rfl, hm, hsl⟩ := sl_open hl
 rw [List.length_map] at hm ⊢
 exact relayPlays_any pa cap rs n a acap acts W hp ⟨by rw [List.length_map]; exact hm, fun i x hx => hsl i x hx⟩ hs hd
set_option maxRecDepth 100000 in
theorem relayPlays_lifted (os : Os) (started : os.Started) (H : Type) (enc : TypeId × Value → H) :
  ReturnsInHanded {} Tryz.checked os 3 .any (Rows.relayPlaysSpec.pre6 enc Tryz.prog Tryz.f3 Rows.relayPlaysRow.domain false) (Rows.relayPlaysSpec.post enc Tryz.prog Tryz.f3 false true false false) := by
 refine returnsInHanded_of_change (C := Tryz.checked) own started (by kernel_rfl) Tryz.func3
  (ChangeSpec.witness6 (enc := enc) (C := Tryz.checked) false ⟨#[], #[.slice none 0 0, .int .i64 0, .slice none 0 0], []⟩ 8 (by kernel_rfl) (by kernel_rfl) (by kernel_rfl) (by kernel_rfl)) ?_
 intro W base args ds gs before hval0 hW hcnd _
 have hval : ∀ (j : Nat) t v, Tryz.f3.params[j]? = some t → args[j]? = some v → Value.okWide Tryz.prog W .any base t v := hval0
 have hlen : args.size = Tryz.f3.params.size := by
  obtain ⟨p, q, hA, _⟩ := hW
  have := (trodAll_len _ _ _ _ hA).1
  simpa using this
 have hread : ∀ (j : Nat) t v, Tryz.f3.params.toList[j]? = some t → args.toList[j]? = some v → Reads Tryz.prog W t v := by
  obtain ⟨p, q, hA, _⟩ := hW
  exact reads_all hA
 exact (relayPlays_walk W base args hlen hval hread).mono fun e W' ⟨he, hb⟩ => ⟨.bool true, he, law_post laidOut (by kernel_rfl) Tryz.underlying4 (by kernel_rfl) rfl (by intro ds h; rcases ds with _ | ⟨d1, _ | ⟨d2, _ | ⟨d3, _ | ⟨d4, ds⟩⟩⟩⟩ <;> simp at h <;> exact ⟨rfl, rfl, rfl⟩) hW hb⟩
theorem relayPlays_holds : Rows.RelayPlaysSaid :=
 OpenClaim.holds_of_wide 3 Tryz.f3 rfl rfl rfl rfl rfl rfl rfl ⟨rfl, rfl, rfl, rfl, rfl⟩ rfl rfl rfl rfl rfl (by kernel_rfl) Tryz.func3 (by kernel_rfl)
  (of_decide_eq_true (by kernel_rfl)) (by unfold Func.isWrapper; first | (rw [if_pos (by decide +kernel)]; kernel_rfl) | (rw [if_neg (by decide +kernel)]; exact ⟨rfl, rfl⟩))
  (fun os started H enc _ => relayPlays_lifted os started H enc)
#print axioms relayPlays_holds
end Go.Proofs.YtckckabedgpbiaaGreat
