/- Regions that draw their order, over whatever holds on while memory grows. No program in sight. -/
import Derived.Test.YtckckabedgpbiaaSlxJ
set_option linter.unusedSimpArgs false
set_option linter.unusedVariables false
namespace Go.Proofs.Ytckckabedgpbiaa
open Go.RowKit
theorem GrowP.and {X Y : World → Prop} (h : GrowP X) (k : GrowP Y) : GrowP fun w => X w ∧ Y w := fun w w1 hx hb => ⟨h w w1 hx.1 hb, k w w1 hx.2 hb⟩
section
variable {P : Program} {ops : Array Oper} {Q : Exit → Act → World → Prop} {md : Region.Mode}
theorem sp (i : Nat) {oi : Oper} {v : Value} {fuel : Nat} {listed : Array Bool} {a a' : Act} {w : World} {l : List (Nat × Array Value)} {X : World → Prop} (hG : GrowP X) (hS : XS l X w)
  (h : wpAnyR P md ops Q (XS l X) fuel (listed.setIfInBounds i true) a' w)
  (hi : ops[i]? = some oi := by simp only [List.getElem?_toArray, List.getElem?_cons_succ, List.getElem?_cons_zero]; rfl)
  (hs : Region.noSelect ops = true := by kernel_rfl) (hf : Region.free md ops listed i = true := by kernel_rfl) (hr : (Region.ready md ops listed).contains i = true := by kernel_rfl)
  (hQ : ∀ c a w, Q (.panic c) (a.put oi.dst v) w → Q (.panic c) a w := by first | exact fun _ _ _ h => h | exact fun _ _ _ h => by cases h.1)
  (hw : Region.wanted oi (yielded ops a.tmps) = true := by rfl)
  (hy : ∀ w', XS l X w' → uponV P (fun u w'' => u = v ∧ Below w'.heap.size w' w'') ((execOp a.eval oi).run P w') := by
   intro w' hS'
   obtain ⟨hS', hX'⟩ := hS'
   simp only [Rws] at hS'
   go_simp
   refine ⟨?_, Below.refl _ _⟩
   rfl)
  (hp : a.put oi.dst v = a' := by first | (simp only [Act.put, List.setIfInBounds_toArray, List.set_cons_zero, List.set_cons_succ]; rfl) | rfl) :
  wpAnyR P md ops Q (XS l X) (fuel + 1) listed a w :=
 wpAnyR_take hi hs hf hr hQ (XS.grow hG) (Or.inl ⟨hw, hy⟩) hS (hp ▸ h)
theorem sc (i : Nat) {oi : Oper} {v : Value} {fuel : Nat} {listed : Array Bool} {a a' : Act} {w : World} {l : List (Nat × Array Value)} {X : World → Prop} (hG : GrowP X) (hS : XS l X w)
  (hy : ∀ w', XS l X w' → uponV P (fun u w'' => u = v ∧ Below w'.heap.size w' w'') ((execOp a.eval oi).run P w'))
  (h : wpAnyR P md ops Q (XS l X) fuel (listed.setIfInBounds i true) a' w)
  (hi : ops[i]? = some oi := by simp only [List.getElem?_toArray, List.getElem?_cons_succ, List.getElem?_cons_zero]; rfl)
  (hs : Region.noSelect ops = true := by kernel_rfl) (hf : Region.free md ops listed i = true := by kernel_rfl) (hr : (Region.ready md ops listed).contains i = true := by kernel_rfl)
  (hQ : ∀ c a w, Q (.panic c) (a.put oi.dst v) w → Q (.panic c) a w := by first | exact fun _ _ _ h => h | exact fun _ _ _ h => by cases h.1)
  (hw : Region.wanted oi (yielded ops a.tmps) = true := by rfl)
  (hp : a.put oi.dst v = a' := by first | (simp only [Act.put, List.setIfInBounds_toArray, List.set_cons_zero, List.set_cons_succ]; rfl) | rfl) :
  wpAnyR P md ops Q (XS l X) (fuel + 1) listed a w :=
 wpAnyR_take hi hs hf hr hQ (XS.grow hG) (Or.inl ⟨hw, hy⟩) hS (hp ▸ h)
theorem wpAnyS_var {i k : Nat} {oi ok : Oper} {dA : Tmp} {zi cA : Array Value} {ti : TypeId} {fuel : Nat} {listed : Array Bool} {a : Act} {w : World} {S : World → Prop} (hG : ∀ w w1, S w → Below w.heap.size w w1 → S w1)
  (hoi : ops[i]? = some oi) (hok : ops[k]? = some ok) (ni : News P oi dA zi ti)
  (r0 : Region.ready md ops listed = [i]) (r1 : Region.ready md ops (listed.setIfInBounds i true) = [k])
  (gk : ok.guard = none) (dk : ok.dst = none) (sA : cA.size = zi.size) (pA : 0 < zi.size)
  (vk : ∀ A w1, row w1 A = zi → Stores ((execOp ((a.put (some dA) (ptr A)).eval) ok).run P w1) (w1.setRow A cA)) (hS : S w)
  (h : ∀ A w2, w.heap.size ≤ A → A < w2.heap.size → Below w.heap.size w w2 → row w2 A = cA → S w2 → wpAnyR P md ops Q S fuel ((listed.setIfInBounds i true).setIfInBounds k true) (a.put (some dA) (ptr A)) w2) :
  wpAnyR P md ops Q S (fuel + 1 + 1) listed a w := by
 refine wpAnyR_one hoi ni.guard r0 fun w1 b1 => ?_
 have e1 := b1.size
 have bA : Below w.heap.size w (w1.alloc (.cells zi ti)) := Below.alloc b1 e1 _
 refine ⟨_, _, _, ni.run a w1, rfl, hG _ _ hS bA, ?_⟩
 rw [ni.dst]
 refine wpAnyR_one hok gk r1 fun w3 b3 => ?_
 have e3 := b3.size
 rw [alloc_sizeW] at e3
 have rA : row w3 w1.heap.size = zi := by rw [row_below b3 (by rw [alloc_sizeW]; omega), row_alloc_at _ _ _ rfl]
 obtain ⟨n, v, hv, hn⟩ := vk w1.heap.size w3 rA
 have bB : Below w.heap.size w (w3.setRow w1.heap.size cA) := Below.setRow (Below.trans bA (b3.mono (by rw [alloc_sizeW]; omega))) e1 _
 have hS2 := hG _ _ hS bB
 refine ⟨n, v, _, hv, hn, hS2, ?_⟩
 rw [dk]
 refine h w1.heap.size _ e1 (by rw [setRow_size]; omega) bB ?_ hS2
 exact row_setRow_same (by rw [rA]; exact pA) (by rw [rA]; exact sA)
end
end Go.Proofs.Ytckckabedgpbiaa
