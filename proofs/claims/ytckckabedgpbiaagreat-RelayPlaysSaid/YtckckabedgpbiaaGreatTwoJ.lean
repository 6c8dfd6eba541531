/- Two variables made and filled in a region that draws its order, whatever is held. No program in sight. -/
import Derived.Test.YtckckabedgpbiaaGreatJ7
set_option linter.unusedSimpArgs false
set_option linter.unusedVariables false
namespace Go.Proofs.YtckckabedgpbiaaGreat
open Go.RowKit
section
variable {P : Program} {ops : Array Oper} {Q : Exit → Act → World → Prop} {md : Region.Mode} {S : World → Prop}
theorem wpAnyR_twoS {i j : Nat} {oi oj : Oper} {dA dB : Tmp} {zi zj : Array Value} {ti tj : TypeId} {fuel : Nat} {listed : Array Bool} {a : Act} {w : World}
  (hoi : ops[i]? = some oi) (hoj : ops[j]? = some oj) (ni : News P oi dA zi ti) (nj : News P oj dB zj tj) (hd : dA ≠ dB) (hij : i ≠ j)
  (r0 : Region.ready md ops listed = [i, j]) (r1 : Region.ready md ops (listed.setIfInBounds i true) = [j]) (r2 : Region.ready md ops (listed.setIfInBounds j true) = [i]) (hSg : ∀ w w1, S w → Below w.heap.size w w1 → S w1) (hS : S w)
  (h : ∀ A B w2, w.heap.size ≤ A → w.heap.size ≤ B → A ≠ B → A < w2.heap.size → B < w2.heap.size → Below w.heap.size w w2 → S w2 → row w2 A = zi → row w2 B = zj →
   wpAnyR P md ops Q S fuel ((listed.setIfInBounds i true).setIfInBounds j true) ((a.put (some dA) (ptr A)).put (some dB) (ptr B)) w2) :
  wpAnyR P md ops Q S (fuel + 1 + 1) listed a w := by
 intro w1 h1
 refine ⟨fun h0 => by rw [r0] at h0; simp at h0, fun q hq => ?_⟩
 rw [r0] at hq
 have hs := h1.size
 have hS1 : S w1 := hSg _ _ hS h1
 simp only [List.mem_cons, List.not_mem_nil, or_false] at hq
 rcases hq with rfl | rfl
 ·
  refine wpOp_run hoi ni.guard (ni.run a w1) rfl ⟨hSg _ _ hS1 (Below.alloc (Below.refl _ _) (Nat.le_refl _) _), wpAnyR_one hoj nj.guard r1 fun w3 h3 => ⟨_, _, _, nj.run _ w3, rfl, ?_, ?_⟩⟩
  ·
   exact hSg _ _ (hSg _ _ (hSg _ _ hS1 (Below.alloc (Below.refl _ _) (Nat.le_refl _) _)) h3) (Below.alloc (Below.refl _ _) (Nat.le_refl _) _)
  ·
   rw [ni.dst, nj.dst]
   have hs3 := h3.size
   rw [alloc_sizeW] at hs3
   refine h _ _ _ hs (by omega) (by omega) (by rw [alloc_sizeW]; omega) (by rw [alloc_sizeW]; omega) ?_ (hSg _ _ (hSg _ _ (hSg _ _ hS1 (Below.alloc (Below.refl _ _) (Nat.le_refl _) _)) h3) (Below.alloc (Below.refl _ _) (Nat.le_refl _) _)) ?_ ?_
   ·
    exact Below.alloc (h1.trans (Below.trans (Below.alloc (Below.refl _ _) (by omega) _) (h3.mono (by rw [alloc_sizeW]; omega)))) (by omega) _
   ·
    rw [row_alloc_past _ _ (by omega), row_below h3 (by rw [alloc_sizeW]; omega), row_alloc_at _ _ _ rfl]
   ·
    rw [row_alloc_at _ _ _ rfl]
 ·
  refine wpOp_run hoj nj.guard (nj.run a w1) rfl ⟨hSg _ _ hS1 (Below.alloc (Below.refl _ _) (Nat.le_refl _) _), wpAnyR_one hoi ni.guard r2 fun w3 h3 => ⟨_, _, _, ni.run _ w3, rfl, ?_, ?_⟩⟩
  ·
   exact hSg _ _ (hSg _ _ (hSg _ _ hS1 (Below.alloc (Below.refl _ _) (Nat.le_refl _) _)) h3) (Below.alloc (Below.refl _ _) (Nat.le_refl _) _)
  ·
   rw [ni.dst, nj.dst, Array.setIfInBounds_comm _ _ (Ne.symm hij), Act.put_comm _ _ _ (fun d hd1 => by simp only [Option.some.injEq] at hd1; subst hd1; simp; exact hd)]
   have hs3 := h3.size
   rw [alloc_sizeW] at hs3
   refine h _ _ _ (by omega) hs (by omega) (by rw [alloc_sizeW]; omega) (by rw [alloc_sizeW]; omega) ?_ (hSg _ _ (hSg _ _ (hSg _ _ hS1 (Below.alloc (Below.refl _ _) (Nat.le_refl _) _)) h3) (Below.alloc (Below.refl _ _) (Nat.le_refl _) _)) ?_ ?_
   ·
    exact Below.alloc (h1.trans (Below.trans (Below.alloc (Below.refl _ _) (by omega) _) (h3.mono (by rw [alloc_sizeW]; omega)))) (by omega) _
   ·
    rw [row_alloc_at _ _ _ rfl]
   ·
    rw [row_alloc_past _ _ (by omega), row_below h3 (by rw [alloc_sizeW]; omega), row_alloc_at _ _ _ rfl]
theorem wpAnyR_pairS {i j k m : Nat} {oi oj ok om : Oper} {dA dB : Tmp} {zi zj cA cB : Array Value} {ti tj : TypeId} {fuel : Nat} {listed : Array Bool} {a : Act} {w : World}
  (hoi : ops[i]? = some oi) (hoj : ops[j]? = some oj) (hok : ops[k]? = some ok) (hom : ops[m]? = some om) (ni : News P oi dA zi ti) (nj : News P oj dB zj tj) (hd : dA ≠ dB) (hij : i ≠ j)
  (r0 : Region.ready md ops listed = [i, j]) (r1 : Region.ready md ops (listed.setIfInBounds i true) = [j]) (r2 : Region.ready md ops (listed.setIfInBounds j true) = [i])
  (r3 : Region.ready md ops ((listed.setIfInBounds i true).setIfInBounds j true) = [k]) (r4 : Region.ready md ops (((listed.setIfInBounds i true).setIfInBounds j true).setIfInBounds k true) = [m])
  (r5 : Region.ready md ops ((((listed.setIfInBounds i true).setIfInBounds j true).setIfInBounds k true).setIfInBounds m true) = [])
  (gk : ok.guard = none) (gm : om.guard = none) (dk : ok.dst = none) (dm : om.dst = none)
  (sA : cA.size = zi.size) (sB : cB.size = zj.size) (pA : 0 < zi.size) (pB : 0 < zj.size)
  (vk : ∀ A B w1, row w1 A = zi → Stores ((execOp (((a.put (some dA) (ptr A)).put (some dB) (ptr B)).eval) ok).run P w1) (w1.setRow A cA))
  (vm : ∀ A B w1, row w1 B = zj → Stores ((execOp (((a.put (some dA) (ptr A)).put (some dB) (ptr B)).eval) om).run P w1) (w1.setRow B cB)) (hSg : ∀ w w1, S w → Below w.heap.size w w1 → S w1) (hSs : ∀ w' g c, S w' → w.heap.size ≤ g → S (w'.setRow g c)) (hS : S w)
  (h : ∀ A B w2, w.heap.size ≤ A → w.heap.size ≤ B → A ≠ B → A < w2.heap.size → B < w2.heap.size → Below w.heap.size w w2 → row w2 A = cA → row w2 B = cB →
   Q .normal ((a.put (some dA) (ptr A)).put (some dB) (ptr B)) w2) :
  wpAnyR P md ops Q S (fuel + 1 + 1 + 1 + 1) listed a w := by
 refine wpAnyR_twoS hoi hoj ni nj hd hij r0 r1 r2 hSg hS fun A B w2 h1 h2 h3 h4 h5 h6 h7 h8 h9 => ?_
 refine wpAnyR_one hok gk r3 fun w3 b3 => ?_
 have e3 := b3.size
 have rA3 : row w3 A = zi := by rw [row_below b3 h4, h8]
 have rB3 : row w3 B = zj := by rw [row_below b3 h5, h9]
 obtain ⟨n, v, hv, hn⟩ := vk A B w3 rA3
 refine ⟨n, v, _, hv, hn, hSs _ _ _ (hSg _ _ h7 b3) h1, ?_⟩
 rw [dk]
 refine wpAnyR_one hom gm r4 fun w4 b4 => ?_
 have e4 := b4.size
 rw [setRow_size] at e4
 have rA4 : row w4 A = cA := by rw [row_below b4 (by rw [setRow_size]; omega), row_setRow_same (by rw [rA3]; exact pA) (by rw [rA3]; exact sA)]
 have rB4 : row w4 B = zj := by rw [row_below b4 (by rw [setRow_size]; omega), row_setRow_other _ _ _ (Ne.symm h3), rB3]
 obtain ⟨n, v, hv, hn⟩ := vm A B w4 rB4
 have hS4 : S w4 := hSg _ _ (hSs _ _ _ (hSg _ _ h7 b3) h1) b4
 refine ⟨n, v, _, hv, hn, hSs _ _ _ hS4 h2, ?_⟩
 rw [dm]
 refine wpAnyR_done r5 (fun w5 b5 => ?_) _
 have e5 := b5.size
 rw [setRow_size] at e5
 refine h A B w5 h1 h2 h3 (by omega) (by omega) ?_ ?_ ?_
 ·
  refine Below.trans (Below.setRow (Below.trans (Below.setRow (Below.trans h6 (b3.mono (by omega))) h1 _) (b4.mono (by rw [setRow_size]; omega))) h2 _) (b5.mono (by rw [setRow_size]; omega))
 ·
  rw [row_below b5 (by rw [setRow_size]; omega), row_setRow_other _ _ _ h3, rA4]
 ·
  rw [row_below b5 (by rw [setRow_size]; omega), row_setRow_same (by rw [rB4]; exact pB) (by rw [rB4]; exact sB)]
end
theorem XS.setB {l : List (Nat × Array Value)} {B : Nat} {w0 wr : World} (hl : ∀ p ∈ l, p.1 < wr.heap.size) (hB : B ≤ wr.heap.size) : ∀ (w' : World) (g : Nat) (c : Array Value), XS l (fun W => Below B w0 W) w' → wr.heap.size ≤ g → XS l (fun W => Below B w0 W) (w'.setRow g c) :=
 fun w' g c h hg => ⟨Rws.setRow l _ h.1 hl hg, Below.setRow h.2 (Nat.le_trans hB hg) _⟩
end Go.Proofs.YtckckabedgpbiaaGreat
