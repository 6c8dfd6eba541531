/- Regions that draw their order and look into a map. No program in sight. -/
import Derived.Test.YtckckabedgpbiaaGreatJ2
set_option linter.unusedSimpArgs false
set_option linter.unusedVariables false
namespace Go.Proofs.YtckckabedgpbiaaGreat
open Go.RowKit
def MapS (l : List (Nat × Array Value)) (M : Nat) (L : List (Value × Value)) (w : World) : Prop := Rws l w ∧ mapOk w M ∧ mapL w M = L
theorem MapS.grow (l : List (Nat × Array Value)) (M : Nat) (L : List (Value × Value)) (w w1 : World) (h : MapS l M L w) (hb : Below w.heap.size w w1) : MapS l M L w1 :=
 ⟨Rws.grow l w w1 h.1 hb, mapOk_below hb h.2.1.lt h.2.1, by rw [mapL_below hb h.2.1.lt, h.2.2]⟩
theorem MapS.alloc {l : List (Nat × Array Value)} {M : Nat} {L : List (Value × Value)} {w : World} (h : MapS l M L w) (o : Obj) : MapS l M L (w.alloc o) := MapS.grow l M L w _ h (Below.alloc (Below.refl _ _) (Nat.le_refl _) o)
theorem MapS.setRow {g B : Nat} {c : Array Value} {l : List (Nat × Array Value)} {M : Nat} {L : List (Value × Value)} {w : World} (h : MapS l M L w) (hl : ∀ p ∈ l, p.1 < B) (hg : B ≤ g) : MapS l M L (w.setRow g c) :=
 ⟨Rws.setRow l w h.1 hl hg, mapOk_setRow _ _ _ h.2.1, by rw [mapL_setRow _ _ _ h.2.1, h.2.2]⟩
section
variable {P : Program} {ops : Array Oper} {Q : Exit → Act → World → Prop} {md : Region.Mode}
theorem wp_region_beginM {id : Nat} {a : Act} {w : World} (l : List (Nat × Array Value)) (M : Nat) (L : List (Value × Value)) (hm : P.follows .mixedOrders = true) (hS : Rws l w) (h1 : mapOk w M) (h2 : mapL w M = L)
  (h : MapS l M L w.drew → wpAnyR P .any ops Q (MapS l M L) ops.size (Array.replicate ops.size false) a w.drew) : (Code.region id ops true).wp P Q a w :=
 wp_region_held hm (wpAnyH_of_R _ _ _ _ (h (MapS.grow l M L w _ ⟨hS, h1, h2⟩ (Below.drew (Below.refl _ _)))))
theorem wpAnyM_single {i k : Nat} {oi ok : Oper} {dA : Tmp} {zi cA : Array Value} {ti : TypeId} {fuel : Nat} {listed : Array Bool} {a : Act} {w : World} {l : List (Nat × Array Value)} {M : Nat} {L : List (Value × Value)}
  (hoi : ops[i]? = some oi) (hok : ops[k]? = some ok) (ni : News P oi dA zi ti)
  (r0 : Region.ready md ops listed = [i]) (r1 : Region.ready md ops (listed.setIfInBounds i true) = [k]) (r2 : Region.ready md ops ((listed.setIfInBounds i true).setIfInBounds k true) = [])
  (gk : ok.guard = none) (dk : ok.dst = none) (sA : cA.size = zi.size) (pA : 0 < zi.size) (hl : ∀ p ∈ l, p.1 < w.heap.size)
  (vk : ∀ A w1, row w1 A = zi → Stores ((execOp ((a.put (some dA) (ptr A)).eval) ok).run P w1) (w1.setRow A cA)) (hS : MapS l M L w)
  (h : ∀ A w2, w.heap.size ≤ A → A < w2.heap.size → Below w.heap.size w w2 → row w2 A = cA → Q .normal (a.put (some dA) (ptr A)) w2) :
  wpAnyR P md ops Q (MapS l M L) (fuel + 1 + 1) listed a w := by
 refine wpAnyR_one hoi ni.guard r0 fun w1 b1 => ?_
 refine ⟨_, _, _, ni.run a w1, rfl, (MapS.grow l M L _ _ hS b1).alloc _, ?_⟩
 rw [ni.dst]
 have e1 := b1.size
 refine wpAnyR_one hok gk r1 fun w3 b3 => ?_
 have e3 := b3.size
 rw [alloc_sizeW] at e3
 have rA : row w3 w1.heap.size = zi := by rw [row_below b3 (by rw [alloc_sizeW]; omega), row_alloc_at _ _ _ rfl]
 obtain ⟨n, v, hv, hn⟩ := vk w1.heap.size w3 rA
 refine ⟨n, v, _, hv, hn, MapS.setRow (MapS.grow l M L _ _ ((MapS.grow l M L _ _ hS b1).alloc _) b3) hl e1, ?_⟩
 rw [dk]
 refine wpAnyR_done r2 (fun w5 b5 => ?_) _
 have e5 := b5.size
 rw [setRow_size] at e5
 refine h w1.heap.size w5 e1 (by omega) ?_ ?_
 ·
  refine Below.trans (Below.setRow (Below.trans (Below.alloc b1 e1 _) (b3.mono (by rw [alloc_sizeW]; omega))) e1 _) (b5.mono (by rw [setRow_size]; omega))
 ·
  rw [row_below b5 (by rw [setRow_size]; omega)]
  exact row_setRow_same (by rw [rA]; exact pA) (by rw [rA]; exact sA)
theorem wpAnyM_var {i k : Nat} {oi ok : Oper} {dA : Tmp} {zi cA : Array Value} {ti : TypeId} {fuel : Nat} {listed : Array Bool} {a : Act} {w : World} {l : List (Nat × Array Value)} {M : Nat} {L : List (Value × Value)}
  (hoi : ops[i]? = some oi) (hok : ops[k]? = some ok) (ni : News P oi dA zi ti)
  (r0 : Region.ready md ops listed = [i]) (r1 : Region.ready md ops (listed.setIfInBounds i true) = [k])
  (gk : ok.guard = none) (dk : ok.dst = none) (sA : cA.size = zi.size) (pA : 0 < zi.size) (hl : ∀ p ∈ l, p.1 < w.heap.size)
  (vk : ∀ A w1, row w1 A = zi → Stores ((execOp ((a.put (some dA) (ptr A)).eval) ok).run P w1) (w1.setRow A cA)) (hS : MapS l M L w)
  (h : ∀ A w2, w.heap.size ≤ A → A < w2.heap.size → Below w.heap.size w w2 → row w2 A = cA → MapS l M L w2 → wpAnyR P md ops Q (MapS l M L) fuel ((listed.setIfInBounds i true).setIfInBounds k true) (a.put (some dA) (ptr A)) w2) :
  wpAnyR P md ops Q (MapS l M L) (fuel + 1 + 1) listed a w := by
 refine wpAnyR_one hoi ni.guard r0 fun w1 b1 => ?_
 refine ⟨_, _, _, ni.run a w1, rfl, (MapS.grow l M L _ _ hS b1).alloc _, ?_⟩
 rw [ni.dst]
 have e1 := b1.size
 refine wpAnyR_one hok gk r1 fun w3 b3 => ?_
 have e3 := b3.size
 rw [alloc_sizeW] at e3
 have rA : row w3 w1.heap.size = zi := by rw [row_below b3 (by rw [alloc_sizeW]; omega), row_alloc_at _ _ _ rfl]
 obtain ⟨n, v, hv, hn⟩ := vk w1.heap.size w3 rA
 have hS2 := MapS.setRow (c := cA) (MapS.grow l M L _ _ ((MapS.grow l M L _ _ hS b1).alloc _) b3) hl e1
 refine ⟨n, v, _, hv, hn, hS2, ?_⟩
 rw [dk]
 refine h w1.heap.size _ e1 (by rw [setRow_size]; omega) ?_ ?_ hS2
 ·
  exact Below.setRow (Below.trans (Below.alloc b1 e1 _) (b3.mono (by rw [alloc_sizeW]; omega))) e1 _
 ·
  exact row_setRow_same (by rw [rA]; exact pA) (by rw [rA]; exact sA)
theorem wp_region_beginKM {id : Nat} {a : Act} {w : World} (k : Nat) (l : List (Nat × Array Value)) (M : Nat) (L : List (Value × Value)) (hm : P.follows .mixedOrders = true) (hS : Rws l w) (h1 : mapOk w M) (h2 : mapL w M = L)
  (h : MapS l M L w.drew → wpAnyK P .any ops Q (MapS l M L) (Rws []) k ops.size (Array.replicate ops.size false) a w.drew) : (Code.region id ops true).wp P Q a w := by
 have h0 := MapS.grow l M L w _ ⟨hS, h1, h2⟩ (Below.drew (Below.refl _ _))
 exact wp_region_any hm (wpAny_of_K _ _ _ _ (h h0))
end
section
variable {P : Program} {ops : Array Oper} {Q : Exit → Act → World → Prop} {md : Region.Mode}
theorem mp (i : Nat) {oi : Oper} {v : Value} {fuel : Nat} {listed : Array Bool} {a a' : Act} {w : World} {l : List (Nat × Array Value)} {M : Nat} {L : List (Value × Value)} (hS : MapS l M L w)
  (h : wpAnyR P md ops Q (MapS l M L) fuel (listed.setIfInBounds i true) a' w)
  (hi : ops[i]? = some oi := by simp only [List.getElem?_toArray, List.getElem?_cons_succ, List.getElem?_cons_zero]; rfl)
  (hs : Region.noSelect ops = true := by kernel_rfl) (hf : Region.free md ops listed i = true := by kernel_rfl) (hr : (Region.ready md ops listed).contains i = true := by kernel_rfl)
  (hQ : ∀ c a w, Q (.panic c) (a.put oi.dst v) w → Q (.panic c) a w := by first | exact fun _ _ _ h => h | exact fun _ _ _ h => by cases h.1)
  (hw : Region.wanted oi (yielded ops a.tmps) = true := by rfl)
  (hy : ∀ w', MapS l M L w' → uponV P (fun u w'' => u = v ∧ Below w'.heap.size w' w'') ((execOp a.eval oi).run P w') := by
   intro w' hS'
   obtain ⟨hS', hM', hL'⟩ := hS'
   simp only [Rws] at hS'
   go_simp
   refine ⟨?_, Below.refl _ _⟩
   rfl)
  (hp : a.put oi.dst v = a' := by first | (simp only [Act.put, List.setIfInBounds_toArray, List.set_cons_zero, List.set_cons_succ]; rfl) | rfl) :
  wpAnyR P md ops Q (MapS l M L) (fuel + 1) listed a w :=
 wpAnyR_take hi hs hf hr hQ (MapS.grow _ _ _) (Or.inl ⟨hw, hy⟩) hS (hp ▸ h)
theorem kmp (i : Nat) {oi : Oper} {v : Value} {fuel : Nat} {listed : Array Bool} {a a' : Act} {w : World} {l : List (Nat × Array Value)} {M : Nat} {L : List (Value × Value)} {k : Nat} {S2 : World → Prop} (hS : MapS l M L w)
  (h : wpAnyK P md ops Q (MapS l M L) S2 k fuel (listed.setIfInBounds i true) a' w)
  (hi : ops[i]? = some oi := by simp only [List.getElem?_toArray, List.getElem?_cons_succ, List.getElem?_cons_zero]; rfl)
  (hs : Region.noSelect ops = true := by kernel_rfl) (hf : Region.free md ops listed i = true := by kernel_rfl) (hr : (Region.ready md ops listed).contains i = true := by kernel_rfl) (hk : waitsB md ops k i = true := by kernel_rfl)
  (hQ : ∀ c a w, Q (.panic c) (a.put oi.dst v) w → Q (.panic c) a w := by first | exact fun _ _ _ h => h | exact fun _ _ _ h => by cases h.1)
  (hw : Region.wanted oi (yielded ops a.tmps) = true := by rfl)
  (hy : ∀ w', MapS l M L w' → uponV P (fun u w'' => u = v ∧ Below w'.heap.size w' w'') ((execOp a.eval oi).run P w') := by
   intro w' hS'
   obtain ⟨hS', hM', hL'⟩ := hS'
   simp only [Rws] at hS'
   go_simp
   refine ⟨?_, Below.refl _ _⟩
   rfl)
  (hp : a.put oi.dst v = a' := by first | (simp only [Act.put, List.setIfInBounds_toArray, List.set_cons_zero, List.set_cons_succ]; rfl) | rfl) :
  wpAnyK P md ops Q (MapS l M L) S2 k (fuel + 1) listed a w :=
 wpAnyK_take hi hs hf hr hk hQ (MapS.grow _ _ _) (Or.inl ⟨hw, hy⟩) hS (hp ▸ h)
end
end Go.Proofs.YtckckabedgpbiaaGreat
