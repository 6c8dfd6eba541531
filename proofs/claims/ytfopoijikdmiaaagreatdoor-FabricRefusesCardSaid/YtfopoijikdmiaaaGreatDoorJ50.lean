/- Texts of this proof, merged: Two, Lsa. -/
import Derived.Test.YtfopoijikdmiaaaGreatDoorJ5
import Derived.Test.YtfopoijikdmiaaaGreatDoorJ9
import Derived.Deep.AppendLies
set_option linter.unusedSimpArgs false
set_option linter.unusedVariables false
set_option maxHeartbeats 8000000
set_option maxRecDepth 20000
namespace Go.Proofs.YtfopoijikdmiaaaGreatDoor
section
open Go.RowKit
section
variable {P : Program} {ops : Array Oper} {Q : Exit → Act → World → Prop} {md : Region.Mode} {S : World → Prop}
theorem wpAnyR_twoS {i j : Nat} {oi oj : Oper} {dA dB : Tmp} {zi zj : Array Value} {ti tj : TypeId} {fuel : Nat} {listed : Array Bool} {a : Act} {w : World}
  (hoi : ops[i]? = some oi) (hoj : ops[j]? = some oj) (ni : News P oi dA zi ti) (nj : News P oj dB zj tj) (hd : dA ≠ dB) (hij : i ≠ j)
  (r0 : Region.ready md ops listed = [i, j]) (r1 : Region.ready md ops (listed.setIfInBounds i true) = [j]) (r2 : Region.ready md ops (listed.setIfInBounds j true) = [i]) (hSg : ∀ w w1, S w → Below w.heap.size w w1 → S w1) (hS : S w)
  (h : ∀ A B w2, w.heap.size ≤ A → w.heap.size ≤ B → A ≠ B → A < w2.heap.size → B < w2.heap.size → Below w.heap.size w w2 → S w2 → row w2 A = zi → row w2 B = zj →
   wpAnyR P md ops Q S fuel ((listed.setIfInBounds i true).setIfInBounds j true) ((a.put (some dA) (ptr A)).put (some dB) (ptr B)) w2) :
  wpAnyR P md ops Q S (fuel + 1 + 1) listed a w := by
 intro w1 h1
 refine ⟨fun h0 => by rw [r0] at h0; simp at h0, fun q hq => ?_⟩
 rw [r0] at hq
 have hs := h1.size
 have hS1 : S w1 := hSg _ _ hS h1
 simp only [List.mem_cons, List.not_mem_nil, or_false] at hq
 rcases hq with rfl | rfl
 ·
  refine wpOp_run hoi ni.guard (ni.run a w1) rfl ⟨hSg _ _ hS1 (ba_), wpAnyR_one hoj nj.guard r1 fun w3 h3 => ⟨_, _, _, nj.run _ w3, rfl, ?_, ?_⟩⟩
  ·
   exact hSg _ _ (hSg _ _ (hSg _ _ hS1 (ba_)) h3) (ba_)
  ·
   rw [ni.dst, nj.dst]
   have hs3 := h3.size
   rw [alloc_sizeW] at hs3
   refine h _ _ _ hs (by omega) (by omega) (by rw [alloc_sizeW]; omega) (by rw [alloc_sizeW]; omega) ?_ (hSg _ _ (hSg _ _ (hSg _ _ hS1 (ba_)) h3) (ba_)) ?_ ?_
   ·
    exact Below.alloc (h1.trans (Below.trans (Below.alloc (Below.refl _ _) (by omega) _) (h3.mono (by rw [alloc_sizeW]; omega)))) (by omega) _
   ·
    rw [row_alloc_past _ _ (by omega), row_below h3 (by rw [alloc_sizeW]; omega), row_alloc_at _ _ _ rfl]
   ·
    rw [row_alloc_at _ _ _ rfl]
 ·
  refine wpOp_run hoj nj.guard (nj.run a w1) rfl ⟨hSg _ _ hS1 (ba_), wpAnyR_one hoi ni.guard r2 fun w3 h3 => ⟨_, _, _, ni.run _ w3, rfl, ?_, ?_⟩⟩
  ·
   exact hSg _ _ (hSg _ _ (hSg _ _ hS1 (ba_)) h3) (ba_)
  ·
   rw [ni.dst, nj.dst, Array.setIfInBounds_comm _ _ (Ne.symm hij), Act.put_comm _ _ _ (fun d hd1 => by simp only [Option.some.injEq] at hd1; subst hd1; simp; exact hd)]
   have hs3 := h3.size
   rw [alloc_sizeW] at hs3
   refine h _ _ _ (by omega) hs (by omega) (by rw [alloc_sizeW]; omega) (by rw [alloc_sizeW]; omega) ?_ (hSg _ _ (hSg _ _ (hSg _ _ hS1 (ba_)) h3) (ba_)) ?_ ?_
   ·
    exact Below.alloc (h1.trans (Below.trans (Below.alloc (Below.refl _ _) (by omega) _) (h3.mono (by rw [alloc_sizeW]; omega)))) (by omega) _
   ·
    rw [row_alloc_at _ _ _ rfl]
   ·
    rw [row_alloc_past _ _ (by omega), row_below h3 (by rw [alloc_sizeW]; omega), row_alloc_at _ _ _ rfl]
theorem wpAnyR_pairS {i j k m : Nat} {oi oj ok om : Oper} {dA dB : Tmp} {zi zj cA cB : Array Value} {ti tj : TypeId} {fuel : Nat} {listed : Array Bool} {a : Act} {w : World}
  (hoi : ops[i]? = some oi) (hoj : ops[j]? = some oj) (hok : ops[k]? = some ok) (hom : ops[m]? = some om) (ni : News P oi dA zi ti) (nj : News P oj dB zj tj) (hd : dA ≠ dB) (hij : i ≠ j)
  (r0 : Region.ready md ops listed = [i, j]) (r1 : Region.ready md ops (listed.setIfInBounds i true) = [j]) (r2 : Region.ready md ops (listed.setIfInBounds j true) = [i])
  (r3 : Region.ready md ops ((listed.setIfInBounds i true).setIfInBounds j true) = [k]) (r4 : Region.ready md ops (((listed.setIfInBounds i true).setIfInBounds j true).setIfInBounds k true) = [m])
  (r5 : Region.ready md ops ((((listed.setIfInBounds i true).setIfInBounds j true).setIfInBounds k true).setIfInBounds m true) = [])
  (gk : ok.guard = none) (gm : om.guard = none) (dk : ok.dst = none) (dm : om.dst = none)
  (sA : cA.size = zi.size) (sB : cB.size = zj.size) (pA : 0 < zi.size) (pB : 0 < zj.size)
  (vk : ∀ A B w1, row w1 A = zi → Stores ((execOp (((a.put (some dA) (ptr A)).put (some dB) (ptr B)).eval) ok).run P w1) (w1.setRow A cA))
  (vm : ∀ A B w1, row w1 B = zj → Stores ((execOp (((a.put (some dA) (ptr A)).put (some dB) (ptr B)).eval) om).run P w1) (w1.setRow B cB)) (hSg : ∀ w w1, S w → Below w.heap.size w w1 → S w1) (hSs : ∀ w' g c, S w' → w.heap.size ≤ g → S (w'.setRow g c)) (hS : S w)
  (h : ∀ A B w2, w.heap.size ≤ A → w.heap.size ≤ B → A ≠ B → A < w2.heap.size → B < w2.heap.size → Below w.heap.size w w2 → row w2 A = cA → row w2 B = cB →
   Q .normal ((a.put (some dA) (ptr A)).put (some dB) (ptr B)) w2) :
  wpAnyR P md ops Q S (fuel + 1 + 1 + 1 + 1) listed a w := by
 refine wpAnyR_twoS hoi hoj ni nj hd hij r0 r1 r2 hSg hS fun A B w2 h1 h2 h3 h4 h5 h6 h7 h8 h9 => ?_
 refine wpAnyR_one hok gk r3 fun w3 b3 => ?_
 have e3 := b3.size
 have rA3 : row w3 A = zi := by rw [row_below b3 h4, h8]
 have rB3 : row w3 B = zj := by rw [row_below b3 h5, h9]
 obtain ⟨n, v, hv, hn⟩ := vk A B w3 rA3
 refine ⟨n, v, _, hv, hn, hSs _ _ _ (hSg _ _ h7 b3) h1, ?_⟩
 rw [dk]
 refine wpAnyR_one hom gm r4 fun w4 b4 => ?_
 have e4 := b4.size
 rw [setRow_size] at e4
 have rA4 : row w4 A = cA := by rw [row_below b4 (by rw [setRow_size]; omega), row_setRow_same (by rw [rA3]; exact pA) (by rw [rA3]; exact sA)]
 have rB4 : row w4 B = zj := by rw [row_below b4 (by rw [setRow_size]; omega), row_setRow_other _ _ _ (Ne.symm h3), rB3]
 obtain ⟨n, v, hv, hn⟩ := vm A B w4 rB4
 have hS4 : S w4 := hSg _ _ (hSs _ _ _ (hSg _ _ h7 b3) h1) b4
 refine ⟨n, v, _, hv, hn, hSs _ _ _ hS4 h2, ?_⟩
 rw [dm]
 refine wpAnyR_done r5 (fun w5 b5 => ?_) _
 have e5 := b5.size
 rw [setRow_size] at e5
 refine h A B w5 h1 h2 h3 (by omega) (by omega) ?_ ?_ ?_
 ·
  refine Below.trans (Below.setRow (Below.trans (Below.setRow (Below.trans h6 (b3.mono (by omega))) h1 _) (b4.mono (by rw [setRow_size]; omega))) h2 _) (b5.mono (by rw [setRow_size]; omega))
 ·
  rw [row_below b5 (by rw [setRow_size]; omega), row_setRow_other _ _ _ h3, rA4]
 ·
  rw [row_below b5 (by rw [setRow_size]; omega), row_setRow_same (by rw [rB4]; exact pB) (by rw [rB4]; exact sB)]
end
theorem XS.setB {l : List (Nat × Array Value)} {B : Nat} {w0 wr : World} (hl : ∀ p ∈ l, p.1 < wr.heap.size) (hB : B ≤ wr.heap.size) : ∀ (w' : World) (g : Nat) (c : Array Value), XS l (fun W => Below B w0 W) w' → wr.heap.size ≤ g → XS l (fun W => Below B w0 W) (w'.setRow g c) :=
 fun w' g c h hg => ⟨Rws.setRow l _ h.1 hl hg, Below.setRow h.2 (Nat.le_trans hB hg) _⟩
end
section
open Go.RowKit
theorem flatten_at {sz : Nat} {l : List (List Value)} (hl : ∀ x ∈ l, x.length = sz) {j : Nat} {y : Value} (h : l.flatten[j]? = some y) : ∃ i r x, j = i * sz + r ∧ l[i]? = some x ∧ x[r]? = some y := by
 induction l generalizing j with
 | nil => simp at h
 | cons z l ih =>
  rw [List.flatten_cons] at h
  rcases Nat.lt_or_ge j z.length with hj | hj
  ·
   rw [List.getElem?_append_left hj] at h
   exact ⟨0, j, z, by simp, rfl, h⟩
  ·
   rw [List.getElem?_append_right hj] at h
   obtain ⟨i, r, x, e, h1, h2⟩ := ih (fun x hx => hl x (by simp [hx])) h
   have hz := hl z (by simp)
   exact ⟨i + 1, r, x, by rw [Nat.succ_mul]; omega, h1, h2⟩
theorem flat_lenS {sz : Nat} : ∀ {l : List (List Value)}, (∀ x ∈ l, x.length = sz) → l.flatten.length = l.length * sz
 | [], _ => by simp
 | y :: l, h => by rw [List.flatten_cons, List.length_append, h y (by simp), flat_lenS (fun y hy => h y (by simp [hy])), List.length_cons, Nat.succ_mul]; omega
theorem flat_set {sz q : Nat} (hq : q < sz) (u : Value) : ∀ {l : List (List Value)} {k : Nat}, (∀ x ∈ l, x.length = sz) → k < l.length → (l.modify k fun x => x.set q u).flatten = l.flatten.set (k * sz + q) u
 | [], k, _, h => by simp at h
 | y :: l, 0, h, _ => by
  have := h y (by simp)
  rw [List.modify_zero_cons, List.flatten_cons, List.flatten_cons, List.set_append_left _ _ (by omega)]
  simp
 | y :: l, k + 1, h, hk => by
  have := h y (by simp)
  rw [List.modify_succ_cons, List.flatten_cons, List.flatten_cons, flat_set hq u (fun x hx => h x (by simp [hx])) (by simpa using hk), List.set_append_right _ _ (by rw [Nat.succ_mul]; omega), this, show (k + 1) * sz + q - sz = k * sz + q by rw [Nat.succ_mul]; omega]
section
variable {P : Program}
theorem wpList_appendAt {w : World} {ops : Array Oper} {rest : List Oper} {o : Oper} {a : Act} {Q : Exit → Act → World → Prop} (hgd : o.guard = none) {s x : Operand} {t e : TypeId} {sz bytes : Nat}
  (ho : o.op = .call { callee := .builtin .append, args := #[s, x], argTypes := #[t, t] }) (ht : P.underlying t = some (.slice e))
  (hinfo : (P.info? e).map (fun i => (i.zero.map (·.cells.size), i.size, i.bytes)) = some (some sz, sz, bytes)) (hsz : 0 < sz) (hby : bytes ≤ 1000)
  (base : Nat) (v : Value) (l : List (List Value)) (hs : a.eval s = v) (hown : OwnL w base e sz v l)
  (ad : Addr) (cap : Nat) (l2 : List (List Value)) (hx : a.eval x = .slice (some ad) l2.length cap) (hl2 : ∀ y ∈ l2, y.length = sz) (hat : ElemsAt w (some ad) sz l2) (hone : ∀ y ∈ l2, ones y = true) (hn : l.length + l2.length ≤ 10000) (hbase : base ≤ w.heap.size)
  (h : ∀ v' w', OwnL w' base e sz v' (l ++ l2) → Below base w w' → wpList P ops Q rest (a.put o.dst v') w') :
  wpList P ops Q (o :: rest) a w := by
 have hi : ∃ i z, P.info? e = some i ∧ i.zero = some z ∧ i.size = sz ∧ i.bytes = bytes ∧ z.cells.size = sz := by
  cases hi : P.info? e with
  | none => rw [hi] at hinfo; simp at hinfo
  | some i =>
   rw [hi] at hinfo
   simp at hinfo
   obtain ⟨⟨z, h1, h2⟩, h3, h4⟩ := hinfo
   exact ⟨i, z, rfl, h1, h3, h4, h2⟩
 obtain ⟨i0, z, hi, hz, h32, hb32, hzs⟩ := hi
 obtain ⟨hl, hown⟩ := hown
 have hfl : l2.flatten.length = l2.length * sz := flat_lenS hl2
 refine wpList_append_own (P := P) _ hgd s x _ ho base e i0 z sz bytes ht hi hz h32 hb32 hzs hsz v l.length l.flatten hs hown ad l2.length cap l2.flatten hx hfl ?_ ?_ ?_ ?_ hbase ?_
 ·
  intro j y hj
  obtain ⟨i, r, x2, rfl, h1, h2⟩ := flatten_at hl2 hj
  obtain ⟨b, off, e1, hb, hra⟩ := hat.2 i x2 h1
  cases e1
  have h3 := hra w rfl r y h2
  rw [addr_add]
  rw [← h3]
  congr 2
  omega
 ·
  intro y hy
  obtain ⟨q, hq, hyq⟩ := List.mem_flatten.1 hy
  have := hone q hq
  unfold ones at this
  exact List.all_eq_true.1 this y hyq
 ·
  unfold maxLen; omega
 ·
  have := Nat.mul_le_mul (show l.length + l2.length ≤ 10000 by omega) hby; omega
 ·
  intro v' w' h1 h2 _
  refine h v' w' ⟨?_, ?_⟩ ((Below.refl base w).grown h2 (by omega) fun k hk => (World.ownsRow.lt hown k hk).1)
  ·
   intro y hy
   rcases List.mem_append.1 hy with hy | hy
   ·
    exact hl y hy
   ·
    exact hl2 y hy
  ·
   rw [List.length_append, List.flatten_append]
   exact h1
end
theorem OwnL.setCell {w : World} {B : Nat} {e : TypeId} {sz : Nat} {v : Value} {l : List (List Value)} (h : OwnL w B e sz v l) {k q : Nat} (hk : k < l.length) (hq : q < sz) (u : Value) :
  ∃ g cap cur, v = .slice (some ⟨g, 0, none⟩) l.length cap ∧ B ≤ g ∧ g < w.heap.size ∧ row w g = cur ∧ k * sz + q < cur.size ∧ OwnL (w.setRow g (cur.setIfInBounds (k * sz + q) u)) B e sz v (l.modify k fun x => x.set q u) := by
 have hlt := fun g (hg : v.ownBlock = some g) => (h.blk hg).2.1
 obtain ⟨hl, hlen, ⟨rfl, h0⟩ | ⟨g, cap, cur, rfl, hg0, hg, hnc, hm, hcs, htk⟩⟩ := h
 ·
  omega
 ·
  have hrow : row w g = cur := by
   unfold row
   rw [hg]
   simp
  have hb : k * sz + q < cur.size := by
   rw [hcs]
   have : (k + 1) * sz ≤ cap * sz := Nat.mul_le_mul_right _ (by omega)
   rw [Nat.succ_mul] at this
   omega
  have hl2 : ∀ y ∈ l.modify k (fun x => x.set q u), y.length = sz := by
   intro y hy
   obtain ⟨i, hi, rfl⟩ := List.getElem_of_mem hy
   rw [List.getElem_modify]
   have := hl (l[i]'(by simpa using hi)) (List.getElem_mem _)
   split
   ·
    simpa using this
   ·
    exact this
  refine ⟨g, cap, cur, rfl, hg0, hlt g rfl, hrow, hb, hl2, flat_lenS hl2, .inr ⟨g, cap, cur.setIfInBounds (k * sz + q) u, by simp, hg0, setRow_heap w g cur _ e _ hg, by simpa using hnc, hm, by simpa using hcs, ?_⟩⟩
  rw [List.length_modify, flat_set hq u hl hk, ← htk, Array.toList_setIfInBounds, List.take_set]
section
variable {P : Program}
theorem wpList_appendW {w : World} {ops : Array Oper} {rest : List Oper} {o : Oper} {a : Act} {Q : Exit → Act → World → Prop} (hgd : o.guard = none) {s x : Operand} {t e : TypeId} {sz bytes : Nat}
  (ho : o.op = .call { callee := .builtin .append, args := #[s, x], argTypes := #[t, t] }) (ht : P.underlying t = some (.slice e))
  (hinfo : (P.info? e).map (fun i => (i.zero.map (·.cells.size), i.size, i.bytes)) = some (some sz, sz, bytes)) (hsz : 0 < sz) (hby : bytes ≤ 1000)
  (base : Nat) (v : Value) (l : List (List Value)) (hs : a.eval s = v) (hown : OwnL w base e sz v l)
  (u : List Value) (hx : a.eval x = .slice (some ⟨w.heap.size, 0, none⟩) 1 1) (hu : u.length = sz) (hone : ones u = true) (hn : l.length ≤ 10000) (hbase : base ≤ w.heap.size)
  (h : ∀ g cap w', (v.ownBlock = some g ∨ g = w.heap.size + 1) → OwnL w' base e sz (.slice (some ⟨g, 0, none⟩) (l.length + 1) cap) (l ++ [u]) → Below base w w' → (∀ X, X < w.heap.size → v.ownBlock ≠ some X → w'.heap[X]? = w.heap[X]?) → wpList P ops Q rest (a.put o.dst (.slice (some ⟨g, 0, none⟩) (l.length + 1) cap)) w') :
  wpList P ops Q (o :: rest) a (w.alloc (.cells u.toArray e)) := by
 obtain ⟨hl, hown⟩ := hown
 have hi : ∃ i z, P.info? e = some i ∧ i.zero = some z ∧ i.size = sz ∧ i.bytes = bytes ∧ z.cells.size = sz := by
  cases hi : P.info? e with
  | none => rw [hi] at hinfo; simp at hinfo
  | some i =>
   rw [hi] at hinfo
   simp at hinfo
   obtain ⟨⟨z, h1, h2⟩, h3, h4⟩ := hinfo
   exact ⟨i, z, rfl, h1, h3, h4, h2⟩
 obtain ⟨i0, z, hi, hz, h32, hb32, hzs⟩ := hi
 refine wpList_append_lies (P := P) _ hgd s x _ ho base e i0 z sz bytes ht hi hz h32 hb32 hzs hsz v l.length l.flatten hs (World.ownsRow.alloc hown _) ⟨w.heap.size, 0, none⟩ 1 1 u hx (by rw [Nat.one_mul]; exact hu) ?_ (by unfold ones at hone; simpa using hone) (by decide) ?_ ?_ ?_ (w.heap.size + 1) (by simp) ?_
 ·
  intro j y hj
  have hlt := (List.getElem?_eq_some_iff.1 hj).1
  have : (⟨w.heap.size, 0, none⟩ : Addr).add j = ⟨w.heap.size, j, none⟩ := by
   simp [Addr.add]
   try exact fun h => h.symm
  have hr : row (w.alloc (.cells u.toArray e)) w.heap.size = u.toArray := row_alloc_at _ _ _ rfl
  rw [this, cell_of_row' (by rw [hr]; simpa using hlt), hr, List.getElem?_toArray]
  exact hj
 ·
  unfold maxLen; omega
 ·
  have := Nat.mul_le_mul (show l.length + 1 ≤ 10001 by omega) hby; omega
 ·
  simp; omega
 ·
  intro g cap w' h1 h2 h3 _
  refine h g cap w' h3 ⟨?_, ?_⟩ (((Below.refl base w).alloc hbase _).grown h2 (by simp; omega) fun k hk => (World.ownsRow.lt hown k hk).1) (fun X hX hne => by rw [h2.block X (by simp; omega) (fun e => hne e.symm), Below.heap_alloc _ _ _ (by omega)])
  ·
   intro y hy
   rcases List.mem_append.1 hy with hy | hy
   ·
    exact hl y hy
   ·
    rw [List.mem_singleton.1 hy]; exact hu
  ·
   simp only [List.length_append, List.length_singleton, List.flatten_append, List.flatten_cons, List.flatten_nil, List.append_nil]
   exact h1
end
end
end Go.Proofs.YtfopoijikdmiaaaGreatDoor
