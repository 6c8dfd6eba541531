/- Texts of this proof, merged: App, Apl. -/
import Derived.Test.YtfopoijikdmiaaaGreatDoorJ7
import Derived.Laws.OwnMore
set_option linter.unusedSimpArgs false
set_option linter.unusedVariables false
set_option maxHeartbeats 8000000
set_option maxRecDepth 20000
namespace Go.Proofs.YtfopoijikdmiaaaGreatDoor
section
open Go.RowKit
theorem elems_one {w : World} {q : Nat} {x : List Value} (h : row w q = x.toArray) (h0 : 0 < x.length) : ElemsAt w (some ⟨q, 0, none⟩) x.length [x] := by
 refine ⟨by simp [maxLen], fun i y hy => ?_⟩
 have hi : i = 0 := by
  have := (List.getElem?_eq_some_iff.1 hy).1
  simpa using this
 subst hi
 simp only [List.getElem?_cons_zero, Option.some.injEq] at hy
 subst hy
 refine ⟨q, 0, rfl, lt_of_row (i := 0) (by rw [h]; simpa using h0), fun W hW j u hj => ?_⟩
 have hr : row W q = x.toArray := (row_of_block hW).trans h
 have hjl := (List.getElem?_eq_some_iff.1 hj).1
 rw [show 0 + 0 * x.length + j = j by omega, cell_of_row' (by rw [hr]; simpa using hjl), hr, List.getElem?_toArray]
 exact hj
section
variable {P : Program}
end
end
section
open Go.RowKit
theorem OwnL.blk {w : World} {B : Nat} {e : TypeId} {sz : Nat} {v : Value} {l : List (List Value)} (h : OwnL w B e sz v l) {k : Nat} (hk : v.ownBlock = some k) : B ≤ k ∧ k < w.heap.size ∧ ∃ cur, w.heap[k]? = some (.cells cur e (0, 0)) := by
 obtain ⟨_, _, ⟨rfl, h0⟩ | ⟨g, cap, cur, rfl, hg0, hg, _⟩⟩ := h
 ·
  cases hk
 ·
  simp only [Value.ownBlock, Option.some.injEq] at hk
  subst hk
  exact ⟨hg0, (Array.getElem?_eq_some_iff.1 hg).1, cur, hg⟩
theorem OwnL.keep {w w' : World} {B : Nat} {e : TypeId} {sz : Nat} {v : Value} {l : List (List Value)} (h : OwnL w B e sz v l) (hb : ∀ k, v.ownBlock = some k → w'.heap[k]? = w.heap[k]?) : OwnL w' B e sz v l := by
 obtain ⟨hl, hlen, h0 | ⟨g, cap, cur, e1, hg0, hg, hr⟩⟩ := h
 ·
  exact ⟨hl, hlen, .inl h0⟩
 ·
  exact ⟨hl, hlen, .inr ⟨g, cap, cur, e1, hg0, by rw [hb g (by rw [e1]; rfl), hg], hr⟩⟩
theorem OwnL.apart {w : World} {B B' : Nat} {e e' : TypeId} {sz sz' : Nat} {v v' : Value} {l l' : List (List Value)} (h : OwnL w B e sz v l) (h' : OwnL w B' e' sz' v' l') (he : e ≠ e') {k : Nat} (hk : v.ownBlock = some k) : v'.ownBlock ≠ some k := by
 intro hc
 obtain ⟨_, _, c1, h1⟩ := h.blk hk
 obtain ⟨_, _, c2, h2⟩ := h'.blk hc
 rw [h1] at h2
 simp only [Option.some.injEq, Obj.cells.injEq] at h2
 exact he h2.2.1
section
variable {P : Program} {w : World}
theorem wp_appendL {o : Oper} {a : Act} {K : Act → World → Prop} {Q : Exit → Act → World → Prop} {s x : Operand} {t e : TypeId} {sz bytes : Nat}
  (ho : o.op = .call { callee := .builtin .append, args := #[s, x], argTypes := #[t, t] }) (ht : P.underlying t = some (.slice e))
  (hinfo : (P.info? e).map (fun i => (i.zero.map (·.cells.size), i.size, i.bytes)) = some (some sz, sz, bytes)) (hsz : 0 < sz) (hby : bytes ≤ 1000)
  (base : Nat) (v : Value) (l : List (List Value)) (hs : a.eval s = v) (hown : OwnL w base e sz v l)
  (g c : Nat) (u : List Value) (hx : a.eval x = .slice (some ⟨g, 0, none⟩) 1 c) (hr : row w g = u.toArray) (hu : u.length = sz) (hone : ones u = true) (hn : l.length ≤ 10000) (hbase : base ≤ w.heap.size)
  (h : ∀ v' w', OwnL w' base e sz v' (l ++ [u]) → Below base w w' → (∀ X, X < w.heap.size → v.ownBlock ≠ some X → w'.heap[X]? = w.heap[X]?) → K (a.put o.dst v') w') : o.wp P a w K Q := by
 obtain ⟨hl, hown⟩ := hown
 have hi : ∃ i z, P.info? e = some i ∧ i.zero = some z ∧ i.size = sz ∧ i.bytes = bytes ∧ z.cells.size = sz := by
  cases hi : P.info? e with
  | none => rw [hi] at hinfo; simp at hinfo
  | some i =>
   rw [hi] at hinfo
   simp at hinfo
   obtain ⟨⟨z, h1, h2⟩, h3, h4⟩ := hinfo
   exact ⟨i, z, rfl, h1, h3, h4, h2⟩
 obtain ⟨i0, z, hi, hz, h32, hb32, hzs⟩ := hi
 refine wp_append_own (P := P) w s x t ho base e i0 z sz bytes ht hi hz h32 hb32 hzs hsz v l.length l.flatten hs hown ⟨g, 0, none⟩ 1 c u hx (by rw [Nat.one_mul]; exact hu) ?_ (by unfold ones at hone; simpa using hone) ?_ ?_ hbase ?_
 ·
  intro j y hj
  have hlt := (List.getElem?_eq_some_iff.1 hj).1
  have : (⟨g, 0, none⟩ : Addr).add j = ⟨g, j, none⟩ := by
   simp [Addr.add]
   try exact fun h => h.symm
  rw [this, cell_of_row' (by rw [hr]; simpa using hlt), hr, List.getElem?_toArray]
  exact hj
 ·
  unfold maxLen; omega
 ·
  have := Nat.mul_le_mul (show l.length + 1 ≤ 10001 by omega) hby; omega
 ·
  intro v' w' h1 h2 _
  refine h v' w' ⟨?_, ?_⟩ ((Below.refl base w).grown h2 (by omega) fun k hk => (World.ownsRow.lt hown k hk).1) (fun X hX hne => h2.block X hX (fun e => hne e.symm))
  ·
   intro y hy
   rcases List.mem_append.1 hy with hy | hy
   ·
    exact hl y hy
   ·
    rw [List.mem_singleton.1 hy]; exact hu
  ·
   simp only [List.length_append, List.length_singleton, List.flatten_append, List.flatten_cons, List.flatten_nil, List.append_nil]
   exact h1
end
section
variable {P : Program} {ops : Array Oper} {Q : Exit → Act → World → Prop} {md : Region.Mode} {S S2 : World → Prop}
theorem wpOp_wp {i : Nat} {o : Oper} {a : Act} {w : World} {K : Act → World → Prop} (ho : ops[i]? = some o) (g : o.guard = none) (h : o.wp P a w K Q) : wpOp P ops Q i K a w := by
 unfold wpOp
 have hw : Region.wanted o (yielded ops a.tmps) = true := by unfold Region.wanted; rw [g]
 simp only [ho, hw, if_true]
 exact .inl h
theorem wpAnyK_op1 {k : Nat} (i : Nat) {fuel : Nat} {listed : Array Bool} {a : Act} {w : World} (hr : Region.ready md ops listed = [i]) (hik : i ≠ k)
  (h : ∀ w1, Below w.heap.size w w1 → wpOp P ops Q i (fun a' w' => S w' ∧ wpAnyK P md ops Q S S2 k fuel (listed.setIfInBounds i true) a' w') a w1) : wpAnyK P md ops Q S S2 k (fuel + 1) listed a w := by
 intro w1 h1
 refine ⟨fun h0 => by rw [hr] at h0; simp at h0, fun j hj => ?_⟩
 rw [hr] at hj
 obtain rfl := List.mem_singleton.1 hj
 simp only [if_neg hik]
 exact h w1 h1
end
section
variable {P : Program} {ops : Array Oper} {Q : Exit → Act → World → Prop} {md : Region.Mode} {k : Nat} {X : World → Prop}
theorem wp_region_beginKG {id : Nat} {a : Act} {w : World} (k : Nat) (X : World → Prop) (hG : GrowP X) (hm : P.follows .mixedOrders = true) (hX : X w)
  (h : XS [] X w.drew → wpAnyK P .any ops Q (XS [] X) (XS [] fun _ => True) k ops.size (Array.replicate ops.size false) a w.drew) : (Code.region id ops true).wp P Q a w :=
 wp_region_any hm (wpAny_of_K _ _ _ _ (h (XS.grow hG w _ ⟨trivial, hX⟩ (Below.drew (Below.refl _ _)))))
theorem kg (i : Nat) {oi : Oper} {v : Value} {fuel : Nat} {listed : Array Bool} {a a' : Act} {w : World} {S2 : World → Prop} (hG : GrowP X) (hS : XS [] X w)
  (h : wpAnyK P md ops Q (XS [] X) S2 k fuel (listed.setIfInBounds i true) a' w)
  (hi : ops[i]? = some oi := by simp only [List.getElem?_toArray, List.getElem?_cons_succ, List.getElem?_cons_zero]; rfl)
  (hs : Region.noSelect ops = true := by kernel_rfl) (hf : Region.free md ops listed i = true := by kernel_rfl) (hr : (Region.ready md ops listed).contains i = true := by kernel_rfl) (hk : waitsB md ops k i = true := by kernel_rfl)
  (hQ : ∀ c a w, Q (.panic c) (a.put oi.dst v) w → Q (.panic c) a w := by first | exact fun _ _ _ h => h | exact fun _ _ _ h => by cases h.1)
  (hw : Region.wanted oi (yielded ops a.tmps) = true := by rfl)
  (hy : ∀ w', XS [] X w' → uponV P (fun u w'' => u = v ∧ Below w'.heap.size w' w'') ((execOp a.eval oi).run P w') := by
   intro w' hS'
   obtain ⟨_, hX'⟩ := hS'
   go_simp
   refine ⟨?_, Below.refl _ _⟩
   rfl)
  (hp : a.put oi.dst v = a' := by first | (simp only [Act.put, List.setIfInBounds_toArray, List.set_cons_zero, List.set_cons_succ]; rfl) | rfl) :
  wpAnyK P md ops Q (XS [] X) S2 k (fuel + 1) listed a w :=
 wpAnyK_take hi hs hf hr hk hQ (XS.grow hG) (Or.inl ⟨hw, hy⟩) hS (hp ▸ h)
theorem kf (i : Nat) {oi : Oper} {v : Value} {fuel : Nat} {listed : Array Bool} {a a' : Act} {w : World} (hG : GrowP X) (hS : XS [] X w)
  (h : wpAnyK P md ops Q (XS [] X) (XS [] fun _ => True) k fuel (listed.setIfInBounds i true) a' w)
  (hi : ops[i]? = some oi := by simp only [List.getElem?_toArray, List.getElem?_cons_succ, List.getElem?_cons_zero]; rfl)
  (hs : Region.noSelect ops = true := by kernel_rfl) (hf : Region.free md ops listed i = true := by kernel_rfl) (hr : (Region.ready md ops listed).contains i = true := by kernel_rfl) (hk : i ≠ k := by decide)
  (hQ : ∀ c a w, Q (.panic c) (a.put oi.dst v) w → Q (.panic c) a w := by first | exact fun _ _ _ h => h | exact fun _ _ _ h => by cases h.1)
  (hw : Region.wanted oi (yielded ops a.tmps) = true := by rfl)
  (hy : ∀ w' : World, uponV P (fun u w'' => u = v ∧ Below w'.heap.size w' w'') ((execOp a.eval oi).run P w') := by
   intro w'
   go_simp
   refine ⟨?_, Below.refl _ _⟩
   rfl)
  (hp : a.put oi.dst v = a' := by first | (simp only [Act.put, List.setIfInBounds_toArray, List.set_cons_zero, List.set_cons_succ]; rfl) | rfl) :
  wpAnyK P md ops Q (XS [] X) (XS [] fun _ => True) k (fuel + 1) listed a w :=
 wpAnyK_both hi hs hf hr hk hQ (XS.grow hG) (XS.grow grow_true) (fun _ h => ⟨h.1, trivial⟩) (Or.inl ⟨hw, fun w' _ => hy w'⟩) hS (hp ▸ h)
end
theorem own_first {w : World} {B : Nat} {e : TypeId} {v x : Value} {l : List (List Value)} (h : OwnL w B e 1 v ([x] :: l)) {k : Nat} (hk : v.ownBlock = some k) : (row w k)[0]? = some x := by
 obtain ⟨_, hlen, ⟨rfl, h0⟩ | ⟨g, cap, cur, rfl, hg0, hg, _, _, _, ht⟩⟩ := h
 ·
  cases hk
 ·
  simp only [Value.ownBlock, Option.some.injEq] at hk
  subst hk
  unfold row
  rw [hg]
  have := congrArg (fun q : List Value => q[0]?) ht
  simp only [List.flatten_cons, List.cons_append, List.nil_append, List.getElem?_cons_zero, List.length_cons, Nat.mul_one] at this
  rw [List.getElem?_take_of_lt (by omega)] at this
  simpa using this
theorem OwnL.lowr {w : World} {B B' : Nat} {e : TypeId} {sz : Nat} {v : Value} {l : List (List Value)} (h : OwnL w B e sz v l) (hB : B' ≤ B) : OwnL w B' e sz v l := by
 obtain ⟨hl, hlen, h0 | ⟨g, cap, cur, e1, hg0, hr⟩⟩ := h
 ·
  exact ⟨hl, hlen, .inl h0⟩
 ·
  exact ⟨hl, hlen, .inr ⟨g, cap, cur, e1, Nat.le_trans hB hg0, hr⟩⟩
section
variable {P : Program}
theorem wpList_appendB {w : World} {ops : Array Oper} {rest : List Oper} {o : Oper} {a : Act} {Q : Exit → Act → World → Prop} (hgd : o.guard = none) {s x : Operand} {t e : TypeId} {sz bytes : Nat}
  (ho : o.op = .call { callee := .builtin .append, args := #[s, x], argTypes := #[t, t] }) (ht : P.underlying t = some (.slice e))
  (hinfo : (P.info? e).map (fun i => (i.zero.map (·.cells.size), i.size, i.bytes)) = some (some sz, sz, bytes)) (hsz : 0 < sz) (hby : bytes ≤ 1000)
  (base : Nat) (v : Value) (l : List (List Value)) (hs : a.eval s = v) (hown : OwnL w base e sz v l)
  (u : List Value) (hx : a.eval x = .slice (some ⟨w.heap.size, 0, none⟩) 1 1) (hu : u.length = sz) (hone : ones u = true) (hn : l.length ≤ 10000) (hbase : base ≤ w.heap.size)
  (h : ∀ v' w', OwnL w' base e sz v' (l ++ [u]) → Below base w w' → (∀ X, X < w.heap.size → v.ownBlock ≠ some X → w'.heap[X]? = w.heap[X]?) → wpList P ops Q rest (a.put o.dst v') w') :
  wpList P ops Q (o :: rest) a (w.alloc (.cells u.toArray e)) := by
 obtain ⟨hl, hown⟩ := hown
 have hi : ∃ i z, P.info? e = some i ∧ i.zero = some z ∧ i.size = sz ∧ i.bytes = bytes ∧ z.cells.size = sz := by
  cases hi : P.info? e with
  | none => rw [hi] at hinfo; simp at hinfo
  | some i =>
   rw [hi] at hinfo
   simp at hinfo
   obtain ⟨⟨z, h1, h2⟩, h3, h4⟩ := hinfo
   exact ⟨i, z, rfl, h1, h3, h4, h2⟩
 obtain ⟨i0, z, hi, hz, h32, hb32, hzs⟩ := hi
 refine wpList_append_own (P := P) _ hgd s x _ ho base e i0 z sz bytes ht hi hz h32 hb32 hzs hsz v l.length l.flatten hs (World.ownsRow.alloc hown _) ⟨w.heap.size, 0, none⟩ 1 1 u hx (by rw [Nat.one_mul]; exact hu) ?_ (by unfold ones at hone; simpa using hone) ?_ ?_ ?_ ?_
 ·
  intro j y hj
  have hlt := (List.getElem?_eq_some_iff.1 hj).1
  have : (⟨w.heap.size, 0, none⟩ : Addr).add j = ⟨w.heap.size, j, none⟩ := by
   simp [Addr.add]
   try exact fun h => h.symm
  have hr : row (w.alloc (.cells u.toArray e)) w.heap.size = u.toArray := row_alloc_at _ _ _ rfl
  rw [this, cell_of_row' (by rw [hr]; simpa using hlt), hr, List.getElem?_toArray]
  exact hj
 ·
  unfold maxLen; omega
 ·
  have := Nat.mul_le_mul (show l.length + 1 ≤ 10001 by omega) hby; omega
 ·
  simp; omega
 ·
  intro v' w' h1 h2 _
  refine h v' w' ⟨?_, ?_⟩ (((Below.refl base w).alloc hbase _).grown h2 (by simp; omega) fun k hk => (World.ownsRow.lt hown k hk).1) (fun X hX hne => by rw [h2.block X (by simp; omega) (fun e => hne e.symm), Below.heap_alloc _ _ _ (by omega)])
  ·
   intro y hy
   rcases List.mem_append.1 hy with hy | hy
   ·
    exact hl y hy
   ·
    rw [List.mem_singleton.1 hy]; exact hu
  ·
   simp only [List.length_append, List.length_singleton, List.flatten_append, List.flatten_cons, List.flatten_nil, List.append_nil]
   exact h1
end
end
end Go.Proofs.YtfopoijikdmiaaaGreatDoor
