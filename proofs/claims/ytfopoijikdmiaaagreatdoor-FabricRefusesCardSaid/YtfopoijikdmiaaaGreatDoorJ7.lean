/- Texts of this proof, merged: Lst, Off. -/
import Derived.Test.YtfopoijikdmiaaaGreatDoorJ5
import Derived.Test.YtfopoijikdmiaaaGreatDoorJ6
import Derived.Laws.AppendOwn
set_option linter.unusedSimpArgs false
set_option linter.unusedVariables false
set_option maxHeartbeats 8000000
set_option maxRecDepth 20000
namespace Go.Proofs.YtfopoijikdmiaaaGreatDoor
section
open Go.RowKit
def ElemsAt (w : World) (a : Option Addr) (sz : Nat) (l : List (List Value)) : Prop :=
 l.length ≤ maxLen ∧ ∀ (i : Nat) (x : List Value), l[i]? = some x → ∃ b off, a = some ⟨b, off, none⟩ ∧ b < w.heap.size ∧ ∀ W, blk W b = blk w b → W.rangeAt b (off + i * sz) x
theorem ElemsAt.nil (w : World) (a : Option Addr) (sz : Nat) : ElemsAt w a sz [] := ⟨Nat.zero_le _, fun i x h => by simp at h⟩
theorem ElemsAt.below {w w' : World} {a : Option Addr} {sz : Nat} {l : List (List Value)} (h : ElemsAt w a sz l) (hb : Below w.heap.size w w') : ElemsAt w' a sz l := by
 refine ⟨h.1, fun i x hx => ?_⟩
 obtain ⟨b, off, e, hl, hr⟩ := h.2 i x hx
 exact ⟨b, off, e, Nat.lt_of_lt_of_le hl hb.size, fun W hW => hr W (hW.trans (blk_below hb hl))⟩
def OwnL (w : World) (B : Nat) (e : TypeId) (sz : Nat) (v : Value) (l : List (List Value)) : Prop := (∀ x ∈ l, x.length = sz) ∧ w.ownsRow B e sz v l.length l.flatten
theorem OwnL.nil (w : World) (B : Nat) (e : TypeId) (sz : Nat) : OwnL w B e sz (.slice none 0 0) [] := ⟨by simp, by simp, .inl ⟨rfl, rfl⟩⟩
theorem flatten_get {sz : Nat} : ∀ {l : List (List Value)}, (∀ x ∈ l, x.length = sz) → ∀ {i : Nat} {x : List Value}, l[i]? = some x → ∀ {j : Nat} {v : Value}, x[j]? = some v → l.flatten[i * sz + j]? = some v
 | [], _, i, x, h, _, _, _ => by simp at h
 | y :: l, hl, 0, x, h, j, v, hj => by
  simp only [List.getElem?_cons_zero, Option.some.injEq] at h
  subst h
  rw [List.flatten_cons, List.getElem?_append_left (by have := (List.getElem?_eq_some_iff.1 hj).1; omega)]
  simpa using hj
 | y :: l, hl, i + 1, x, h, j, v, hj => by
  have hy := hl y (by simp)
  rw [List.flatten_cons, List.getElem?_append_right (by rw [hy, Nat.succ_mul]; omega), hy, show (i + 1) * sz + j - sz = i * sz + j by rw [Nat.succ_mul]; omega]
  exact flatten_get (fun z hz => hl z (by simp [hz])) (by simpa using h) hj
theorem OwnL.elems {w : World} {B : Nat} {e : TypeId} {sz : Nat} {v : Value} {l : List (List Value)} (h : OwnL w B e sz v l) : ∃ a cap, v = .slice a l.length cap ∧ ElemsAt w a sz l := by
 obtain ⟨hl, hlen, ⟨rfl, h0⟩ | ⟨g, cap, cur, rfl, hg0, hg, hc1, hc2, hsz, ht⟩⟩ := h
 ·
  have : l = [] := List.eq_nil_of_length_eq_zero h0
  subst this
  exact ⟨none, 0, rfl, ElemsAt.nil _ _ _⟩
 ·
  refine ⟨_, cap, rfl, by omega, fun i x hx => ⟨g, 0, rfl, ?_, fun W hW j u hj => ?_⟩⟩
  ·
   rcases Nat.lt_or_ge g w.heap.size with h1 | h1
   ·
    exact h1
   ·
    rw [Array.getElem?_eq_none h1] at hg; cases hg
  ·
   have hf := flatten_get hl hx hj
   have hbl : W.heap[g]? = some (.cells cur e (0, 0)) := by
    have : blk W g = some (.cells cur e (0, 0)) := by rw [hW]; exact hg
    exact this
   have hi := (List.getElem?_eq_some_iff.1 hx).1
   have hk : i * sz + j < l.length * sz := by
    have hjl := (List.getElem?_eq_some_iff.1 hj).1
    rw [hl x (List.mem_of_getElem? hx)] at hjl
    have : (i + 1) * sz ≤ l.length * sz := Nat.mul_le_mul_right _ hi
    rw [Nat.succ_mul] at this
    omega
   rw [← ht, List.getElem?_take_of_lt hk] at hf
   unfold World.cell?
   rw [hbl]
   simpa using hf
theorem OwnL.below {w w' : World} {B : Nat} {e : TypeId} {sz : Nat} {v : Value} {l : List (List Value)} (h : OwnL w B e sz v l) (hb : Below w.heap.size w w') : OwnL w' B e sz v l := by
 obtain ⟨hl, hlen, ⟨rfl, h0⟩ | ⟨g, cap, cur, rfl, hg0, hg, hr⟩⟩ := h
 ·
  exact ⟨hl, hlen, .inl ⟨rfl, h0⟩⟩
 ·
  refine ⟨hl, hlen, .inr ⟨g, cap, cur, rfl, hg0, ?_, hr⟩⟩
  rw [hb.block g ?_]
  ·
   exact hg
  ·
   rcases Nat.lt_or_ge g w.heap.size with h1 | h1
   ·
    exact h1
   ·
    rw [Array.getElem?_eq_none h1] at hg; cases hg
theorem fold_at : ∀ (l p z : List Value), z.length = l.length → List.foldl (fun (cs : Array Value) (x : Value × Nat) => cs.setIfInBounds x.2 x.1) (p ++ z).toArray (l.zipIdx p.length) = (p ++ l).toArray
 | [], p, [], _ => by simp
 | x :: l, p, y :: z, h => by
  rw [List.zipIdx_cons, List.foldl_cons]
  have e : (p ++ y :: z).toArray.setIfInBounds p.length x = ((p ++ [x]) ++ z).toArray := by
   rw [List.setIfInBounds_toArray, List.set_append_right _ _ (Nat.le_refl _), Nat.sub_self, List.set_cons_zero, List.append_assoc]
   rfl
  simp only [e]
  have ih := fold_at l (p ++ [x]) z (by simpa using h)
  rw [List.length_append, List.length_singleton] at ih
  rw [ih, List.append_assoc]
  rfl
section
variable {P : Program}
theorem wpList_appendL {w : World} {ops : Array Oper} {rest : List Oper} {o : Oper} {a : Act} {Q : Exit → Act → World → Prop} (hgd : o.guard = none) {s x : Operand} {t e : TypeId} {sz bytes : Nat}
  (ho : o.op = .call { callee := .builtin .append, args := #[s, x], argTypes := #[t, t] }) (ht : P.underlying t = some (.slice e))
  (hinfo : (P.info? e).map (fun i => (i.zero.map (·.cells.size), i.size, i.bytes)) = some (some sz, sz, bytes)) (hsz : 0 < sz) (hby : bytes ≤ 1000)
  (base : Nat) (v : Value) (l : List (List Value)) (hs : a.eval s = v) (hown : OwnL w base e sz v l)
  (u : List Value) (hx : a.eval x = .slice (some ⟨w.heap.size, 0, none⟩) 1 1) (hu : u.length = sz) (hone : ones u = true) (hn : l.length ≤ 10000) (hbase : base ≤ w.heap.size)
  (h : ∀ v' w', OwnL w' base e sz v' (l ++ [u]) → Below base w w' → (∀ X, X < w.heap.size → v.ownBlock ≠ some X → row w' X = row w X) → wpList P ops Q rest (a.put o.dst v') w') :
  wpList P ops Q (o :: rest) a (w.alloc (.cells u.toArray e)) := by
 obtain ⟨hl, hown⟩ := hown
 have hi : ∃ i z, P.info? e = some i ∧ i.zero = some z ∧ i.size = sz ∧ i.bytes = bytes ∧ z.cells.size = sz := by
  cases hi : P.info? e with
  | none => rw [hi] at hinfo; simp at hinfo
  | some i =>
   rw [hi] at hinfo
   simp at hinfo
   obtain ⟨⟨z, h1, h2⟩, h3, h4⟩ := hinfo
   exact ⟨i, z, rfl, h1, h3, h4, h2⟩
 obtain ⟨i0, z, hi, hz, h32, hb32, hzs⟩ := hi
 refine wpList_append_own (P := P) _ hgd s x _ ho base e i0 z sz bytes ht hi hz h32 hb32 hzs hsz v l.length l.flatten hs (World.ownsRow.alloc hown _) ⟨w.heap.size, 0, none⟩ 1 1 u hx (by rw [Nat.one_mul]; exact hu) ?_ (by unfold ones at hone; simpa using hone) ?_ ?_ ?_ ?_
 ·
  intro j y hj
  have hlt := (List.getElem?_eq_some_iff.1 hj).1
  have : (⟨w.heap.size, 0, none⟩ : Addr).add j = ⟨w.heap.size, j, none⟩ := by
   simp [Addr.add]
   try exact fun h => h.symm
  have hr : row (w.alloc (.cells u.toArray e)) w.heap.size = u.toArray := row_alloc_at _ _ _ rfl
  rw [this, cell_of_row' (by rw [hr]; simpa using hlt), hr, List.getElem?_toArray]
  exact hj
 ·
  unfold maxLen; omega
 ·
  have := Nat.mul_le_mul (show l.length + 1 ≤ 10001 by omega) hby; omega
 ·
  simp; omega
 ·
  intro v' w' h1 h2 _
  refine h v' w' ⟨?_, ?_⟩ (((Below.refl base w).alloc hbase _).grown h2 (by simp; omega) fun k hk => (World.ownsRow.lt hown k hk).1) (fun X hX hne => by rw [row_of_block (h2.block X (by simp; omega) (fun e => hne e.symm)), row_alloc_past _ _ (by omega)])
  ·
   intro y hy
   rcases List.mem_append.1 hy with hy | hy
   ·
    exact hl y hy
   ·
    rw [List.mem_singleton.1 hy]; exact hu
  ·
   simp only [List.length_append, List.length_singleton, List.flatten_append, List.flatten_cons, List.flatten_nil, List.append_nil]
   exact h1
end
end
section
open Go.RowKit
structure BelowS (B : Nat) (S : List Nat) (w w' : World) : Prop where
 os : w'.os = w.os
 tape : w'.tape = w.tape
 output : w'.output = w.output
 size : w.heap.size ≤ w'.heap.size
 block : ∀ k, k < B → k ∉ S → w'.heap[k]? = w.heap[k]?
theorem BelowS.of {B : Nat} {S : List Nat} {w w' : World} (h : Below B w w') : BelowS B S w w' := ⟨h.os, h.tape, h.output, h.size, fun k hk _ => h.block k hk⟩
theorem BelowS.one {B M : Nat} {S : List Nat} {w w' : World} (h : BelowBut B M w w') (hM : M ∈ S) : BelowS B S w w' := ⟨h.os, h.tape, h.output, h.size, fun k hk hn => h.block k hk fun e => hn (e ▸ hM)⟩
theorem BelowS.trans {B : Nat} {S : List Nat} {a b c : World} (h : BelowS B S a b) (k : BelowS B S b c) : BelowS B S a c :=
 ⟨k.os.trans h.os, k.tape.trans h.tape, k.output.trans h.output, Nat.le_trans h.size k.size, fun i hi hn => (k.block i hi hn).trans (h.block i hi hn)⟩
theorem BelowS.mono {B B' : Nat} {S : List Nat} {w w' : World} (h : BelowS B S w w') (hB : B' ≤ B) : BelowS B' S w w' := ⟨h.os, h.tape, h.output, h.size, fun k hk hn => h.block k (Nat.lt_of_lt_of_le hk hB) hn⟩
theorem BelowS.below {B B' : Nat} {S : List Nat} {w w' : World} (h : BelowS B S w w') (hB : B' ≤ B) (hS : ∀ s ∈ S, B' ≤ s) : Below B' w w' :=
 ⟨h.os, h.tape, h.output, h.size, fun k hk => h.block k (by omega) fun hm => by have := hS k hm; omega⟩
theorem BelowS.row {B b : Nat} {S : List Nat} {w w' : World} (h : BelowS B S w w') (hb : b < B) (hn : b ∉ S) : Go.Proofs.YtfopoijikdmiaaaGreatDoor.row w' b = Go.Proofs.YtfopoijikdmiaaaGreatDoor.row w b := row_of_block (h.block b hb hn)
theorem BelowS.set {B b : Nat} {S : List Nat} (w : World) (c : Array Value) (hb : b ∈ S) : BelowS B S w (w.setRow b c) := ⟨rfl, rfl, rfl, by simp, fun k _ hn => setRow_block_other b k c fun e => hn (e ▸ hb)⟩
def ElemsOff (S : List Nat) (w : World) (a : Option Addr) (sz : Nat) (l : List (List Value)) : Prop :=
 l.length ≤ maxLen ∧ ∀ (i : Nat) (x : List Value), l[i]? = some x → ∃ b off, a = some ⟨b, off, none⟩ ∧ b < w.heap.size ∧ b ∉ S ∧ ∀ W, blk W b = blk w b → W.rangeAt b (off + i * sz) x
theorem ElemsOff.elems {S : List Nat} {w : World} {a : Option Addr} {sz : Nat} {l : List (List Value)} (h : ElemsOff S w a sz l) : ElemsAt w a sz l :=
 ⟨h.1, fun i x hx => by obtain ⟨b, off, e, hb, _, hr⟩ := h.2 i x hx; exact ⟨b, off, e, hb, hr⟩⟩
theorem ElemsOff.nil (S : List Nat) (w : World) (a : Option Addr) (sz : Nat) : ElemsOff S w a sz [] := ⟨Nat.zero_le _, fun i x h => by simp at h⟩
theorem ElemsOff.kept {S : List Nat} {w w' : World} {a : Option Addr} {sz : Nat} {l : List (List Value)} (h : ElemsOff S w a sz l) (hb : BelowS w.heap.size S w w') : ElemsOff S w' a sz l := by
 refine ⟨h.1, fun i x hx => ?_⟩
 obtain ⟨b, off, e, hl, hn, hr⟩ := h.2 i x hx
 exact ⟨b, off, e, Nat.lt_of_lt_of_le hl hb.size, hn, fun W hW => hr W (hW.trans (hb.block b hl hn))⟩
theorem ElemsOff.below {S : List Nat} {w w' : World} {a : Option Addr} {sz : Nat} {l : List (List Value)} (h : ElemsOff S w a sz l) (hb : Below w.heap.size w w') : ElemsOff S w' a sz l := h.kept (BelowS.of hb)
theorem OwnL.off {w : World} {B : Nat} {e : TypeId} {sz : Nat} {v : Value} {l : List (List Value)} (h : OwnL w B e sz v l) (S : List Nat) (hS : ∀ s ∈ S, s < B ∨ w.heap.size ≤ s) : ∃ a cap, v = .slice a l.length cap ∧ ElemsOff S w a sz l := by
 obtain ⟨a, cap, e1, he⟩ := h.elems
 refine ⟨a, cap, e1, he.1, fun i x hx => ?_⟩
 obtain ⟨b, off, e2, hl, hr⟩ := he.2 i x hx
 refine ⟨b, off, e2, hl, fun hm => ?_, hr⟩
 obtain ⟨_, _, h3⟩ := h
 have hbB : B ≤ b := by
  rcases h3 with ⟨h4, h5⟩ | ⟨g, cap', cur, h4, h5, _⟩
  ·
   rw [e1, e2] at h4
   cases h4
  ·
   rw [e1, e2] at h4
   simp only [Value.slice.injEq, Option.some.injEq, Addr.mk.injEq] at h4
   omega
 rcases hS b hm with h | h <;> omega
theorem mapL_but {B M k : Nat} {w w' : World} (h : BelowBut B M w w') (hk : k < B) (hn : k ≠ M) : mapL w' k = mapL w k := mapL_of_block (h.block k hk hn)
theorem mapOk_but {B M k : Nat} {w w' : World} (h : BelowBut B M w w') (hk : k < B) (hn : k ≠ M) (hm : mapOk w k) : mapOk w' k := (mapOk_of_block (h.block k hk hn)).2 hm
end
end Go.Proofs.YtfopoijikdmiaaaGreatDoor
