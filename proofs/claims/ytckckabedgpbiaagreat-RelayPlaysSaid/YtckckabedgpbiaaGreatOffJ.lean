/- What is kept while some blocks turn. No program in sight. -/
import Derived.Test.YtckckabedgpbiaaGreatLstJ
set_option linter.unusedSimpArgs false
set_option linter.unusedVariables false
namespace Go.Proofs.YtckckabedgpbiaaGreat
open Go.RowKit
structure BelowS (B : Nat) (S : List Nat) (w w' : World) : Prop where
 os : w'.os = w.os
 tape : w'.tape = w.tape
 output : w'.output = w.output
 size : w.heap.size ≤ w'.heap.size
 block : ∀ k, k < B → k ∉ S → w'.heap[k]? = w.heap[k]?
theorem BelowS.of {B : Nat} {S : List Nat} {w w' : World} (h : Below B w w') : BelowS B S w w' := ⟨h.os, h.tape, h.output, h.size, fun k hk _ => h.block k hk⟩
theorem BelowS.one {B M : Nat} {S : List Nat} {w w' : World} (h : BelowBut B M w w') (hM : M ∈ S) : BelowS B S w w' := ⟨h.os, h.tape, h.output, h.size, fun k hk hn => h.block k hk fun e => hn (e ▸ hM)⟩
theorem BelowS.trans {B : Nat} {S : List Nat} {a b c : World} (h : BelowS B S a b) (k : BelowS B S b c) : BelowS B S a c :=
 ⟨k.os.trans h.os, k.tape.trans h.tape, k.output.trans h.output, Nat.le_trans h.size k.size, fun i hi hn => (k.block i hi hn).trans (h.block i hi hn)⟩
theorem BelowS.mono {B B' : Nat} {S : List Nat} {w w' : World} (h : BelowS B S w w') (hB : B' ≤ B) : BelowS B' S w w' := ⟨h.os, h.tape, h.output, h.size, fun k hk hn => h.block k (Nat.lt_of_lt_of_le hk hB) hn⟩
theorem BelowS.next {S : List Nat} {a b c : World} (h : BelowS a.heap.size S a b) (k : BelowS b.heap.size S b c) : BelowS a.heap.size S a c := h.trans (k.mono h.size)
theorem BelowS.below {B B' : Nat} {S : List Nat} {w w' : World} (h : BelowS B S w w') (hB : B' ≤ B) (hS : ∀ s ∈ S, B' ≤ s) : Below B' w w' :=
 ⟨h.os, h.tape, h.output, h.size, fun k hk => h.block k (by omega) fun hm => by have := hS k hm; omega⟩
theorem BelowS.row {B b : Nat} {S : List Nat} {w w' : World} (h : BelowS B S w w') (hb : b < B) (hn : b ∉ S) : Go.Proofs.YtckckabedgpbiaaGreat.row w' b = Go.Proofs.YtckckabedgpbiaaGreat.row w b := row_of_block (h.block b hb hn)
theorem BelowS.set {B b : Nat} {S : List Nat} (w : World) (c : Array Value) (hb : b ∈ S) : BelowS B S w (w.setRow b c) := ⟨rfl, rfl, rfl, by simp, fun k _ hn => setRow_block_other b k c fun e => hn (e ▸ hb)⟩
theorem BelowS.turn {B b : Nat} {S : List Nat} {w w' : World} (h : Turn b w w') (hb : b ∈ S) : BelowS B S w w' := ⟨h.os, h.tape, h.output, Nat.le_of_eq h.size.symm, fun k _ hn => h.block k fun e => hn (e ▸ hb)⟩
def ElemsOff (S : List Nat) (w : World) (a : Option Addr) (sz : Nat) (l : List (List Value)) : Prop :=
 l.length ≤ maxLen ∧ ∀ (i : Nat) (x : List Value), l[i]? = some x → ∃ b off, a = some ⟨b, off, none⟩ ∧ b < w.heap.size ∧ b ∉ S ∧ ∀ W, blk W b = blk w b → W.rangeAt b (off + i * sz) x
theorem ElemsOff.elems {S : List Nat} {w : World} {a : Option Addr} {sz : Nat} {l : List (List Value)} (h : ElemsOff S w a sz l) : ElemsAt w a sz l :=
 ⟨h.1, fun i x hx => by obtain ⟨b, off, e, hb, _, hr⟩ := h.2 i x hx; exact ⟨b, off, e, hb, hr⟩⟩
theorem ElemsOff.nil (S : List Nat) (w : World) (a : Option Addr) (sz : Nat) : ElemsOff S w a sz [] := ⟨Nat.zero_le _, fun i x h => by simp at h⟩
theorem ElemsOff.kept {S : List Nat} {w w' : World} {a : Option Addr} {sz : Nat} {l : List (List Value)} (h : ElemsOff S w a sz l) (hb : BelowS w.heap.size S w w') : ElemsOff S w' a sz l := by
 refine ⟨h.1, fun i x hx => ?_⟩
 obtain ⟨b, off, e, hl, hn, hr⟩ := h.2 i x hx
 exact ⟨b, off, e, Nat.lt_of_lt_of_le hl hb.size, hn, fun W hW => hr W (hW.trans (hb.block b hl hn))⟩
theorem ElemsOff.below {S : List Nat} {w w' : World} {a : Option Addr} {sz : Nat} {l : List (List Value)} (h : ElemsOff S w a sz l) (hb : Below w.heap.size w w') : ElemsOff S w' a sz l := h.kept (BelowS.of hb)
theorem OwnL.off {w : World} {B : Nat} {e : TypeId} {sz : Nat} {v : Value} {l : List (List Value)} (h : OwnL w B e sz v l) (S : List Nat) (hS : ∀ s ∈ S, s < B ∨ w.heap.size ≤ s) : ∃ a cap, v = .slice a l.length cap ∧ ElemsOff S w a sz l := by
 obtain ⟨a, cap, e1, he⟩ := h.elems
 refine ⟨a, cap, e1, he.1, fun i x hx => ?_⟩
 obtain ⟨b, off, e2, hl, hr⟩ := he.2 i x hx
 refine ⟨b, off, e2, hl, fun hm => ?_, hr⟩
 obtain ⟨_, _, h3⟩ := h
 have hbB : B ≤ b := by
  rcases h3 with ⟨h4, h5⟩ | ⟨g, cap', cur, h4, h5, _⟩
  ·
   rw [e1, e2] at h4
   cases h4
  ·
   rw [e1, e2] at h4
   simp only [Value.slice.injEq, Option.some.injEq, Addr.mk.injEq] at h4
   omega
 rcases hS b hm with h | h <;> omega
theorem mapL_but {B M k : Nat} {w w' : World} (h : BelowBut B M w w') (hk : k < B) (hn : k ≠ M) : mapL w' k = mapL w k := mapL_of_block (h.block k hk hn)
theorem mapOk_but {B M k : Nat} {w w' : World} (h : BelowBut B M w w') (hk : k < B) (hn : k ≠ M) (hm : mapOk w k) : mapOk w' k := (mapOk_of_block (h.block k hk hn)).2 hm
end Go.Proofs.YtckckabedgpbiaaGreat
