/- Regions that draw their order and read arguments' slices. No program in sight. -/
import Derived.Test.YtckckabedgpbiaaSlcJ
set_option linter.unusedSimpArgs false
set_option linter.unusedVariables false
namespace Go.Proofs.Ytckckabedgpbiaa
open Go.RowKit
section
variable {P : Program} {w : World}
theorem run_loadS_at {t n b off : Nat} [hA : AggOf P t n] {l : List Value} (h : w.rangeAt b off l) (hl : l.length = n) : (loadS t (.pointer (some ⟨b, off, none⟩))).run P w = .ok (.agg l.toArray) w := by
 obtain ⟨d, hu, hd⟩ := hA.agg
 have := run_loadVar_mid (P := P) w b off t l d h hu hd (by rw [hA.size, hl])
 simp only [loadS, Instr.loadAt, Instr.sureAddr, Sem.run_bind, Sem.run_pure, Result.andThen_ok, this]
theorem sl_open {n : Nat} {v : Value} {l : List (List Value)} (h : SlAt w n v l) : ∃ a cap, v = .slice a l.length cap ∧ l.length ≤ maxLen ∧
  ∀ (i : Nat) (x : List Value), l[i]? = some x → ∃ b off, a = some ⟨b, off, none⟩ ∧ b < w.heap.size ∧ ∀ W, blk W b = blk w b → W.rangeAt b (off + i * n) x := by
 rcases h with ⟨rfl, rfl⟩ | ⟨b, off, cap, rfl, h1, h2, h3, h4⟩
 ·
  exact ⟨none, 0, rfl, Nat.zero_le _, fun i x h => by simp at h⟩
 ·
  refine ⟨_, cap, rfl, by omega, fun i x hx => ⟨b, off, rfl, h3 (fun e => by rw [e] at hx; simp at hx), fun W hW => h4 W hW i x hx⟩⟩
def Reads (P : Program) (w : World) (t : TypeId) (v : Value) : Prop :=
 ∃ (H : Type) (enc : TypeId × Value → H) (base : Nat) (spare : Nat → Bool) (held : Bool) (fuel : Nat) (x : DataW H × List MemPlace), DataW.trod enc P w base spare held fuel t v.cells.toList = some x
theorem reads_all {H : Type} {enc : TypeId × Value → H} {base : Nat} {spare : Nat → Bool} {held : Bool} : ∀ {ts : List TypeId} {vs : List Value} {ds : List (DataW H)} {ps : List MemPlace}, DataW.TrodAll enc P w base spare held ts vs ds ps →
  ∀ (j : Nat) t v, ts[j]? = some t → vs[j]? = some v → Reads P w t v
 | [], [], _, _, _, j, t, v, h, _ => by simp at h
 | t0 :: ts, v0 :: vs, d :: ds, ps, h, j, t, v, h1, h2 => by
  obtain ⟨p, q, ⟨f, hf⟩, hr, _⟩ := h
  cases j with
  | zero =>
   simp only [List.getElem?_cons_zero, Option.some.injEq] at h1 h2
   subst h1 h2
   exact ⟨H, enc, base, spare, held, f, _, hf⟩
  | succ j => exact reads_all hr j t v (by simpa using h1) (by simpa using h2)
 | [], _ :: _, [], _, h, _, _, _, _, _ => by cases h
 | [], _ :: _, _ :: _, _, h, _, _, _, _, _ => by cases h
 | _ :: _, [], [], _, h, _, _, _, _, _ => by cases h
 | _ :: _, [], _ :: _, _, h, _, _, _, _, _ => by cases h
 | _ :: _, _ :: _, [], _, h, _, _, _, _, _ => by cases h
theorem open_slW {t e : TypeId} {ls : List Leaf} {v : Value} {r : Reach} {base : Nat} (hu : P.underlying t = some (.slice e)) (he : GoodT P e ls) (hpos : 0 < ls.length) (hv : Value.okWide P w r base t v) (hr : Reads P w t v) :
  ∃ l : List (List Value), SlAt w ls.length v l ∧ ∀ y ∈ l, goods ls y := by
 obtain ⟨H, enc, base', spare, held, fuel, x, hx⟩ := hr
 obtain ⟨a, len, cap, rfl⟩ := Go.WideShapes.okWide_slice hu hv
 refine open_sl hu he hpos ⟨a, len, cap, rfl⟩ ?_ hx
 intro a' len' cap' e
 cases e
 unfold Value.okWide at hv
 rw [hu] at hv
 simp only [Cell.okWide, hu, Cell.ok] at hv
 exact hv.2.2.2.1
end
def XS (l : List (Nat × Array Value)) (X : World → Prop) (w : World) : Prop := Rws l w ∧ X w
def GrowP (X : World → Prop) : Prop := ∀ w w1, X w → Below w.heap.size w w1 → X w1
theorem XS.grow {l : List (Nat × Array Value)} {X : World → Prop} (hX : GrowP X) (w w1 : World) (h : XS l X w) (hb : Below w.heap.size w w1) : XS l X w1 := ⟨Rws.grow l w w1 h.1 hb, hX _ _ h.2 hb⟩
theorem grow_blk (b : Nat) (o : Option Obj) : GrowP fun w => blk w b = o ∧ b < w.heap.size := fun w w1 h hb => ⟨(blk_below hb h.2).trans h.1, Nat.lt_of_lt_of_le h.2 hb.size⟩
section
variable {P : Program} {ops : Array Oper} {Q : Exit → Act → World → Prop} {md : Region.Mode}
theorem wp_region_beginX {id : Nat} {a : Act} {w : World} (l : List (Nat × Array Value)) (X : World → Prop) (hG : GrowP X) (hm : P.follows .mixedOrders = true) (hS : Rws l w) (hX : X w)
  (h : XS l X w.drew → wpAnyR P .any ops Q (XS l X) ops.size (Array.replicate ops.size false) a w.drew) : (Code.region id ops true).wp P Q a w :=
 wp_region_held hm (wpAnyH_of_R _ _ _ _ (h (XS.grow hG w _ ⟨hS, hX⟩ (Below.drew (Below.refl _ _)))))
end
end Go.Proofs.Ytckckabedgpbiaa
