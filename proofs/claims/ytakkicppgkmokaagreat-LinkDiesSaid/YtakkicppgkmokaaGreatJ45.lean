/- Texts of this proof, merged: Slc, Slx, Gen. -/
import Derived.Deep.Slices
import Derived.OpenShut
import Derived.Test.YtakkicppgkmokaaGreatJ31
import Derived.Test.YtakkicppgkmokaaGreatRegJ
set_option linter.unusedSimpArgs false
set_option linter.unusedVariables false
namespace Go.Proofs.YtakkicppgkmokaaGreat
section
open Go.RowKit
section
variable {P : Program} {t : TypeId}
end
def blk (w : World) (b : Nat) : Option Obj := w.heap[b]?
section
variable {w : World}
@[go_sem] theorem blk_alloc (o : Obj) (n : Nat) (hn : n < w.heap.size) : blk (w.alloc o) n = blk w n := Below.heap_alloc w o n hn
@[go_sem] theorem blk_drew (n : Nat) : blk w.drew n = blk w n := rfl
@[go_sem] theorem blk_setRow (g k : Nat) (c : Array Value) (h : k ≠ g) : blk (w.setRow g c) k = blk w k := setRow_block_other g k c h
theorem blk_below {B b : Nat} {w w' : World} (h : Below B w w') (hb : b < B) : blk w' b = blk w b := h.block b hb
end
end
section
open Go.RowKit
section
variable {P : Program} {w : World}
end
def XS (l : List (Nat × Array Value)) (X : World → Prop) (w : World) : Prop := Rws l w ∧ X w
def GrowP (X : World → Prop) : Prop := ∀ w w1, X w → Below w.heap.size w w1 → X w1
theorem XS.grow {l : List (Nat × Array Value)} {X : World → Prop} (hX : GrowP X) (w w1 : World) (h : XS l X w) (hb : Below w.heap.size w w1) : XS l X w1 := ⟨Rws.grow l w w1 h.1 hb, hX _ _ h.2 hb⟩
section
variable {P : Program} {ops : Array Oper} {Q : Exit → Act → World → Prop} {md : Region.Mode}
theorem wp_region_beginX {id : Nat} {a : Act} {w : World} (l : List (Nat × Array Value)) (X : World → Prop) (hG : GrowP X) (hm : P.follows .mixedOrders = true) (hS : Rws l w) (hX : X w)
  (h : XS l X w.drew → wpAnyR P .any ops Q (XS l X) ops.size (Array.replicate ops.size false) a w.drew) : (Code.region id ops true).wp P Q a w :=
 wp_region_held hm (wpAnyH_of_R _ _ _ _ (h (XS.grow hG w _ ⟨hS, hX⟩ (Below.drew (Below.refl _ _)))))
end
end
section
open Go.RowKit
theorem GrowP.and {X Y : World → Prop} (h : GrowP X) (k : GrowP Y) : GrowP fun w => X w ∧ Y w := fun w w1 hx hb => ⟨h w w1 hx.1 hb, k w w1 hx.2 hb⟩
theorem grow_true : GrowP fun _ => True := fun _ _ _ _ => trivial
section
variable {P : Program} {ops : Array Oper} {Q : Exit → Act → World → Prop} {md : Region.Mode}
theorem sp (i : Nat) {oi : Oper} {v : Value} {fuel : Nat} {listed : Array Bool} {a a' : Act} {w : World} {l : List (Nat × Array Value)} {X : World → Prop} (hG : GrowP X) (hS : XS l X w)
  (h : wpAnyR P md ops Q (XS l X) fuel (listed.setIfInBounds i true) a' w)
  (hi : ops[i]? = some oi := by simp only [List.getElem?_toArray, List.getElem?_cons_succ, List.getElem?_cons_zero]; rfl)
  (hs : Region.noSelect ops = true := by kernel_rfl) (hf : Region.free md ops listed i = true := by kernel_rfl) (hr : (Region.ready md ops listed).contains i = true := by kernel_rfl)
  (hQ : ∀ c a w, Q (.panic c) (a.put oi.dst v) w → Q (.panic c) a w := by first | exact fun _ _ _ h => h | exact fun _ _ _ h => by cases h.1)
  (hw : Region.wanted oi (yielded ops a.tmps) = true := by rfl)
  (hy : ∀ w', XS l X w' → uponV P (fun u w'' => u = v ∧ Below w'.heap.size w' w'') ((execOp a.eval oi).run P w') := by
   intro w' hS'
   obtain ⟨hS', hX'⟩ := hS'
   simp only [Rws] at hS'
   go_simp
   refine ⟨?_, Below.refl _ _⟩
   rfl)
  (hp : a.put oi.dst v = a' := by first | (simp only [Act.put, List.setIfInBounds_toArray, List.set_cons_zero, List.set_cons_succ]; rfl) | rfl) :
  wpAnyR P md ops Q (XS l X) (fuel + 1) listed a w :=
 wpAnyR_take hi hs hf hr hQ (XS.grow hG) (Or.inl ⟨hw, hy⟩) hS (hp ▸ h)
theorem sn (i : Nat) {oi : Oper} {fuel : Nat} {listed : Array Bool} {a a' : Act} {w : World} {l : List (Nat × Array Value)} {X : World → Prop} (hG : GrowP X) (hS : XS l X w)
  (h : wpAnyR P md ops Q (XS l X) fuel (listed.setIfInBounds i true) a' w)
  (hi : ops[i]? = some oi := by simp only [List.getElem?_toArray, List.getElem?_cons_succ, List.getElem?_cons_zero]; rfl)
  (hs : Region.noSelect ops = true := by kernel_rfl) (hf : Region.free md ops listed i = true := by kernel_rfl) (hr : (Region.ready md ops listed).contains i = true := by kernel_rfl)
  (hQ : ∀ c a w, Q (.panic c) (a.put oi.dst undef) w → Q (.panic c) a w := by first | exact fun _ _ _ h => h | exact fun _ _ _ h => by cases h.1)
  (hw : Region.wanted oi (yielded ops a.tmps) = false := by rfl)
  (hp : a.put oi.dst undef = a' := by first | (simp only [Act.put, List.setIfInBounds_toArray, List.set_cons_zero, List.set_cons_succ]; rfl) | rfl) :
  wpAnyR P md ops Q (XS l X) (fuel + 1) listed a w :=
 wpAnyR_take hi hs hf hr hQ (XS.grow hG) (Or.inr ⟨hw, rfl⟩) hS (hp ▸ h)
theorem sc (i : Nat) {oi : Oper} {v : Value} {fuel : Nat} {listed : Array Bool} {a a' : Act} {w : World} {l : List (Nat × Array Value)} {X : World → Prop} (hG : GrowP X) (hS : XS l X w)
  (hy : ∀ w', XS l X w' → uponV P (fun u w'' => u = v ∧ Below w'.heap.size w' w'') ((execOp a.eval oi).run P w'))
  (h : wpAnyR P md ops Q (XS l X) fuel (listed.setIfInBounds i true) a' w)
  (hi : ops[i]? = some oi := by simp only [List.getElem?_toArray, List.getElem?_cons_succ, List.getElem?_cons_zero]; rfl)
  (hs : Region.noSelect ops = true := by kernel_rfl) (hf : Region.free md ops listed i = true := by kernel_rfl) (hr : (Region.ready md ops listed).contains i = true := by kernel_rfl)
  (hQ : ∀ c a w, Q (.panic c) (a.put oi.dst v) w → Q (.panic c) a w := by first | exact fun _ _ _ h => h | exact fun _ _ _ h => by cases h.1)
  (hw : Region.wanted oi (yielded ops a.tmps) = true := by rfl)
  (hp : a.put oi.dst v = a' := by first | (simp only [Act.put, List.setIfInBounds_toArray, List.set_cons_zero, List.set_cons_succ]; rfl) | rfl) :
  wpAnyR P md ops Q (XS l X) (fuel + 1) listed a w :=
 wpAnyR_take hi hs hf hr hQ (XS.grow hG) (Or.inl ⟨hw, hy⟩) hS (hp ▸ h)
end
end
end Go.Proofs.YtakkicppgkmokaaGreat
