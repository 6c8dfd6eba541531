/- Texts of this proof, merged: Slc, Slx, Gen. -/
import Derived.Deep.Slices
import Derived.OpenShut
import Derived.Test.YtfopoijikdmiaaaGreatDoorJ3
import Derived.Test.YtfopoijikdmiaaaGreatDoorRegJ
set_option linter.unusedSimpArgs false
set_option linter.unusedVariables false
set_option maxHeartbeats 8000000
set_option maxRecDepth 20000
namespace Go.Proofs.YtfopoijikdmiaaaGreatDoor
section
open Go.RowKit
theorem goods_append : ∀ {l1 l2 : List Leaf} {a b : List Value}, goods l1 a → goods l2 b → goods (l1 ++ l2) (a ++ b)
 | [], _, [], _, _, h => h
 | _ :: _, _, _ :: _, _, h1, h2 => ⟨h1.1, goods_append h1.2 h2⟩
 | [], _, _ :: _, _, h, _ => by cases h
 | _ :: _, _, [], _, h, _ => by cases h
def GoodT (P : Program) (t : TypeId) (ls : List Leaf) : Prop :=
 P.cellsOf t = ls.length ∧ ∀ (H : Type) (enc : TypeId × Value → H) (w : World) (base : Nat) (spare : Nat → Bool) (held : Bool) (fuel : Nat) (cs : List Value) (x : DataW H × List MemPlace), DataW.trod enc P w base spare held fuel t cs = some x → goods ls cs
section
variable {P : Program} {t : TypeId}
theorem good_int {k : IntKind} (hu : P.underlying t = some (.int k)) (hc : P.cellsOf t = 1) : GoodT P t [.int k] := by
 refine ⟨hc, fun H enc w base spare held fuel cs x h => ?_⟩
 obtain ⟨n, rfl, _, hw⟩ := DataW.trod_int hu h
 refine ⟨⟨rfl, ?_⟩, trivial⟩
 have := hw
 simp [Lit.wf] at this
 exact this
theorem goods_chunks {ls : List Leaf} : ∀ (n : Nat) (cs : List Value), cs.length = n * ls.length → (∀ i, i < n → goods ls ((cs.drop (i * ls.length)).take ls.length)) → goods (List.replicate n ls).flatten cs
 | 0, cs, hl, _ => by
  have : cs = [] := List.eq_nil_of_length_eq_zero (by simpa using hl)
  subst this
  trivial
 | n + 1, cs, hl, h => by
  have h0 := h 0 (by omega)
  simp only [Nat.zero_mul, List.drop_zero] at h0
  have hr := goods_chunks n (cs.drop ls.length) (by rw [List.length_drop, hl, Nat.succ_mul, Nat.add_sub_cancel]) fun i hi => by
   have := h (i + 1) (by omega)
   rw [List.drop_drop, show ls.length + i * ls.length = (i + 1) * ls.length by rw [Nat.succ_mul]; omega]
   exact this
  have := goods_append h0 hr
  rw [List.take_append_drop] at this
  simpa [List.replicate_succ] using this
theorem good_array {n : Nat} {e : TypeId} {ls : List Leaf} (he : GoodT P e ls) (hu : P.underlying t = some (.array n e)) (hc : P.cellsOf t = n * ls.length) : GoodT P t (List.replicate n ls).flatten := by
 refine ⟨by rw [hc]; simp, fun H enc w base spare held fuel cs x h => ?_⟩
 obtain ⟨xs, m, _, _, hl, hxl, hx⟩ := DataW.trod_array hu h
 refine goods_chunks n cs (by rw [hl, hc]) fun i hi => ?_
 have := hx i hi
 rw [he.1] at this
 rw [List.getElem?_eq_getElem (by omega)] at this
 exact he.2 _ _ _ _ _ _ _ _ _ this
end
theorem addr_add (b o k : Nat) : Addr.add ⟨b, o, none⟩ k = ⟨b, o + k, none⟩ := by
 unfold Addr.add
 split
 ·
  rename_i h
  rw [h]
  rfl
 ·
  rfl
def blk (w : World) (b : Nat) : Option Obj := w.heap[b]?
section
variable {w : World}
@[go_sem] theorem blk_alloc (o : Obj) (n : Nat) (hn : n < w.heap.size) : blk (w.alloc o) n = blk w n := Below.heap_alloc w o n hn
@[go_sem] theorem blk_drew (n : Nat) : blk w.drew n = blk w n := rfl
@[go_sem] theorem blk_setRow (g k : Nat) (c : Array Value) (h : k ≠ g) : blk (w.setRow g c) k = blk w k := setRow_block_other g k c h
theorem blk_below {B b : Nat} {w w' : World} (h : Below B w w') (hb : b < B) : blk w' b = blk w b := h.block b hb
end
end
section
open Go.RowKit
section
variable {P : Program} {w : World}
theorem run_loadS_at {t n b off : Nat} [hA : AggOf P t n] {l : List Value} (h : w.rangeAt b off l) (hl : l.length = n) : (loadS t (.pointer (some ⟨b, off, none⟩))).run P w = .ok (.agg l.toArray) w := by
 obtain ⟨d, hu, hd⟩ := hA.agg
 have := run_loadVar_mid (P := P) w b off t l d h hu hd (by rw [hA.size, hl])
 simp only [loadS, Instr.loadAt, Instr.sureAddr, Sem.run_bind, Sem.run_pure, Result.andThen_ok, this]
def Reads (P : Program) (w : World) (t : TypeId) (v : Value) : Prop :=
 ∃ (H : Type) (enc : TypeId × Value → H) (base : Nat) (spare : Nat → Bool) (held : Bool) (fuel : Nat) (x : DataW H × List MemPlace), DataW.trod enc P w base spare held fuel t v.cells.toList = some x
theorem reads_all {H : Type} {enc : TypeId × Value → H} {base : Nat} {spare : Nat → Bool} {held : Bool} : ∀ {ts : List TypeId} {vs : List Value} {ds : List (DataW H)} {ps : List MemPlace}, DataW.TrodAll enc P w base spare held ts vs ds ps →
  ∀ (j : Nat) t v, ts[j]? = some t → vs[j]? = some v → Reads P w t v
 | [], [], _, _, _, j, t, v, h, _ => by simp at h
 | t0 :: ts, v0 :: vs, d :: ds, ps, h, j, t, v, h1, h2 => by
  obtain ⟨p, q, ⟨f, hf⟩, hr, _⟩ := h
  cases j with
  | zero =>
   simp only [List.getElem?_cons_zero, Option.some.injEq] at h1 h2
   subst h1 h2
   exact ⟨H, enc, base, spare, held, f, _, hf⟩
  | succ j => exact reads_all hr j t v (by simpa using h1) (by simpa using h2)
 | [], _ :: _, [], _, h, _, _, _, _, _ => by cases h
 | [], _ :: _, _ :: _, _, h, _, _, _, _, _ => by cases h
 | _ :: _, [], [], _, h, _, _, _, _, _ => by cases h
 | _ :: _, [], _ :: _, _, h, _, _, _, _, _ => by cases h
 | _ :: _, _ :: _, [], _, h, _, _, _, _, _ => by cases h
end
def XS (l : List (Nat × Array Value)) (X : World → Prop) (w : World) : Prop := Rws l w ∧ X w
def GrowP (X : World → Prop) : Prop := ∀ w w1, X w → Below w.heap.size w w1 → X w1
theorem XS.grow {l : List (Nat × Array Value)} {X : World → Prop} (hX : GrowP X) (w w1 : World) (h : XS l X w) (hb : Below w.heap.size w w1) : XS l X w1 := ⟨Rws.grow l w w1 h.1 hb, hX _ _ h.2 hb⟩
section
variable {P : Program} {ops : Array Oper} {Q : Exit → Act → World → Prop} {md : Region.Mode}
theorem wp_region_beginX {id : Nat} {a : Act} {w : World} (l : List (Nat × Array Value)) (X : World → Prop) (hG : GrowP X) (hm : P.follows .mixedOrders = true) (hS : Rws l w) (hX : X w)
  (h : XS l X w.drew → wpAnyR P .any ops Q (XS l X) ops.size (Array.replicate ops.size false) a w.drew) : (Code.region id ops true).wp P Q a w :=
 wp_region_held hm (wpAnyH_of_R _ _ _ _ (h (XS.grow hG w _ ⟨hS, hX⟩ (Below.drew (Below.refl _ _)))))
end
section
variable {P : Program} {ops : Array Oper} {Q : Exit → Act → World → Prop} {id : Nat} {a : Act} {w : World}
theorem rgX_ (l : List (Nat × Array Value)) (X : World → Prop) (hG : GrowP X) (hX : X w) (h : XS l X w.drew → wpAnyR P .any ops Q (XS l X) ops.size (Array.replicate ops.size false) a w.drew) (hm : P.follows .mixedOrders = true := by rfl) (hS : Rws l w := by simp only [Rws]; (repeat (first | exact trivial | refine ⟨(by first | assumption | (simp [go_sem, *]; done)), (by first | omega | (simp; done) | (simp; omega)), ?_⟩))) : (Code.region id ops true).wp P Q a w := wp_region_beginX l X hG hm hS hX h
end
end
section
open Go.RowKit
theorem GrowP.and {X Y : World → Prop} (h : GrowP X) (k : GrowP Y) : GrowP fun w => X w ∧ Y w := fun w w1 hx hb => ⟨h w w1 hx.1 hb, k w w1 hx.2 hb⟩
theorem grow_true : GrowP fun _ => True := fun _ _ _ _ => trivial
theorem grow_base (W : World) : GrowP fun w => Below W.heap.size W w := fun w w1 h hb => h.trans (hb.mono h.size)
section
variable {P : Program} {ops : Array Oper} {Q : Exit → Act → World → Prop} {md : Region.Mode}
theorem sp (i : Nat) {oi : Oper} {v : Value} {fuel : Nat} {listed : Array Bool} {a a' : Act} {w : World} {l : List (Nat × Array Value)} {X : World → Prop} (hG : GrowP X) (hS : XS l X w)
  (h : wpAnyR P md ops Q (XS l X) fuel (listed.setIfInBounds i true) a' w)
  (hi : ops[i]? = some oi := by simp only [List.getElem?_toArray, List.getElem?_cons_succ, List.getElem?_cons_zero]; rfl)
  (hs : Region.noSelect ops = true := by kernel_rfl) (hf : Region.free md ops listed i = true := by kernel_rfl) (hr : (Region.ready md ops listed).contains i = true := by kernel_rfl)
  (hQ : ∀ c a w, Q (.panic c) (a.put oi.dst v) w → Q (.panic c) a w := by first | exact fun _ _ _ h => h | exact fun _ _ _ h => by cases h.1)
  (hw : Region.wanted oi (yielded ops a.tmps) = true := by rfl)
  (hy : ∀ w', XS l X w' → uponV P (fun u w'' => u = v ∧ Below w'.heap.size w' w'') ((execOp a.eval oi).run P w') := by
   intro w' hS'
   obtain ⟨hS', hX'⟩ := hS'
   simp only [Rws] at hS'
   go_simp
   refine ⟨?_, Below.refl _ _⟩
   rfl)
  (hp : a.put oi.dst v = a' := by first | (simp only [Act.put, List.setIfInBounds_toArray, List.set_cons_zero, List.set_cons_succ]; rfl) | rfl) :
  wpAnyR P md ops Q (XS l X) (fuel + 1) listed a w :=
 wpAnyR_take hi hs hf hr hQ (XS.grow hG) (Or.inl ⟨hw, hy⟩) hS (hp ▸ h)
theorem sn (i : Nat) {oi : Oper} {fuel : Nat} {listed : Array Bool} {a a' : Act} {w : World} {l : List (Nat × Array Value)} {X : World → Prop} (hG : GrowP X) (hS : XS l X w)
  (h : wpAnyR P md ops Q (XS l X) fuel (listed.setIfInBounds i true) a' w)
  (hi : ops[i]? = some oi := by simp only [List.getElem?_toArray, List.getElem?_cons_succ, List.getElem?_cons_zero]; rfl)
  (hs : Region.noSelect ops = true := by kernel_rfl) (hf : Region.free md ops listed i = true := by kernel_rfl) (hr : (Region.ready md ops listed).contains i = true := by kernel_rfl)
  (hQ : ∀ c a w, Q (.panic c) (a.put oi.dst undef) w → Q (.panic c) a w := by first | exact fun _ _ _ h => h | exact fun _ _ _ h => by cases h.1)
  (hw : Region.wanted oi (yielded ops a.tmps) = false := by rfl)
  (hp : a.put oi.dst undef = a' := by first | (simp only [Act.put, List.setIfInBounds_toArray, List.set_cons_zero, List.set_cons_succ]; rfl) | rfl) :
  wpAnyR P md ops Q (XS l X) (fuel + 1) listed a w :=
 wpAnyR_take hi hs hf hr hQ (XS.grow hG) (Or.inr ⟨hw, rfl⟩) hS (hp ▸ h)
theorem sc (i : Nat) {oi : Oper} {v : Value} {fuel : Nat} {listed : Array Bool} {a a' : Act} {w : World} {l : List (Nat × Array Value)} {X : World → Prop} (hG : GrowP X) (hS : XS l X w)
  (hy : ∀ w', XS l X w' → uponV P (fun u w'' => u = v ∧ Below w'.heap.size w' w'') ((execOp a.eval oi).run P w'))
  (h : wpAnyR P md ops Q (XS l X) fuel (listed.setIfInBounds i true) a' w)
  (hi : ops[i]? = some oi := by simp only [List.getElem?_toArray, List.getElem?_cons_succ, List.getElem?_cons_zero]; rfl)
  (hs : Region.noSelect ops = true := by kernel_rfl) (hf : Region.free md ops listed i = true := by kernel_rfl) (hr : (Region.ready md ops listed).contains i = true := by kernel_rfl)
  (hQ : ∀ c a w, Q (.panic c) (a.put oi.dst v) w → Q (.panic c) a w := by first | exact fun _ _ _ h => h | exact fun _ _ _ h => by cases h.1)
  (hw : Region.wanted oi (yielded ops a.tmps) = true := by rfl)
  (hp : a.put oi.dst v = a' := by first | (simp only [Act.put, List.setIfInBounds_toArray, List.set_cons_zero, List.set_cons_succ]; rfl) | rfl) :
  wpAnyR P md ops Q (XS l X) (fuel + 1) listed a w :=
 wpAnyR_take hi hs hf hr hQ (XS.grow hG) (Or.inl ⟨hw, hy⟩) hS (hp ▸ h)
theorem wpAnyS_var {i k : Nat} {oi ok : Oper} {dA : Tmp} {zi cA : Array Value} {ti : TypeId} {fuel : Nat} {listed : Array Bool} {a : Act} {w : World} {S : World → Prop} (hG : ∀ w w1, S w → Below w.heap.size w w1 → S w1)
  (hoi : ops[i]? = some oi) (hok : ops[k]? = some ok) (ni : News P oi dA zi ti)
  (r0 : Region.ready md ops listed = [i]) (r1 : Region.ready md ops (listed.setIfInBounds i true) = [k])
  (gk : ok.guard = none) (dk : ok.dst = none) (sA : cA.size = zi.size) (pA : 0 < zi.size)
  (vk : ∀ A w1, row w1 A = zi → Stores ((execOp ((a.put (some dA) (ptr A)).eval) ok).run P w1) (w1.setRow A cA)) (hS : S w)
  (h : ∀ A w2, w.heap.size ≤ A → A < w2.heap.size → Below w.heap.size w w2 → row w2 A = cA → S w2 → wpAnyR P md ops Q S fuel ((listed.setIfInBounds i true).setIfInBounds k true) (a.put (some dA) (ptr A)) w2) :
  wpAnyR P md ops Q S (fuel + 1 + 1) listed a w := by
 refine wpAnyR_one hoi ni.guard r0 fun w1 b1 => ?_
 have e1 := b1.size
 have bA : Below w.heap.size w (w1.alloc (.cells zi ti)) := Below.alloc b1 e1 _
 refine ⟨_, _, _, ni.run a w1, rfl, hG _ _ hS bA, ?_⟩
 rw [ni.dst]
 refine wpAnyR_one hok gk r1 fun w3 b3 => ?_
 have e3 := b3.size
 rw [alloc_sizeW] at e3
 have rA : row w3 w1.heap.size = zi := by rw [row_below b3 (by rw [alloc_sizeW]; omega), row_alloc_at _ _ _ rfl]
 obtain ⟨n, v, hv, hn⟩ := vk w1.heap.size w3 rA
 have bB : Below w.heap.size w (w3.setRow w1.heap.size cA) := Below.setRow (Below.trans bA (b3.mono (by rw [alloc_sizeW]; omega))) e1 _
 have hS2 := hG _ _ hS bB
 refine ⟨n, v, _, hv, hn, hS2, ?_⟩
 rw [dk]
 refine h w1.heap.size _ e1 (by rw [setRow_size]; omega) bB ?_ hS2
 exact row_setRow_same (by rw [rA]; exact pA) (by rw [rA]; exact sA)
end
end
end Go.Proofs.YtfopoijikdmiaaaGreatDoor
