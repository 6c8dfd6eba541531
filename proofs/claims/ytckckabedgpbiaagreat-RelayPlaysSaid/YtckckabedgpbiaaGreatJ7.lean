/- Texts of this proof, merged: Slc, Slx, Gen. -/
import Derived.Deep.Slices
import Derived.OpenShut
import Derived.Test.YtckckabedgpbiaaGreatJ3
import Derived.Test.YtckckabedgpbiaaGreatRegJ
set_option linter.unusedSimpArgs false
set_option linter.unusedVariables false
namespace Go.Proofs.YtckckabedgpbiaaGreat
section
open Go.RowKit
theorem goods_append : ∀ {l1 l2 : List Leaf} {a b : List Value}, goods l1 a → goods l2 b → goods (l1 ++ l2) (a ++ b)
 | [], _, [], _, _, h => h
 | _ :: _, _, _ :: _, _, h1, h2 => ⟨h1.1, goods_append h1.2 h2⟩
 | [], _, _ :: _, _, h, _ => by cases h
 | _ :: _, _, [], _, h, _ => by cases h
def GoodT (P : Program) (t : TypeId) (ls : List Leaf) : Prop :=
 P.cellsOf t = ls.length ∧ ∀ (H : Type) (enc : TypeId × Value → H) (w : World) (base : Nat) (spare : Nat → Bool) (held : Bool) (fuel : Nat) (cs : List Value) (x : DataW H × List MemPlace), DataW.trod enc P w base spare held fuel t cs = some x → goods ls cs
section
variable {P : Program} {t : TypeId}
theorem good_int {k : IntKind} (hu : P.underlying t = some (.int k)) (hc : P.cellsOf t = 1) : GoodT P t [.int k] := by
 refine ⟨hc, fun H enc w base spare held fuel cs x h => ?_⟩
 obtain ⟨n, rfl, _, hw⟩ := DataW.trod_int hu h
 refine ⟨⟨rfl, ?_⟩, trivial⟩
 have := hw
 simp [Lit.wf] at this
 exact this
theorem good_str (hu : P.underlying t = some .string) (hc : P.cellsOf t = 1) : GoodT P t [.str] := by
 refine ⟨hc, fun H enc w base spare held fuel cs x h => ?_⟩
 obtain ⟨s, rfl, _, hs⟩ := DataW.trod_string hu h
 exact ⟨hs, trivial⟩
def offsF : Nat → List (TypeId × List Leaf) → List (TypeId × Nat)
 | _, [] => []
 | o, (t, l) :: r => (t, o) :: offsF (o + l.length) r
theorem goods_fields : ∀ (ts : List (TypeId × List Leaf)) (o : Nat) (cs : List Value) , cs.length = o + (ts.map (·.2)).flatten.length →
  (∀ (i : Nat) (t : TypeId) (f : List Leaf), ts[i]? = some (t, f) → ∀ o' : Nat, (offsF o ts)[i]? = some (t, o') → goods f ((cs.drop o').take f.length)) → goods (ts.map (·.2)).flatten (cs.drop o)
 | [], o, cs, hl, _ => by
  rw [List.drop_of_length_le (by simpa using Nat.le_of_eq hl)]
  trivial
 | (t, l) :: r, o, cs, hl, h => by
  have h0 := h 0 t l rfl o rfl
  have hr := goods_fields r (o + l.length) cs (by rw [hl]; simp; omega) fun i t' f hi o' ho => h (i + 1) t' f hi o' ho
  have := goods_append h0 hr
  rw [show cs.drop (o + l.length) = (cs.drop o).drop l.length by rw [List.drop_drop], List.take_append_drop] at this
  simpa using this
theorem good_struct {fs : Array Field} (ts : List (TypeId × List Leaf)) (hts : ∀ p ∈ ts, GoodT P p.1 p.2) (hu : P.underlying t = some (.struct fs)) (hf : fs.toList.map (fun f => (f.type, f.offset)) = offsF 0 ts)
  (hc : P.cellsOf t = (ts.map (·.2)).flatten.length) : GoodT P t (ts.map (·.2)).flatten := by
 refine ⟨hc, fun H enc w base spare held fuel cs x h => ?_⟩
 obtain ⟨xs, n, _, _, hl, hxl, hx⟩ := DataW.trod_struct hu h
 have := goods_fields ts 0 cs (by rw [hl, hc, Nat.zero_add]) fun i t' f hi o' ho => ?_
 ·
  simpa using this
 ·
  rw [← hf, List.getElem?_map] at ho
  cases hfi : fs.toList[i]? with
  | none => rw [hfi] at ho; cases ho
  | some fl =>
   rw [hfi] at ho
   simp only [Option.map_some, Option.some.injEq, Prod.mk.injEq] at ho
   have hfi2 : fs[i]? = some fl := by simpa using hfi
   have h1 := hx i fl hfi2
   have hg := hts (t', f) (List.mem_of_getElem? hi)
   rw [ho.1, ho.2, hg.1] at h1
   have hil : i < xs.length := by
    rw [hxl]
    have := (List.getElem?_eq_some_iff.1 hfi).1
    simpa using this
   rw [List.getElem?_eq_getElem hil] at h1
   exact hg.2 _ _ _ _ _ _ _ _ _ h1
end
theorem addr_add (b o k : Nat) : Addr.add ⟨b, o, none⟩ k = ⟨b, o + k, none⟩ := by
 unfold Addr.add
 split
 ·
  rename_i h
  rw [h]
  rfl
 ·
  rfl
def blk (w : World) (b : Nat) : Option Obj := w.heap[b]?
section
variable {w : World}
@[go_sem] theorem blk_alloc (o : Obj) (n : Nat) (hn : n < w.heap.size) : blk (w.alloc o) n = blk w n := Below.heap_alloc w o n hn
@[go_sem] theorem blk_drew (n : Nat) : blk w.drew n = blk w n := rfl
@[go_sem] theorem blk_setRow (g k : Nat) (c : Array Value) (h : k ≠ g) : blk (w.setRow g c) k = blk w k := setRow_block_other g k c h
theorem blk_below {B b : Nat} {w w' : World} (h : Below B w w') (hb : b < B) : blk w' b = blk w b := h.block b hb
end
def SlAt (w : World) (n : Nat) (v : Value) (l : List (List Value)) : Prop :=
 (v = .slice none 0 0 ∧ l = []) ∨
 ∃ b off cap, v = .slice (some ⟨b, off, none⟩) l.length cap ∧ l.length ≤ cap ∧ cap ≤ maxLen ∧ (l ≠ [] → b < w.heap.size) ∧ ∀ W, blk W b = blk w b → ∀ (i : Nat) (x : List Value), l[i]? = some x → W.rangeAt b (off + i * n) x
theorem open_sl {H : Type} {enc : TypeId × Value → H} {P : Program} {w : World} {base : Nat} {spare : Nat → Bool} {held : Bool} {fuel : Nat} {t e : TypeId} {ls : List Leaf} {v : Value} {x : DataW H × List MemPlace}
  (hu : P.underlying t = some (.slice e)) (he : GoodT P e ls) (hpos : 0 < ls.length) (hv : ∃ a len cap, v = .slice a len cap) (hs : ∀ a len cap, v = .slice (some a) len cap → a.spot = none) (h : DataW.trod enc P w base spare held fuel t [v] = some x) :
  ∃ l : List (List Value), SlAt w ls.length v l ∧ ∀ y ∈ l, goods ls y := by
 rcases Go.Deep.open_slice hu h with ⟨h1, _⟩ | ⟨a, len, cap, m, n, D, Pl, h1, hb, hl, hm, hmm, _, hx⟩
 ·
  rw [List.cons.injEq] at h1
  exact ⟨[], .inl ⟨h1.1, rfl⟩, by simp⟩
 ·
  rw [List.cons.injEq] at h1
  obtain ⟨rfl, _⟩ := h1
  have hsp := hs a len cap rfl
  obtain ⟨b, off, sp⟩ := a
  dsimp only at hsp
  subst hsp
  have hlm : len ≤ m := by rw [hmm]; split <;> omega
  obtain ⟨f, hf⟩ : ∃ f : Nat → List Value, ∀ i, i < len → w.cells? base (Addr.add ⟨b, off, none⟩ (i * P.cellsOf e)) (P.cellsOf e) = some (f i) ∧ goods ls (f i) := by
   refine ⟨fun i => (w.cells? base (Addr.add ⟨b, off, none⟩ (i * P.cellsOf e)) (P.cellsOf e)).getD [], fun i hi => ?_⟩
   obtain ⟨cs', c1, c2⟩ := hx i (by omega)
   dsimp only
   rw [c1]
   exact ⟨rfl, he.2 _ _ _ _ _ _ _ _ _ c2⟩
  refine ⟨(List.range len).map f, .inr ?_, ?_⟩
  ·
   refine ⟨b, off, cap, by simp, by simpa using hl, hm, ?_, ?_⟩
   ·
    intro hne
    have h0 : 0 < len := by
     rcases Nat.eq_zero_or_pos len with e | e
     ·
      subst e; simp at hne
     ·
      exact e
    obtain ⟨c1, _⟩ := hf 0 h0
    obtain ⟨_, hlen, c2⟩ := World.cells?_some c1
    have c3 := c2 0 (by rw [he.1]; exact hpos)
    rw [List.getElem?_eq_getElem (by rw [hlen, he.1]; exact hpos)] at c3
    rcases Nat.lt_or_ge b w.heap.size with hlt | hge
    ·
     exact hlt
    ·
     rw [addr_add, addr_add] at c3
     simp [World.cell?, Array.getElem?_eq_none hge] at c3
   ·
    intro W hW i x hix
    rw [List.getElem?_map] at hix
    cases hr : (List.range len)[i]? with
    | none => rw [hr] at hix; cases hix
    | some k =>
     rw [hr] at hix
     obtain ⟨hi, rfl⟩ := List.getElem?_eq_some_iff.1 hr
     simp only [Option.map_some, Option.some.injEq, List.getElem_range] at hix
     rw [List.length_range] at hi
     obtain ⟨c1, _⟩ := hf i hi
     obtain ⟨_, hlen, c2⟩ := World.cells?_some c1
     intro j v hj
     rw [← hix] at hj
     have hjl : j < (f i).length := (List.getElem?_eq_some_iff.1 hj).1
     have c3 := c2 j (by omega)
     rw [hj, he.1] at c3
     rw [← c3]
     have hW2 : W.heap[b]? = w.heap[b]? := hW
     rw [addr_add, addr_add]
     simp only [World.cell?, hW2]
  ·
   intro y hy
   obtain ⟨i, hi, rfl⟩ := List.mem_map.1 hy
   exact (hf i (by simpa using hi)).2
end
section
open Go.RowKit
section
variable {P : Program} {w : World}
theorem run_loadS_at {t n b off : Nat} [hA : AggOf P t n] {l : List Value} (h : w.rangeAt b off l) (hl : l.length = n) : (loadS t (.pointer (some ⟨b, off, none⟩))).run P w = .ok (.agg l.toArray) w := by
 obtain ⟨d, hu, hd⟩ := hA.agg
 have := run_loadVar_mid (P := P) w b off t l d h hu hd (by rw [hA.size, hl])
 simp only [loadS, Instr.loadAt, Instr.sureAddr, Sem.run_bind, Sem.run_pure, Result.andThen_ok, this]
theorem sl_open {n : Nat} {v : Value} {l : List (List Value)} (h : SlAt w n v l) : ∃ a cap, v = .slice a l.length cap ∧ l.length ≤ maxLen ∧
  ∀ (i : Nat) (x : List Value), l[i]? = some x → ∃ b off, a = some ⟨b, off, none⟩ ∧ b < w.heap.size ∧ ∀ W, blk W b = blk w b → W.rangeAt b (off + i * n) x := by
 rcases h with ⟨rfl, rfl⟩ | ⟨b, off, cap, rfl, h1, h2, h3, h4⟩
 ·
  exact ⟨none, 0, rfl, Nat.zero_le _, fun i x h => by simp at h⟩
 ·
  refine ⟨_, cap, rfl, by omega, fun i x hx => ⟨b, off, rfl, h3 (fun e => by rw [e] at hx; simp at hx), fun W hW => h4 W hW i x hx⟩⟩
def Reads (P : Program) (w : World) (t : TypeId) (v : Value) : Prop :=
 ∃ (H : Type) (enc : TypeId × Value → H) (base : Nat) (spare : Nat → Bool) (held : Bool) (fuel : Nat) (x : DataW H × List MemPlace), DataW.trod enc P w base spare held fuel t v.cells.toList = some x
theorem reads_all {H : Type} {enc : TypeId × Value → H} {base : Nat} {spare : Nat → Bool} {held : Bool} : ∀ {ts : List TypeId} {vs : List Value} {ds : List (DataW H)} {ps : List MemPlace}, DataW.TrodAll enc P w base spare held ts vs ds ps →
  ∀ (j : Nat) t v, ts[j]? = some t → vs[j]? = some v → Reads P w t v
 | [], [], _, _, _, j, t, v, h, _ => by simp at h
 | t0 :: ts, v0 :: vs, d :: ds, ps, h, j, t, v, h1, h2 => by
  obtain ⟨p, q, ⟨f, hf⟩, hr, _⟩ := h
  cases j with
  | zero =>
   simp only [List.getElem?_cons_zero, Option.some.injEq] at h1 h2
   subst h1 h2
   exact ⟨H, enc, base, spare, held, f, _, hf⟩
  | succ j => exact reads_all hr j t v (by simpa using h1) (by simpa using h2)
 | [], _ :: _, [], _, h, _, _, _, _, _ => by cases h
 | [], _ :: _, _ :: _, _, h, _, _, _, _, _ => by cases h
 | _ :: _, [], [], _, h, _, _, _, _, _ => by cases h
 | _ :: _, [], _ :: _, _, h, _, _, _, _, _ => by cases h
 | _ :: _, _ :: _, [], _, h, _, _, _, _, _ => by cases h
theorem open_slW {t e : TypeId} {ls : List Leaf} {v : Value} {r : Reach} {base : Nat} (hu : P.underlying t = some (.slice e)) (he : GoodT P e ls) (hpos : 0 < ls.length) (hv : Value.okWide P w r base t v) (hr : Reads P w t v) :
  ∃ l : List (List Value), SlAt w ls.length v l ∧ ∀ y ∈ l, goods ls y := by
 obtain ⟨H, enc, base', spare, held, fuel, x, hx⟩ := hr
 obtain ⟨a, len, cap, rfl⟩ := Go.WideShapes.okWide_slice hu hv
 refine open_sl hu he hpos ⟨a, len, cap, rfl⟩ ?_ hx
 intro a' len' cap' e
 cases e
 unfold Value.okWide at hv
 rw [hu] at hv
 simp only [Cell.okWide, hu, Cell.ok] at hv
 exact hv.2.2.2.1
end
def XS (l : List (Nat × Array Value)) (X : World → Prop) (w : World) : Prop := Rws l w ∧ X w
def GrowP (X : World → Prop) : Prop := ∀ w w1, X w → Below w.heap.size w w1 → X w1
theorem XS.grow {l : List (Nat × Array Value)} {X : World → Prop} (hX : GrowP X) (w w1 : World) (h : XS l X w) (hb : Below w.heap.size w w1) : XS l X w1 := ⟨Rws.grow l w w1 h.1 hb, hX _ _ h.2 hb⟩
theorem grow_blk (b : Nat) (o : Option Obj) : GrowP fun w => blk w b = o ∧ b < w.heap.size := fun w w1 h hb => ⟨(blk_below hb h.2).trans h.1, Nat.lt_of_lt_of_le h.2 hb.size⟩
section
variable {P : Program} {ops : Array Oper} {Q : Exit → Act → World → Prop} {md : Region.Mode}
theorem wp_region_beginX {id : Nat} {a : Act} {w : World} (l : List (Nat × Array Value)) (X : World → Prop) (hG : GrowP X) (hm : P.follows .mixedOrders = true) (hS : Rws l w) (hX : X w)
  (h : XS l X w.drew → wpAnyR P .any ops Q (XS l X) ops.size (Array.replicate ops.size false) a w.drew) : (Code.region id ops true).wp P Q a w :=
 wp_region_held hm (wpAnyH_of_R _ _ _ _ (h (XS.grow hG w _ ⟨hS, hX⟩ (Below.drew (Below.refl _ _)))))
end
end
section
open Go.RowKit
theorem GrowP.and {X Y : World → Prop} (h : GrowP X) (k : GrowP Y) : GrowP fun w => X w ∧ Y w := fun w w1 hx hb => ⟨h w w1 hx.1 hb, k w w1 hx.2 hb⟩
theorem grow_base (W : World) : GrowP fun w => Below W.heap.size W w := fun w w1 h hb => h.trans (hb.mono h.size)
section
variable {P : Program} {ops : Array Oper} {Q : Exit → Act → World → Prop} {md : Region.Mode}
theorem sp (i : Nat) {oi : Oper} {v : Value} {fuel : Nat} {listed : Array Bool} {a a' : Act} {w : World} {l : List (Nat × Array Value)} {X : World → Prop} (hG : GrowP X) (hS : XS l X w)
  (h : wpAnyR P md ops Q (XS l X) fuel (listed.setIfInBounds i true) a' w)
  (hi : ops[i]? = some oi := by simp only [List.getElem?_toArray, List.getElem?_cons_succ, List.getElem?_cons_zero]; rfl)
  (hs : Region.noSelect ops = true := by kernel_rfl) (hf : Region.free md ops listed i = true := by kernel_rfl) (hr : (Region.ready md ops listed).contains i = true := by kernel_rfl)
  (hQ : ∀ c a w, Q (.panic c) (a.put oi.dst v) w → Q (.panic c) a w := by first | exact fun _ _ _ h => h | exact fun _ _ _ h => by cases h.1)
  (hw : Region.wanted oi (yielded ops a.tmps) = true := by rfl)
  (hy : ∀ w', XS l X w' → uponV P (fun u w'' => u = v ∧ Below w'.heap.size w' w'') ((execOp a.eval oi).run P w') := by
   intro w' hS'
   obtain ⟨hS', hX'⟩ := hS'
   simp only [Rws] at hS'
   go_simp
   refine ⟨?_, Below.refl _ _⟩
   rfl)
  (hp : a.put oi.dst v = a' := by first | (simp only [Act.put, List.setIfInBounds_toArray, List.set_cons_zero, List.set_cons_succ]; rfl) | rfl) :
  wpAnyR P md ops Q (XS l X) (fuel + 1) listed a w :=
 wpAnyR_take hi hs hf hr hQ (XS.grow hG) (Or.inl ⟨hw, hy⟩) hS (hp ▸ h)
theorem sn (i : Nat) {oi : Oper} {fuel : Nat} {listed : Array Bool} {a a' : Act} {w : World} {l : List (Nat × Array Value)} {X : World → Prop} (hG : GrowP X) (hS : XS l X w)
  (h : wpAnyR P md ops Q (XS l X) fuel (listed.setIfInBounds i true) a' w)
  (hi : ops[i]? = some oi := by simp only [List.getElem?_toArray, List.getElem?_cons_succ, List.getElem?_cons_zero]; rfl)
  (hs : Region.noSelect ops = true := by kernel_rfl) (hf : Region.free md ops listed i = true := by kernel_rfl) (hr : (Region.ready md ops listed).contains i = true := by kernel_rfl)
  (hQ : ∀ c a w, Q (.panic c) (a.put oi.dst undef) w → Q (.panic c) a w := by first | exact fun _ _ _ h => h | exact fun _ _ _ h => by cases h.1)
  (hw : Region.wanted oi (yielded ops a.tmps) = false := by rfl)
  (hp : a.put oi.dst undef = a' := by first | (simp only [Act.put, List.setIfInBounds_toArray, List.set_cons_zero, List.set_cons_succ]; rfl) | rfl) :
  wpAnyR P md ops Q (XS l X) (fuel + 1) listed a w :=
 wpAnyR_take hi hs hf hr hQ (XS.grow hG) (Or.inr ⟨hw, rfl⟩) hS (hp ▸ h)
theorem sc (i : Nat) {oi : Oper} {v : Value} {fuel : Nat} {listed : Array Bool} {a a' : Act} {w : World} {l : List (Nat × Array Value)} {X : World → Prop} (hG : GrowP X) (hS : XS l X w)
  (hy : ∀ w', XS l X w' → uponV P (fun u w'' => u = v ∧ Below w'.heap.size w' w'') ((execOp a.eval oi).run P w'))
  (h : wpAnyR P md ops Q (XS l X) fuel (listed.setIfInBounds i true) a' w)
  (hi : ops[i]? = some oi := by simp only [List.getElem?_toArray, List.getElem?_cons_succ, List.getElem?_cons_zero]; rfl)
  (hs : Region.noSelect ops = true := by kernel_rfl) (hf : Region.free md ops listed i = true := by kernel_rfl) (hr : (Region.ready md ops listed).contains i = true := by kernel_rfl)
  (hQ : ∀ c a w, Q (.panic c) (a.put oi.dst v) w → Q (.panic c) a w := by first | exact fun _ _ _ h => h | exact fun _ _ _ h => by cases h.1)
  (hw : Region.wanted oi (yielded ops a.tmps) = true := by rfl)
  (hp : a.put oi.dst v = a' := by first | (simp only [Act.put, List.setIfInBounds_toArray, List.set_cons_zero, List.set_cons_succ]; rfl) | rfl) :
  wpAnyR P md ops Q (XS l X) (fuel + 1) listed a w :=
 wpAnyR_take hi hs hf hr hQ (XS.grow hG) (Or.inl ⟨hw, hy⟩) hS (hp ▸ h)
theorem wpAnyS_var {i k : Nat} {oi ok : Oper} {dA : Tmp} {zi cA : Array Value} {ti : TypeId} {fuel : Nat} {listed : Array Bool} {a : Act} {w : World} {S : World → Prop} (hG : ∀ w w1, S w → Below w.heap.size w w1 → S w1)
  (hoi : ops[i]? = some oi) (hok : ops[k]? = some ok) (ni : News P oi dA zi ti)
  (r0 : Region.ready md ops listed = [i]) (r1 : Region.ready md ops (listed.setIfInBounds i true) = [k])
  (gk : ok.guard = none) (dk : ok.dst = none) (sA : cA.size = zi.size) (pA : 0 < zi.size)
  (vk : ∀ A w1, row w1 A = zi → Stores ((execOp ((a.put (some dA) (ptr A)).eval) ok).run P w1) (w1.setRow A cA)) (hS : S w)
  (h : ∀ A w2, w.heap.size ≤ A → A < w2.heap.size → Below w.heap.size w w2 → row w2 A = cA → S w2 → wpAnyR P md ops Q S fuel ((listed.setIfInBounds i true).setIfInBounds k true) (a.put (some dA) (ptr A)) w2) :
  wpAnyR P md ops Q S (fuel + 1 + 1) listed a w := by
 refine wpAnyR_one hoi ni.guard r0 fun w1 b1 => ?_
 have e1 := b1.size
 have bA : Below w.heap.size w (w1.alloc (.cells zi ti)) := Below.alloc b1 e1 _
 refine ⟨_, _, _, ni.run a w1, rfl, hG _ _ hS bA, ?_⟩
 rw [ni.dst]
 refine wpAnyR_one hok gk r1 fun w3 b3 => ?_
 have e3 := b3.size
 rw [alloc_sizeW] at e3
 have rA : row w3 w1.heap.size = zi := by rw [row_below b3 (by rw [alloc_sizeW]; omega), row_alloc_at _ _ _ rfl]
 obtain ⟨n, v, hv, hn⟩ := vk w1.heap.size w3 rA
 have bB : Below w.heap.size w (w3.setRow w1.heap.size cA) := Below.setRow (Below.trans bA (b3.mono (by rw [alloc_sizeW]; omega))) e1 _
 have hS2 := hG _ _ hS bB
 refine ⟨n, v, _, hv, hn, hS2, ?_⟩
 rw [dk]
 refine h w1.heap.size _ e1 (by rw [setRow_size]; omega) bB ?_ hS2
 exact row_setRow_same (by rw [rA]; exact pA) (by rw [rA]; exact sA)
end
end
end Go.Proofs.YtckckabedgpbiaaGreat
