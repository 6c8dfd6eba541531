/- Texts of this proof, merged: Map, MapR, MapS. -/
import Derived.Maps.RangeRun
import Derived.MapKept
import Derived.Test.YtakkicppgkmokaaGreatRegJ
set_option linter.unusedSimpArgs false
set_option linter.unusedVariables false
namespace Go.Proofs.YtakkicppgkmokaaGreat
section
open Go.RowKit
open Go.ChangeMaps (setBlock)
def entP (e : MapEntry) : Value × Value := (e.key, e.val)
def mapL (w : World) (b : Nat) : List (Value × Value) :=
 match w.heap[b]? with
 | some (.map es _) => es.toList.map entP
 | _ => []
def mapOk (w : World) (b : Nat) : Prop := ∃ es clock, w.heap[b]? = some (.map es clock) ∧ (∀ x ∈ es.toList, x.born < clock) ∧ (es.toList.map (·.born)).Nodup
theorem mapL_of_block {w w' : World} {b : Nat} (h : w'.heap[b]? = w.heap[b]?) : mapL w' b = mapL w b := by unfold mapL; rw [h]
theorem mapOk_of_block {w w' : World} {b : Nat} (h : w'.heap[b]? = w.heap[b]?) : mapOk w' b ↔ mapOk w b := by unfold mapOk; rw [h]
theorem mapL_below {B b : Nat} {w w' : World} (h : Below B w w') (hb : b < B) : mapL w' b = mapL w b := mapL_of_block (h.block b hb)
theorem mapOk_below {B b : Nat} {w w' : World} (h : Below B w w') (hb : b < B) (hm : mapOk w b) : mapOk w' b := (mapOk_of_block (h.block b hb)).2 hm
theorem mapOk.lt {w : World} {b : Nat} (h : mapOk w b) : b < w.heap.size := by
 obtain ⟨es, c, h, _⟩ := h
 rcases Nat.lt_or_ge b w.heap.size with hlt | hge
 ·
  exact hlt
 ·
  rw [Array.getElem?_eq_none hge] at h; cases h
section
variable {w : World}
@[go_sem] theorem mapL_alloc (o : Obj) (n : Nat) (hn : n < w.heap.size) : mapL (w.alloc o) n = mapL w n := mapL_of_block (Below.heap_alloc w o n hn)
@[go_sem] theorem mapOk_alloc (o : Obj) (n : Nat) (hn : n < w.heap.size) : mapOk (w.alloc o) n = mapOk w n := propext (mapOk_of_block (Below.heap_alloc w o n hn))
@[go_sem] theorem mapL_new (es : Array MapEntry) (c n : Nat) (hn : n = w.heap.size) : mapL (w.alloc (.map es c)) n = es.toList.map entP := by
 subst hn
 unfold mapL
 rw [heap_alloc_new]
@[go_sem] theorem run_makeMapN (P : Program) (t : TypeId) : (Instr.makeMap t none).run P w = .ok (.map (some w.heap.size)) (w.alloc (.map #[] 0)) := by
 simp [Instr.makeMap, Result.andThen]
@[go_sem] theorem mapL_drew (n : Nat) : mapL w.drew n = mapL w n := rfl
@[go_sem] theorem mapOk_drew (n : Nat) : mapOk w.drew n = mapOk w n := rfl
theorem setRow_map (g k : Nat) (c : Array Value) (es : Array MapEntry) (cl : Nat) (h : w.heap[k]? = some (.map es cl)) : (w.setRow g c).heap[k]? = some (.map es cl) := by
 simp only [World.setRow, Array.getElem?_modify]
 by_cases hg : g = k
 ·
  subst hg
  rw [if_pos rfl, h]
  rfl
 ·
  rw [if_neg hg, h]
@[go_sem] theorem mapOk_setRow (g k : Nat) (c : Array Value) (h : mapOk w k) : mapOk (w.setRow g c) k := by
 obtain ⟨es, cl, h, h2⟩ := h
 exact ⟨es, cl, setRow_map g k c es cl h, h2⟩
theorem mapL_setRow (g k : Nat) (c : Array Value) (h : mapOk w k) : mapL (w.setRow g c) k = mapL w k := by
 obtain ⟨es, cl, h, h2⟩ := h
 unfold mapL
 rw [setRow_map g k c es cl h, h]
end
structure KeyTy (P : Program) (kt : TypeId) (ok : Value → Prop) (same : Value → Value → Bool) : Prop where
 check : ∀ k, ok k → ∀ e w, (Instr.checkKey e 10000 kt k).run P w = .ok () w
 equal : ∀ a b, ok a → ok b → ∀ w, (Op.equal kt a b).run P w = .ok (same a b) w
 under : ∃ d, P.underlying kt = some d ∧ ∀ a b, ok a → ok b → Instr.sameNow d a b = none
 eq : ∀ a b, ok a → ok b → same a b = true → a = b
 refl : ∀ a, ok a → same a a = true
 bits : ∀ a, ok a → Instr.sameBits 10000 a a = true
section
variable {P : Program} {kt : TypeId} {ok : Value → Prop} {same : Value → Value → Bool}
structure Turn (b : Nat) (w w' : World) : Prop where
 os : w'.os = w.os
 tape : w'.tape = w.tape
 output : w'.output = w.output
 size : w'.heap.size = w.heap.size
 block : ∀ k, k ≠ b → w'.heap[k]? = w.heap[k]?
theorem Turn.below {b B : Nat} {w w' : World} (h : Turn b w w') (hb : B ≤ b) : Below B w w' := ⟨h.os, h.tape, h.output, Nat.le_of_eq h.size.symm, fun k hk => h.block k (by omega)⟩
theorem Turn.row {b : Nat} {w w' : World} (h : Turn b w w') {k : Nat} (hk : k ≠ b) : row w' k = row w k := row_of_block (h.block k hk)
end
end
section
open Go.RowKit
open Go.ChangeMaps (setBlock)
section
variable {P : Program} {kt : TypeId} {ok : Value → Prop} {same : Value → Value → Bool} {k : Value}
def iterOk (w : World) (r M : Nat) (left : Value → Bool) : Prop :=
 ∃ es clock since seen c0, w.heap[M]? = some (.map es clock) ∧ w.heap[r]? = some (.mapIter (some M) since seen c0) ∧ (∀ x ∈ es.toList, x.born < since) ∧ since ≤ c0 ∧ since ≤ clock ∧ (es.toList.map (·.born)).Nodup ∧ ∀ e ∈ es.toList, left e.key = !seen.contains e.born
def leftN (w : World) (r M : Nat) : Nat :=
 match w.heap[r]?, w.heap[M]? with
 | some (.mapIter _ _ seen _), some (.map es _) => (es.toList.filter fun e => !seen.contains e.born).length
 | _, _ => 0
theorem iterOk.ne {w : World} {r M : Nat} {left : Value → Bool} (h : iterOk w r M left) : r ≠ M := by
 obtain ⟨es, c, s, seen, c0, h1, h2, _⟩ := h
 intro e
 rw [e, h1] at h2
 cases h2
theorem iterOk.lt {w : World} {r M : Nat} {left : Value → Bool} (h : iterOk w r M left) : r < w.heap.size := by
 obtain ⟨es, c, s, seen, c0, h1, h2, _⟩ := h
 rcases Nat.lt_or_ge r w.heap.size with hlt | hge
 ·
  exact hlt
 ·
  rw [Array.getElem?_eq_none hge] at h2; cases h2
theorem iterOk.kept {w w' : World} {r M : Nat} {left : Value → Bool} (h : iterOk w r M left) (h1 : w'.heap[M]? = w.heap[M]?) (h2 : w'.heap[r]? = w.heap[r]?) : iterOk w' r M left := by
 obtain ⟨es, c, s, seen, c0, g1, g2, g3⟩ := h
 exact ⟨es, c, s, seen, c0, by rw [h1, g1], by rw [h2, g2], g3⟩
theorem iterOk.put {w w' : World} {r M : Nat} {left : Value → Bool} (hi : iterOk w r M left) (hT : Turn M w w')
  (h : ∀ es cl, w.heap[M]? = some (.map es cl) → ∃ es', w'.heap[M]? = some (.map es' cl) ∧ es'.toList.map (fun e => (e.key, e.born)) = es.toList.map (fun e => (e.key, e.born))) :
  iterOk w' r M left ∧ leftN w' r M = leftN w r M := by
 have hne := hi.ne
 obtain ⟨es, cl, since, seen, c0, h1, h2, h3, h4, hsc, h5, h6⟩ := hi
 obtain ⟨es', g1, g2⟩ := h es cl h1
 have h2' : w'.heap[r]? = some (.mapIter (some M) since seen c0) := by rw [hT.block r hne, h2]
 have hb : es'.toList.map (·.born) = es.toList.map (·.born) := by
  have h := congrArg (List.map Prod.snd) g2
  rw [List.map_map, List.map_map] at h
  exact h
 have hex : ∀ x ∈ es'.toList, ∃ y ∈ es.toList, y.key = x.key ∧ y.born = x.born := by
  intro x hx
  have : (x.key, x.born) ∈ es'.toList.map (fun e => (e.key, e.born)) := List.mem_map_of_mem (f := fun e : MapEntry => (e.key, e.born)) hx
  rw [g2] at this
  obtain ⟨y, hy, e⟩ := List.mem_map.1 this
  simp only [Prod.mk.injEq] at e
  exact ⟨y, hy, e.1, e.2⟩
 refine ⟨⟨es', cl, since, seen, c0, g1, h2', fun x hx => ?_, h4, hsc, by rw [hb]; exact h5, fun x hx => ?_⟩, ?_⟩
 ·
  obtain ⟨y, hy, _, e2⟩ := hex x hx
  rw [← e2]
  exact h3 y hy
 ·
  obtain ⟨y, hy, e1, e2⟩ := hex x hx
  rw [← e1, ← e2]
  exact h6 y hy
 ·
  unfold leftN
  rw [h1, h2, g1, h2']
  have e1 : ∀ l : List MapEntry, (l.filter fun e => !seen.contains e.born).length = ((l.map (·.born)).filter fun b => !seen.contains b).length := by
   intro l
   rw [List.filter_map, List.length_map]
   rfl
  simp only [e1, hb]
end
end
section
open Go.RowKit
def MapS (l : List (Nat × Array Value)) (M : Nat) (L : List (Value × Value)) (w : World) : Prop := Rws l w ∧ mapOk w M ∧ mapL w M = L
theorem MapS.grow (l : List (Nat × Array Value)) (M : Nat) (L : List (Value × Value)) (w w1 : World) (h : MapS l M L w) (hb : Below w.heap.size w w1) : MapS l M L w1 :=
 ⟨Rws.grow l w w1 h.1 hb, mapOk_below hb h.2.1.lt h.2.1, by rw [mapL_below hb h.2.1.lt, h.2.2]⟩
theorem MapS.alloc {l : List (Nat × Array Value)} {M : Nat} {L : List (Value × Value)} {w : World} (h : MapS l M L w) (o : Obj) : MapS l M L (w.alloc o) := MapS.grow l M L w _ h (Below.alloc (Below.refl _ _) (Nat.le_refl _) o)
theorem MapS.setRow {g B : Nat} {c : Array Value} {l : List (Nat × Array Value)} {M : Nat} {L : List (Value × Value)} {w : World} (h : MapS l M L w) (hl : ∀ p ∈ l, p.1 < B) (hg : B ≤ g) : MapS l M L (w.setRow g c) :=
 ⟨Rws.setRow l w h.1 hl hg, mapOk_setRow _ _ _ h.2.1, by rw [mapL_setRow _ _ _ h.2.1, h.2.2]⟩
section
variable {P : Program} {ops : Array Oper} {Q : Exit → Act → World → Prop} {md : Region.Mode}
end
section
variable {P : Program} {ops : Array Oper} {Q : Exit → Act → World → Prop} {md : Region.Mode}
theorem mp (i : Nat) {oi : Oper} {v : Value} {fuel : Nat} {listed : Array Bool} {a a' : Act} {w : World} {l : List (Nat × Array Value)} {M : Nat} {L : List (Value × Value)} (hS : MapS l M L w)
  (h : wpAnyR P md ops Q (MapS l M L) fuel (listed.setIfInBounds i true) a' w)
  (hi : ops[i]? = some oi := by simp only [List.getElem?_toArray, List.getElem?_cons_succ, List.getElem?_cons_zero]; rfl)
  (hs : Region.noSelect ops = true := by kernel_rfl) (hf : Region.free md ops listed i = true := by kernel_rfl) (hr : (Region.ready md ops listed).contains i = true := by kernel_rfl)
  (hQ : ∀ c a w, Q (.panic c) (a.put oi.dst v) w → Q (.panic c) a w := by first | exact fun _ _ _ h => h | exact fun _ _ _ h => by cases h.1)
  (hw : Region.wanted oi (yielded ops a.tmps) = true := by rfl)
  (hy : ∀ w', MapS l M L w' → uponV P (fun u w'' => u = v ∧ Below w'.heap.size w' w'') ((execOp a.eval oi).run P w') := by
   intro w' hS'
   obtain ⟨hS', hM', hL'⟩ := hS'
   simp only [Rws] at hS'
   go_simp
   refine ⟨?_, Below.refl _ _⟩
   rfl)
  (hp : a.put oi.dst v = a' := by first | (simp only [Act.put, List.setIfInBounds_toArray, List.set_cons_zero, List.set_cons_succ]; rfl) | rfl) :
  wpAnyR P md ops Q (MapS l M L) (fuel + 1) listed a w :=
 wpAnyR_take hi hs hf hr hQ (MapS.grow _ _ _) (Or.inl ⟨hw, hy⟩) hS (hp ▸ h)
theorem kmp (i : Nat) {oi : Oper} {v : Value} {fuel : Nat} {listed : Array Bool} {a a' : Act} {w : World} {l : List (Nat × Array Value)} {M : Nat} {L : List (Value × Value)} {k : Nat} {S2 : World → Prop} (hS : MapS l M L w)
  (h : wpAnyK P md ops Q (MapS l M L) S2 k fuel (listed.setIfInBounds i true) a' w)
  (hi : ops[i]? = some oi := by simp only [List.getElem?_toArray, List.getElem?_cons_succ, List.getElem?_cons_zero]; rfl)
  (hs : Region.noSelect ops = true := by kernel_rfl) (hf : Region.free md ops listed i = true := by kernel_rfl) (hr : (Region.ready md ops listed).contains i = true := by kernel_rfl) (hk : waitsB md ops k i = true := by kernel_rfl)
  (hQ : ∀ c a w, Q (.panic c) (a.put oi.dst v) w → Q (.panic c) a w := by first | exact fun _ _ _ h => h | exact fun _ _ _ h => by cases h.1)
  (hw : Region.wanted oi (yielded ops a.tmps) = true := by rfl)
  (hy : ∀ w', MapS l M L w' → uponV P (fun u w'' => u = v ∧ Below w'.heap.size w' w'') ((execOp a.eval oi).run P w') := by
   intro w' hS'
   obtain ⟨hS', hM', hL'⟩ := hS'
   simp only [Rws] at hS'
   go_simp
   refine ⟨?_, Below.refl _ _⟩
   rfl)
  (hp : a.put oi.dst v = a' := by first | (simp only [Act.put, List.setIfInBounds_toArray, List.set_cons_zero, List.set_cons_succ]; rfl) | rfl) :
  wpAnyK P md ops Q (MapS l M L) S2 k (fuel + 1) listed a w :=
 wpAnyK_take hi hs hf hr hk hQ (MapS.grow _ _ _) (Or.inl ⟨hw, hy⟩) hS (hp ▸ h)
end
end
end Go.Proofs.YtakkicppgkmokaaGreat
