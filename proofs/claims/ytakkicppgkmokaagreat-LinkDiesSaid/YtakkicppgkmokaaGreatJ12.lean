/- Texts of this proof, merged: Own, Val, OwnI. -/
import Derived.Test.YtakkicppgkmokaaGreatBytJ
import Derived.Laws.OwnMore
import Derived.Test.YtakkicppgkmokaaGreatAggJ
set_option linter.unusedSimpArgs false
set_option linter.unusedVariables false
namespace Go.Proofs.YtakkicppgkmokaaGreat
section
open Go.RowKit
class CellsOf (P : Program) (t : TypeId) (e : outParam TypeId) (z : outParam Value) : Prop where
 sl : P.underlying t = some (.slice e)
 info : (P.info? e).map (fun i => (i.zero, i.size, decide (i.bytes ≤ 8))) = some (some z, 1, true)
 one : z.cells = #[z]
theorem CellsOf.get {P : Program} {t e : TypeId} {z : Value} (h : CellsOf P t e z) : ∃ i, P.info? e = some i ∧ i.zero = some z ∧ i.size = 1 ∧ i.bytes ≤ 8 := by
 have := h.info
 cases hi : P.info? e with
 | none => rw [hi] at this; simp at this
 | some i =>
  rw [hi] at this
  simp at this
  exact ⟨i, rfl, this.1, this.2.1, this.2.2⟩
def Own (w : World) (B e : Nat) (v : Value) (l : List Value) : Prop := w.ownsRow B e 1 v l.length l
section
variable {w w' : World} {B e : Nat} {v : Value} {l : List Value}
theorem Own.nil : Own w B e (.slice none 0 0) [] := World.ownsRow_nil _ _ _ _
theorem Own.below (h : Own w B e v l) (hb : Below w.heap.size w w') : Own w' B e v l := by
 obtain ⟨hl, ⟨rfl, h0⟩ | ⟨g, cap, cur, rfl, hg0, hg, hr⟩⟩ := h
 ·
  exact ⟨hl, .inl ⟨rfl, h0⟩⟩
 ·
  refine ⟨hl, .inr ⟨g, cap, cur, rfl, hg0, ?_, hr⟩⟩
  rw [hb.block g ?_]
  ·
   exact hg
  ·
   rcases Nat.lt_or_ge g w.heap.size with h1 | h1
   ·
    exact h1
   ·
    rw [Array.getElem?_eq_none h1] at hg
    cases hg
theorem Own.alloc (h : Own w B e v l) (o : Obj) : Own (w.alloc o) B e v l := World.ownsRow.alloc h o
theorem Own.drew (h : Own w B e v l) : Own w.drew B e v l := h.below (Below.drew (Below.refl _ _))
theorem Own.cells (h : Own w B e v l) (hn : l ≠ []) : ∃ g sp, v = .slice (some ⟨g, 0, none⟩) l.length (l.length + sp) ∧ B ≤ g ∧ g < w.heap.size ∧ ∃ s : List Value, s.length = sp ∧ row w g = (l ++ s).toArray := by
 obtain ⟨hl, ⟨rfl, h0⟩ | ⟨g, cap, cur, rfl, hg0, hg, hnc, hm, hc, ht⟩⟩ := h
 ·
  exact absurd (List.eq_nil_of_length_eq_zero h0) hn
 ·
  refine ⟨g, cap - l.length, by congr 1; omega, hg0, ?_, cur.toList.drop l.length, by simp; omega, ?_⟩
  ·
   rcases Nat.lt_or_ge g w.heap.size with h1 | h1
   ·
    exact h1
   ·
    rw [Array.getElem?_eq_none h1] at hg
    cases hg
  ·
   unfold row
   rw [hg]
   apply Array.ext'
   simp only [if_true, true_or]
   rw [Nat.mul_one] at ht
   conv => lhs; rw [← List.take_append_drop l.length cur.toList, ht]
theorem Own.set {g n c j : Nat} {u : Value} {s : List Value} (h : Own w B e (.slice (some ⟨g, 0, none⟩) n c) l) (hr : row w g = (l ++ s).toArray) (hj : j < l.length) :
  Own (w.setRow g (l.set j u ++ s).toArray) B e (.slice (some ⟨g, 0, none⟩) n c) (l.set j u) := by
 obtain ⟨hl, ⟨h0, _⟩ | ⟨g', cap, cur, h1, hg0, hg, hnc, hm, hc, ht⟩⟩ := h
 ·
  cases h0
 ·
  cases h1
  have hrow : row w g = cur := by unfold row; rw [hg]; simp
  rw [hrow] at hr
  refine ⟨by simp, .inr ⟨g, c, (l.set j u ++ s).toArray, by rw [List.length_set], hg0, setRow_heap w g cur _ e _ hg, by rw [List.length_set]; exact hnc, hm, ?_, ?_⟩⟩
  ·
   rw [← hc, hr]; simp
  ·
   simp
end
section
variable {P : Program} {w : World}
theorem wpList_append1 {ops : Array Oper} {rest : List Oper} {o : Oper} {a : Act} {Q : Exit → Act → World → Prop} (hgd : o.guard = none) {s x : Operand} {t e : TypeId} {z : Value}
  (ho : o.op = .call { callee := .builtin .append, args := #[s, x], argTypes := #[t, t] })
  (hC : CellsOf P t e z) (base : Nat) (v : Value) (l : List Value) (hs : a.eval s = v) (hown : Own w base e v l)
  (u : Value) (hx : a.eval x = .slice (some ⟨w.heap.size, 0, none⟩) 1 1) (hu : u.oneCell' = true)
  (hn : l.length + 1 ≤ 1000000) (hbase : base ≤ w.heap.size)
  (h : ∀ v' w', Own w' base e v' (l ++ [u]) → Below base w w' → wpList P ops Q rest (a.put o.dst v') w') :
  wpList P ops Q (o :: rest) a (w.alloc (.cells #[u] e)) := by
 obtain ⟨i0, hi, hz0, hz1, hz2⟩ := hC.get
 refine wpList_append_own _ hgd s x t ho base e i0 _ 1 _ hC.sl hi hz0 hz1 rfl (by rw [hC.one]; rfl) (by decide) v l.length l hs (World.ownsRow.alloc hown _) ⟨w.heap.size, 0, none⟩ 1 1 [u] hx rfl ?_ ?_ ?_ ?_ ?_ ?_
 ·
  intro j y hj
  match j, hj with
  | 0, hj => simp at hj; subst hj; simp [Addr.add, World.cell?_alloc_at]
 ·
  intro y hy; simp at hy; subst hy; exact hu
 ·
  unfold maxLen; omega
 ·
  have := Nat.mul_le_mul_left (l.length + 1) hz2
  omega
 ·
  simp; omega
 ·
  intro v' w' h1 h2 _
  refine h v' w' ?_ (((Below.refl base w).alloc hbase _).grown h2 (by simp; omega) fun k hk => (World.ownsRow.lt hown k hk).1)
  unfold Own
  simpa using h1
end
def n64s (l : List Nat) : List Value := l.map fun n : Nat => Value.int .i64 (n : Int)
@[simp] theorem n64s_length (l : List Nat) : (n64s l).length = l.length := by simp [n64s]
@[simp] theorem ones_n64s (l : List Nat) : ones (n64s l) = true := by simp [ones, n64s, Value.oneCell']
@[simp] theorem n64s_get (l : List Nat) (i : Nat) (h : i < (n64s l).length) : (n64s l)[i] = .int .i64 ((l[i]'(by simpa using h) : Nat) : Int) := by simp [n64s]
@[simp] theorem n64s_set (l : List Nat) (i : Nat) (n : Nat) : (n64s l).set i (.int .i64 (n : Int)) = n64s (l.set i n) := by simp [n64s, List.map_set]
theorem n64s_append (l m : List Nat) : n64s (l ++ m) = n64s l ++ n64s m := by simp [n64s]
def sliceLen : Value → Nat
 | .slice _ n _ => n
 | _ => 0
theorem Own.len {w : World} {B e : Nat} {v : Value} {l : List Value} (h : Own w B e v l) : sliceLen v = l.length := by
 obtain ⟨hl, ⟨rfl, h0⟩ | ⟨g', cap, cur, rfl, _⟩⟩ := h
 ·
  exact h0.symm
 ·
  rfl
theorem set_left (l m : List Value) (i : Nat) (v : Value) (h : i < l.length) : (l ++ m).set i v = l.set i v ++ m := by
 rw [List.set_append]
 simp [h]
end
section
open Go.RowKit
def valB : List Nat → Nat
 | [] => 0
 | a :: l => a + 256 * valB l
def Dig (l : List Nat) : Prop := ∀ x ∈ l, x < 256
theorem valB_append (l m : List Nat) : valB (l ++ m) = valB l + 256 ^ l.length * valB m := by
 induction l with
 | nil => simp [valB]
 | cons a l ih =>
  rw [List.cons_append, valB, valB, ih, List.length_cons, Nat.pow_succ]
  rw [Nat.mul_add, ← Nat.mul_assoc, Nat.mul_comm 256 (256 ^ l.length)]
  omega
theorem valB_snoc (l : List Nat) (x : Nat) : valB (l ++ [x]) = valB l + 256 ^ l.length * x := by
 rw [valB_append]
 simp [valB]
theorem valB_set (l : List Nat) (i x : Nat) (h : i < l.length) : valB (l.set i x) + 256 ^ i * l[i] = valB l + 256 ^ i * x := by
 induction l generalizing i with
 | nil => simp at h
 | cons a l ih =>
  cases i with
  | zero => simp [valB]; omega
  | succ i =>
   have := ih i (by simpa using h)
   simp only [List.set_cons_succ, valB, List.getElem_cons_succ, Nat.pow_succ]
   rw [Nat.mul_comm (256 ^ i) 256, Nat.mul_assoc, Nat.mul_assoc]
   omega
theorem Dig.nil : Dig [] := by intro x hx; cases hx
theorem Dig.append {l m : List Nat} (h : Dig l) (k : Dig m) : Dig (l ++ m) := by
 intro x hx
 rcases List.mem_append.1 hx with hx | hx
 ·
  exact h x hx
 ·
  exact k x hx
theorem Dig.one {x : Nat} (h : x < 256) : Dig [x] := by
 intro y hy
 rw [List.mem_singleton.1 hy]
 exact h
theorem Dig.set {l : List Nat} (h : Dig l) (i : Nat) {x : Nat} (hx : x < 256) : Dig (l.set i x) := by
 intro y hy
 rcases List.mem_or_eq_of_mem_set hy with h1 | rfl
 ·
  exact h y h1
 ·
  exact hx
theorem Dig.take {l : List Nat} (h : Dig l) (n : Nat) : Dig (l.take n) := fun x hx => h x (List.mem_of_mem_take hx)
theorem Dig.drop {l : List Nat} (h : Dig l) (n : Nat) : Dig (l.drop n) := fun x hx => h x (List.mem_of_mem_drop hx)
theorem Dig.zeros (n : Nat) : Dig (List.replicate n 0) := by
 intro x hx
 rw [(List.mem_replicate.1 hx).2]
 decide
theorem Dig.get {l : List Nat} (h : Dig l) (i : Nat) (hi : i < l.length) : l[i] < 256 := h _ (List.getElem_mem hi)
theorem Dig.getD {l : List Nat} (h : Dig l) (i : Nat) : l.getD i 0 < 256 := by
 rcases Nat.lt_or_ge i l.length with h1 | h1
 ·
  rw [List.getD_eq_getElem?_getD, List.getElem?_eq_getElem h1]
  exact h.get i h1
 ·
  rw [List.getD_eq_getElem?_getD, List.getElem?_eq_none (by omega)]
  decide
theorem getD_at (l : List Nat) (i : Nat) (h : i < l.length) : l.getD i 0 = l[i] := by simp [List.getD_eq_getElem?_getD, h]
theorem wrapN (x : Int) (n : Nat) (h : x = (n : Int)) (hn : n < 4611686018427387904) : IntKind.i64.wrap x = (n : Int) := by
 rw [wraps_i64 _ (by omega) (by omega)]
 exact h
end
section
instance Tryz.cellsInts : CellsOf Tryz.prog 103 3 (.int .i64 0) := ⟨Tryz.underlying103, by kernel_rfl, rfl⟩
end
end Go.Proofs.YtakkicppgkmokaaGreat
