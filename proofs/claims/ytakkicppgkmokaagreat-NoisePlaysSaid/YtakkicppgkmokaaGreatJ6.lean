/- Texts of this proof, merged: Own, Val, OwnI, OwnB. -/
import Derived.Test.YtakkicppgkmokaaGreatJ2
import Derived.Laws.OwnMore
import Derived.Test.YtakkicppgkmokaaGreatJ1
set_option linter.unusedSimpArgs false
set_option linter.unusedVariables false
namespace Go.Proofs.YtakkicppgkmokaaGreat
section
open Go.RowKit
class CellsOf (P : Program) (t : TypeId) (e : outParam TypeId) (z : outParam Value) : Prop where
  sl : P.underlying t = some (.slice e)
  info : (P.info? e).map (fun i => (i.zero, i.size, decide (i.bytes ≤ 8))) = some (some z, 1, true)
  one : z.cells = #[z]
theorem CellsOf.get {P : Program} {t e : TypeId} {z : Value} (h : CellsOf P t e z) : ∃ i, P.info? e = some i ∧ i.zero = some z ∧ i.size = 1 ∧ i.bytes ≤ 8 := by
  have := h.info
  cases hi : P.info? e with
  | none => rw [hi] at this; simp at this
  | some i =>
    rw [hi] at this
    simp at this
    exact ⟨i, rfl, this.1, this.2.1, this.2.2⟩
def Own (w : World) (B e : Nat) (v : Value) (l : List Value) : Prop := w.ownsRow B e 1 v l.length l
section
variable {w w' : World} {B e : Nat} {v : Value} {l : List Value}
theorem Own.nil : Own w B e (.slice none 0 0) [] := World.ownsRow_nil _ _ _ _
theorem Own.empty (h : B ≤ w.heap.size) : Own (w.alloc (.cells #[] e)) B e (.slice (some ⟨w.heap.size, 0, none⟩) 0 0) [] := World.ownsRow_made w #[] 0 h (by decide) rfl
theorem Own.below (h : Own w B e v l) (hb : Below w.heap.size w w') : Own w' B e v l := by
  obtain ⟨hl, ⟨rfl, h0⟩ | ⟨g, cap, cur, rfl, hg0, hg, hr⟩⟩ := h
  · exact ⟨hl, .inl ⟨rfl, h0⟩⟩
  · refine ⟨hl, .inr ⟨g, cap, cur, rfl, hg0, ?_, hr⟩⟩
    rw [hb.block g ?_]
    · exact hg
    · rcases Nat.lt_or_ge g w.heap.size with h1 | h1
      · exact h1
      · rw [Array.getElem?_eq_none h1] at hg
        cases hg
theorem Own.alloc (h : Own w B e v l) (o : Obj) : Own (w.alloc o) B e v l := World.ownsRow.alloc h o
theorem Own.belowAt {g n c H : Nat} (h : Own w B e (.slice (some ⟨g, 0, none⟩) n c) l) (hg : g < H) (hb : Below H w w') : Own w' B e (.slice (some ⟨g, 0, none⟩) n c) l := by
  obtain ⟨hl, ⟨h0, _⟩ | ⟨g', cap, cur, h1, hg0, hg1, hr⟩⟩ := h
  · cases h0
  · cases h1
    refine ⟨hl, .inr ⟨g, c, cur, rfl, hg0, ?_, hr⟩⟩
    rw [hb.block g hg]
    exact hg1
theorem Own.drew (h : Own w B e v l) : Own w.drew B e v l := h.below (Below.drew (Below.refl _ _))
theorem Own.lower {A : Nat} (h : Own w B e v l) (ha : A ≤ B) : Own w A e v l := by
  obtain ⟨hl, h0 | ⟨g, cap, cur, rfl, hg0, hr⟩⟩ := h
  · exact ⟨hl, .inl h0⟩
  · exact ⟨hl, .inr ⟨g, cap, cur, rfl, by omega, hr⟩⟩
theorem Own.cells (h : Own w B e v l) (hn : l ≠ []) : ∃ g sp, v = .slice (some ⟨g, 0, none⟩) l.length (l.length + sp) ∧ B ≤ g ∧ g < w.heap.size ∧ ∃ s : List Value, s.length = sp ∧ row w g = (l ++ s).toArray := by
  obtain ⟨hl, ⟨rfl, h0⟩ | ⟨g, cap, cur, rfl, hg0, hg, hnc, hm, hc, ht⟩⟩ := h
  · exact absurd (List.eq_nil_of_length_eq_zero h0) hn
  · refine ⟨g, cap - l.length, by congr 1; omega, hg0, ?_, cur.toList.drop l.length, by simp; omega, ?_⟩
    · rcases Nat.lt_or_ge g w.heap.size with h1 | h1
      · exact h1
      · rw [Array.getElem?_eq_none h1] at hg
        cases hg
    · unfold row
      rw [hg]
      apply Array.ext'
      simp only [if_true, true_or]
      rw [Nat.mul_one] at ht
      conv => lhs; rw [← List.take_append_drop l.length cur.toList, ht]
theorem Own.set {g n c j : Nat} {u : Value} {s : List Value} (h : Own w B e (.slice (some ⟨g, 0, none⟩) n c) l) (hr : row w g = (l ++ s).toArray) (hj : j < l.length) :
    Own (w.setRow g (l.set j u ++ s).toArray) B e (.slice (some ⟨g, 0, none⟩) n c) (l.set j u) := by
  obtain ⟨hl, ⟨h0, _⟩ | ⟨g', cap, cur, h1, hg0, hg, hnc, hm, hc, ht⟩⟩ := h
  · cases h0
  · cases h1
    have hrow : row w g = cur := by unfold row; rw [hg]; simp
    rw [hrow] at hr
    refine ⟨by simp, .inr ⟨g, c, (l.set j u ++ s).toArray, by rw [List.length_set], hg0, setRow_heap w g cur _ e _ hg, by rw [List.length_set]; exact hnc, hm, ?_, ?_⟩⟩
    · rw [← hc, hr]; simp
    · simp
theorem Own.full {g n : Nat} (h : Own w B e (.slice (some ⟨g, 0, none⟩) n n) l) : row w g = l.toArray ∧ g < w.heap.size ∧ l.length = n := by
  obtain ⟨hl, ⟨h0, _⟩ | ⟨g', cap, cur, h1, hg0, hg, hnc, hm, hc, ht⟩⟩ := h
  · cases h0
  · cases h1
    refine ⟨?_, ?_, rfl⟩
    · unfold row
      rw [hg]
      apply Array.ext'
      simp only [if_true, true_or]
      rw [List.take_of_length_le (by simp; omega)] at ht
      exact ht
    · rcases Nat.lt_or_ge g w.heap.size with h1 | h1
      · exact h1
      · rw [Array.getElem?_eq_none h1] at hg
        cases hg
theorem Own.setFull {g n j : Nat} {u : Value} (h : Own w B e (.slice (some ⟨g, 0, none⟩) n n) l) (hj : j < l.length) :
    Own (w.setRow g (l.set j u).toArray) B e (.slice (some ⟨g, 0, none⟩) n n) (l.set j u) := by
  have := h.set (s := []) (u := u) (by rw [List.append_nil]; exact h.full.1) hj
  rwa [List.append_nil] at this
end
section
variable {P : Program} {w : World}
theorem wpList_append1 {ops : Array Oper} {rest : List Oper} {o : Oper} {a : Act} {Q : Exit → Act → World → Prop} (hgd : o.guard = none) {s x : Operand} {t e : TypeId} {z : Value}
    (ho : o.op = .call { callee := .builtin .append, args := #[s, x], argTypes := #[t, t] })
    (hC : CellsOf P t e z) (base : Nat) (v : Value) (l : List Value) (hs : a.eval s = v) (hown : Own w base e v l)
    (u : Value) (hx : a.eval x = .slice (some ⟨w.heap.size, 0, none⟩) 1 1) (hu : u.oneCell' = true)
    (hn : l.length + 1 ≤ 1000000) (hbase : base ≤ w.heap.size)
    (h : ∀ v' w', Own w' base e v' (l ++ [u]) → Below base w w' → wpList P ops Q rest (a.put o.dst v') w') :
    wpList P ops Q (o :: rest) a (w.alloc (.cells #[u] e)) := by
  obtain ⟨i0, hi, hz0, hz1, hz2⟩ := hC.get
  refine wpList_append_own _ hgd s x t ho base e i0 _ 1 _ hC.sl hi hz0 hz1 rfl (by rw [hC.one]; rfl) (by decide) v l.length l hs (World.ownsRow.alloc hown _) ⟨w.heap.size, 0, none⟩ 1 1 [u] hx rfl ?_ ?_ ?_ ?_ ?_ ?_
  · intro j y hj
    match j, hj with
    | 0, hj => simp at hj; subst hj; simp [Addr.add, World.cell?_alloc_at]
  · intro y hy; simp at hy; subst hy; exact hu
  · unfold maxLen; omega
  · have := Nat.mul_le_mul_left (l.length + 1) hz2
    omega
  · simp; omega
  · intro v' w' h1 h2 _
    refine h v' w' ?_ (((Below.refl base w).alloc hbase _).grown h2 (by simp; omega) fun k hk => (World.ownsRow.lt hown k hk).1)
    unfold Own
    simpa using h1
theorem wpList_appendAll {ops : Array Oper} {rest : List Oper} {o : Oper} {a : Act} {Q : Exit → Act → World → Prop} (hgd : o.guard = none) {s x : Operand} {t e : TypeId} {z : Value}
    (ho : o.op = .call { callee := .builtin .append, args := #[s, x], argTypes := #[t, t] })
    (hC : CellsOf P t e z) (base : Nat) (v : Value) (l : List Value) (hs : a.eval s = v) (hown : Own w base e v l)
    (g n c : Nat) (m sp : List Value) (hx : a.eval x = .slice (some ⟨g, 0, none⟩) n c) (hm : m.length = n) (hr : row w g = (m ++ sp).toArray) (hu : ∀ u ∈ m, u.oneCell' = true)
    (hn : l.length + m.length ≤ 1000000) (hbase : base ≤ w.heap.size)
    (h : ∀ v' w', Own w' base e v' (l ++ m) → Below base w w' → wpList P ops Q rest (a.put o.dst v') w') :
    wpList P ops Q (o :: rest) a w := by
  obtain ⟨i0, hi, hz0, hz1, hz2⟩ := hC.get
  subst hm
  refine wpList_append_own _ hgd s x t ho base e i0 _ 1 _ hC.sl hi hz0 hz1 rfl (by rw [hC.one]; rfl) (by decide) v l.length l hs hown ⟨g, 0, none⟩ m.length c m hx (by simp) ?_ hu ?_ ?_ hbase ?_
  · intro j y hj
    have hlt : j < m.length := by
      rcases Nat.lt_or_ge j m.length with h1 | h1
      · exact h1
      · rw [List.getElem?_eq_none h1] at hj; cases hj
    have : (⟨g, 0, none⟩ : Addr).add j = ⟨g, j, none⟩ := by
      simp [Addr.add]
      try exact fun h => h.symm
    rw [this, cell_of_row' (by rw [hr]; simp; omega), hr]
    rw [List.getElem?_toArray, List.getElem?_append_left hlt]
    exact hj
  · unfold maxLen; omega
  · have := Nat.mul_le_mul_left (l.length + m.length) hz2
    omega
  · intro v' w' h1 h2 _
    refine h v' w' ?_ ((Below.refl base w).grown h2 (by omega) fun k hk => (World.ownsRow.lt hown k hk).1)
    unfold Own
    simpa using h1
theorem make_own {t e : TypeId} {z : Value} (hC : CellsOf P t e z) (kl kc : IntKind) (n : Nat) (hn : n ≤ 1000000) :
    ∃ w', (Instr.makeSlice t (.int kl (n : Int)) (.int kc (n : Int))).run P w = .ok (.slice (some ⟨w.heap.size, 0, none⟩) n n) w' ∧ Own w' w.heap.size e (.slice (some ⟨w.heap.size, 0, none⟩) n n) (List.replicate n z) ∧ Below w.heap.size w w' := by
  obtain ⟨i0, hi, hz0, hz1, hz2⟩ := hC.get
  obtain ⟨w', h1, h2, h3⟩ := run_make_full (P := P) w w.heap.size t e i0 z 1 hC.sl hi hz0 hz1 kl kc n (by have := Nat.mul_le_mul_right n hz2; omega) (by unfold maxLen; omega) (Nat.le_refl _)
  refine ⟨w', h1, ?_, (Below.refl _ w).grown h3 (Nat.le_refl _) (fun k hk => by cases hk)⟩
  rw [hC.one, toList_madeCells_one, Nat.mul_one] at h2
  unfold Own
  rw [List.length_replicate]
  exact h2
theorem wp_append1 {o : Oper} {a : Act} {K : Act → World → Prop} {Q : Exit → Act → World → Prop} {s x : Operand} {t e : TypeId} {z : Value}
    (ho : o.op = .call { callee := .builtin .append, args := #[s, x], argTypes := #[t, t] })
    (hC : CellsOf P t e z) (base : Nat) (v : Value) (l : List Value) (hs : a.eval s = v) (hown : Own w base e v l)
    (g c : Nat) (u : Value) (hx : a.eval x = .slice (some ⟨g, 0, none⟩) 1 c) (hr : row w g = #[u]) (hu : u.oneCell' = true)
    (hn : l.length + 1 ≤ 1000000) (hbase : base ≤ w.heap.size)
    (h : ∀ v' w', Own w' base e v' (l ++ [u]) → Below base w w' → K (a.put o.dst v') w') : o.wp P a w K Q := by
  obtain ⟨i0, hi, hz0, hz1, hz2⟩ := hC.get
  refine wp_append_own _ s x t ho base e i0 _ 1 _ hC.sl hi hz0 hz1 rfl (by rw [hC.one]; rfl) (by decide) v l.length l hs hown ⟨g, 0, none⟩ 1 c [u] hx rfl ?_ ?_ ?_ ?_ hbase ?_
  · intro j y hj
    match j, hj with
    | 0, hj =>
      simp at hj
      subst hj
      have : (⟨g, 0, none⟩ : Addr).add 0 = ⟨g, 0, none⟩ := by simp [Addr.add]
      rw [this, cell_of_row' (by rw [hr]; simp), hr]
      rfl
  · intro y hy; simp at hy; subst hy; exact hu
  · unfold maxLen; omega
  · have := Nat.mul_le_mul_left (l.length + 1) hz2
    omega
  · intro v' w' h1 h2 _
    refine h v' w' ?_ ((Below.refl base w).grown h2 (by omega) fun k hk => (World.ownsRow.lt hown k hk).1)
    unfold Own
    simpa using h1
end
def n64s (l : List Nat) : List Value := l.map fun n : Nat => Value.int .i64 (n : Int)
@[simp] theorem n64s_length (l : List Nat) : (n64s l).length = l.length := by simp [n64s]
@[simp] theorem ones_n64s (l : List Nat) : ones (n64s l) = true := by simp [ones, n64s, Value.oneCell']
theorem one_n64s (l : List Nat) : ∀ u ∈ n64s l, u.oneCell' = true := by
  intro u hu
  obtain ⟨n, _, rfl⟩ := List.mem_map.1 hu
  rfl
@[simp] theorem n64s_get (l : List Nat) (i : Nat) (h : i < (n64s l).length) : (n64s l)[i] = .int .i64 ((l[i]'(by simpa using h) : Nat) : Int) := by simp [n64s]
@[simp] theorem n64s_set (l : List Nat) (i : Nat) (n : Nat) : (n64s l).set i (.int .i64 (n : Int)) = n64s (l.set i n) := by simp [n64s, List.map_set]
theorem n64s_append (l m : List Nat) : n64s (l ++ m) = n64s l ++ n64s m := by simp [n64s]
theorem n64s_take (l : List Nat) (n : Nat) : (n64s l).take n = n64s (l.take n) := by simp [n64s, List.map_take]
theorem Own.ints {w : World} {B e : Nat} {v : Value} {l : List Nat} (h : Own w B e v (n64s l)) (hn : 0 < l.length) :
    ∃ g c s, v = .slice (some ⟨g, 0, none⟩) l.length c ∧ l.length ≤ c ∧ B ≤ g ∧ g < w.heap.size ∧ row w g = (n64s l ++ s).toArray := by
  obtain ⟨g, sp, hv, hg, hz, s, _, hr⟩ := Own.cells h (by intro h0; have : (n64s l).length = 0 := by rw [h0]; rfl
                                                          rw [n64s_length] at this; omega)
  rw [n64s_length] at hv
  exact ⟨g, l.length + sp, s, hv, by omega, hg, hz, hr⟩
theorem Own.intsAt {w : World} {B e g n c : Nat} {l : List Nat} (h : Own w B e (.slice (some ⟨g, 0, none⟩) n c) (n64s l)) (hn : 0 < l.length) :
    ∃ s, row w g = (n64s l ++ s).toArray ∧ g < w.heap.size ∧ B ≤ g ∧ n = l.length ∧ l.length ≤ c := by
  obtain ⟨g', c', s, hv, h1, h2, h3, h4⟩ := h.ints hn
  cases hv
  exact ⟨s, h4, h3, h2, rfl, h1⟩
theorem Own.setInts {w : World} {B e g n c : Nat} {l : List Nat} {s : List Value} (h : Own w B e (.slice (some ⟨g, 0, none⟩) n c) (n64s l)) (hr : row w g = (n64s l ++ s).toArray) (j : Nat) (hj : j < l.length) (x : Nat) :
    Own (w.setRow g (n64s (l.set j x) ++ s).toArray) B e (.slice (some ⟨g, 0, none⟩) n c) (n64s (l.set j x)) := by
  have := h.set (u := .int .i64 (x : Int)) hr (by simpa using hj)
  rwa [n64s_set] at this
theorem Own.cut {w : World} {B e g n c m : Nat} {l : List Value} (h : Own w B e (.slice (some ⟨g, 0, none⟩) n c) l) (hm : m ≤ l.length) :
    Own w B e (.slice (some ⟨g, 0, none⟩) m c) (l.take m) := by
  obtain ⟨hl, ⟨h0, _⟩ | ⟨g', cap, cur, h1, hg0, hg, hnc, hmx, hc, ht⟩⟩ := h
  · cases h0
  · cases h1
    have hlen : (l.take m).length = m := by rw [List.length_take]; omega
    refine ⟨by rw [hlen]; omega, .inr ⟨g, c, cur, by rw [hlen], hg0, hg, by rw [hlen]; omega, hmx, hc, ?_⟩⟩
    rw [hlen, Nat.mul_one]
    rw [Nat.mul_one] at ht
    conv => rhs; rw [← ht]
    rw [List.take_take, Nat.min_eq_left hm]
def sliceLen : Value → Nat
  | .slice _ n _ => n
  | _ => 0
theorem Own.len {w : World} {B e : Nat} {v : Value} {l : List Value} (h : Own w B e v l) : sliceLen v = l.length := by
  obtain ⟨hl, ⟨rfl, h0⟩ | ⟨g', cap, cur, rfl, _⟩⟩ := h
  · exact h0.symm
  · rfl
theorem set_left (l m : List Value) (i : Nat) (v : Value) (h : i < l.length) : (l ++ m).set i v = l.set i v ++ m := by
  rw [List.set_append]
  simp [h]
end
section
open Go.RowKit
def valB : List Nat → Nat
 | [] => 0
 | a :: l => a + 256 * valB l
def Dig (l : List Nat) : Prop := ∀ x ∈ l, x < 256
theorem valB_append (l m : List Nat) : valB (l ++ m) = valB l + 256 ^ l.length * valB m := by
 induction l with
 | nil => simp [valB]
 | cons a l ih =>
  rw [List.cons_append, valB, valB, ih, List.length_cons, Nat.pow_succ]
  rw [Nat.mul_add, ← Nat.mul_assoc, Nat.mul_comm 256 (256 ^ l.length)]
  omega
theorem valB_snoc (l : List Nat) (x : Nat) : valB (l ++ [x]) = valB l + 256 ^ l.length * x := by
 rw [valB_append]
 simp [valB]
theorem valB_set (l : List Nat) (i x : Nat) (h : i < l.length) : valB (l.set i x) + 256 ^ i * l[i] = valB l + 256 ^ i * x := by
 induction l generalizing i with
 | nil => simp at h
 | cons a l ih =>
  cases i with
  | zero => simp [valB]; omega
  | succ i =>
   have := ih i (by simpa using h)
   simp only [List.set_cons_succ, valB, List.getElem_cons_succ, Nat.pow_succ]
   rw [Nat.mul_comm (256 ^ i) 256, Nat.mul_assoc, Nat.mul_assoc]
   omega
theorem valB_zeros (n : Nat) : valB (List.replicate n 0) = 0 := by
 induction n with
 | zero => rfl
 | succ n ih => rw [List.replicate_succ, valB, ih]
theorem valB_lt (l : List Nat) (h : Dig l) : valB l < 256 ^ l.length := by
 induction l with
 | nil => simp [valB]
 | cons a l ih =>
  have h1 := ih fun x hx => h x (List.mem_cons_of_mem _ hx)
  have h2 := h a (List.mem_cons_self ..)
  rw [valB, List.length_cons, Nat.pow_succ]
  omega
theorem valB_parts (l : List Nat) (n : Nat) (h : n ≤ l.length) : valB l = valB (l.take n) + 256 ^ n * valB (l.drop n) := by
 conv => lhs; rw [← List.take_append_drop n l, valB_append]
 rw [List.length_take, Nat.min_eq_left h]
theorem valB_take_succ (l : List Nat) (n : Nat) : valB (l.take (n + 1)) = valB (l.take n) + 256 ^ n * l.getD n 0 := by
 rcases Nat.lt_or_ge n l.length with h | h
 ·
  rw [List.take_succ_eq_append_getElem h, valB_snoc, List.length_take, Nat.min_eq_left (by omega), List.getD_eq_getElem?_getD, List.getElem?_eq_getElem h]
  rfl
 ·
  rw [List.take_of_length_le (by omega), List.take_of_length_le (by omega), List.getD_eq_getElem?_getD, List.getElem?_eq_none (by omega)]
  simp
theorem Dig.nil : Dig [] := by intro x hx; cases hx
theorem Dig.append {l m : List Nat} (h : Dig l) (k : Dig m) : Dig (l ++ m) := by
 intro x hx
 rcases List.mem_append.1 hx with hx | hx
 ·
  exact h x hx
 ·
  exact k x hx
theorem Dig.one {x : Nat} (h : x < 256) : Dig [x] := by
 intro y hy
 rw [List.mem_singleton.1 hy]
 exact h
theorem Dig.snoc {l : List Nat} (h : Dig l) {x : Nat} (hx : x < 256) : Dig (l ++ [x]) := h.append (Dig.one hx)
theorem Dig.set {l : List Nat} (h : Dig l) (i : Nat) {x : Nat} (hx : x < 256) : Dig (l.set i x) := by
 intro y hy
 rcases List.mem_or_eq_of_mem_set hy with h1 | rfl
 ·
  exact h y h1
 ·
  exact hx
theorem Dig.take {l : List Nat} (h : Dig l) (n : Nat) : Dig (l.take n) := fun x hx => h x (List.mem_of_mem_take hx)
theorem Dig.drop {l : List Nat} (h : Dig l) (n : Nat) : Dig (l.drop n) := fun x hx => h x (List.mem_of_mem_drop hx)
theorem Dig.zeros (n : Nat) : Dig (List.replicate n 0) := by
 intro x hx
 rw [(List.mem_replicate.1 hx).2]
 decide
theorem Dig.get {l : List Nat} (h : Dig l) (i : Nat) (hi : i < l.length) : l[i] < 256 := h _ (List.getElem_mem hi)
theorem Dig.getD {l : List Nat} (h : Dig l) (i : Nat) : l.getD i 0 < 256 := by
 rcases Nat.lt_or_ge i l.length with h1 | h1
 ·
  rw [List.getD_eq_getElem?_getD, List.getElem?_eq_getElem h1]
  exact h.get i h1
 ·
  rw [List.getD_eq_getElem?_getD, List.getElem?_eq_none (by omega)]
  decide
theorem getD_at (l : List Nat) (i : Nat) (h : i < l.length) : l.getD i 0 = l[i] := by simp [List.getD_eq_getElem?_getD, h]
theorem getD_past (l : List Nat) (i : Nat) (h : l.length ≤ i) : l.getD i 0 = 0 := by simp [List.getD_eq_getElem?_getD, h]
theorem carry_snoc (l : List Nat) (n k x y A B : Nat) (hl : l.length = n) (h : valB l + 256 ^ n * k = A + B) :
  valB (l ++ [(k + x + y) % 256]) + 256 ^ (n + 1) * ((k + x + y) / 256) = (A + 256 ^ n * x) + (B + 256 ^ n * y) := by
 rw [valB_snoc, hl, Nat.pow_succ]
 generalize 256 ^ n = p at *
 have h1 : p * (k + x + y) = p * ((k + x + y) % 256) + p * 256 * ((k + x + y) / 256) := by
  rw [Nat.mul_assoc, ← Nat.mul_add, Nat.mod_add_div]
 rw [Nat.mul_add, Nat.mul_add] at h1
 omega
theorem times_step (l : List Nat) (n m c x y V A q : Nat) (h : n + m < l.length) (hq : c + l[n + m] + x * y = q) (hv : valB l + 256 ^ (n + m) * c = V + 256 ^ n * (x * A)) :
  valB (l.set (n + m) (q % 256)) + 256 ^ (n + (m + 1)) * (q / 256) = V + 256 ^ n * (x * (A + 256 ^ m * y)) := by
 have hs := valB_set l (n + m) (q % 256) h
 have e1 : 256 ^ (n + (m + 1)) * (q / 256) = 256 ^ (n + m) * (256 * (q / 256)) := by
  rw [← Nat.add_assoc, Nat.pow_succ, Nat.mul_assoc]
 have e2 : 256 ^ (n + m) * (q % 256) + 256 ^ (n + m) * (256 * (q / 256)) = 256 ^ (n + m) * q := by
  rw [← Nat.mul_add, Nat.mod_add_div]
 have e3 : 256 ^ n * (x * (A + 256 ^ m * y)) = 256 ^ n * (x * A) + 256 ^ (n + m) * (x * y) := by
  rw [Nat.mul_add, Nat.mul_add, Nat.pow_add]
  congr 1
  rw [Nat.mul_left_comm x, Nat.mul_assoc]
 have e4 : 256 ^ (n + m) * q = 256 ^ (n + m) * c + 256 ^ (n + m) * l[n + m] + 256 ^ (n + m) * (x * y) := by
  rw [← hq, Nat.mul_add, Nat.mul_add]
 rw [e1, e3]
 omega
theorem times_end (l : List Nat) (k c V : Nat) (h : k < l.length) (h0 : l[k] = 0) (hv : valB l + 256 ^ k * c = V) : valB (l.set k c) = V := by
 have hs := valB_set l k c h
 rw [h0] at hs
 omega
theorem getD_setN (l : List Nat) (i j v : Nat) (h : i < l.length) : (l.set i v).getD j 0 = if i = j then v else l.getD j 0 := by
 by_cases hij : i = j
 ·
  subst hij
  simp [List.getD_eq_getElem?_getD, h]
 ·
  simp [List.getD_eq_getElem?_getD, hij]
theorem modt (q d : Nat) (h : q % 256 = d) : (q : Int) % 256 = (d : Int) ∧ (q : Int).tmod 256 = (d : Int) := by
 refine ⟨by omega, ?_⟩
 rw [Int.tmod_eq_emod_of_nonneg (by omega)]
 omega
theorem divt (q d : Nat) (h : q / 256 = d) : (q : Int) / 256 = (d : Int) ∧ (q : Int).tdiv 256 = (d : Int) := by
 refine ⟨by omega, ?_⟩
 rw [Int.tdiv_eq_ediv_of_nonneg (by omega)]
 omega
theorem wrapN (x : Int) (n : Nat) (h : x = (n : Int)) (hn : n < 4611686018427387904) : IntKind.i64.wrap x = (n : Int) := by
 rw [wraps_i64 _ (by omega) (by omega)]
 exact h
end
section
instance Tryz.cellsInts : CellsOf Tryz.prog 103 3 (.int .i64 0) := ⟨Tryz.underlying103, by kernel_rfl, rfl⟩
end
section
instance Tryz.cellsBytes : CellsOf Tryz.prog 113 5 (.int .u8 0) := ⟨Tryz.underlying113, by kernel_rfl, rfl⟩
end
end Go.Proofs.YtakkicppgkmokaaGreat
