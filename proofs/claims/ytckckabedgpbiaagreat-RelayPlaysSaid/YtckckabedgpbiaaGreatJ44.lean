/- Texts of this proof, merged: Byt, Own, OwnI. -/
import Derived.Test.YtckckabedgpbiaaGreatRegJ
import Derived.Test.YtckckabedgpbiaaGreatJ3
import Derived.Laws.BitsAllLaws
import Derived.Lib.EndianBits
import Derived.Laws.OwnMore
set_option linter.unusedSimpArgs false
set_option linter.unusedVariables false
namespace Go.Proofs.YtckckabedgpbiaaGreat
section
open Go.RowKit
@[simp] theorem u8s_get (l : List UInt8) (i : Nat) (h : i < (u8s l).length) : (u8s l)[i] = .int .u8 ((l[i]'(by simpa using h)).toNat : Int) := by simp [u8s]
@[simp] theorem fits_u8s {n : Nat} (a : List UInt8) (h : a.length = n) : fits (leaves n (.int .u8)) (u8s a) = true := by
 have := fits_u8v (n := n) ⟨a.toArray, by simpa using h⟩ [] []
 simp only [List.append_nil] at this
 exact this
@[simp] theorem ceq_u8s' (a b : List UInt8) (h : a.length = b.length) : ceq (u8s a) (u8s b) = (a == b) := ceq_u8s a b h
end
section
open Go.RowKit
class CellsOf (P : Program) (t : TypeId) (e : outParam TypeId) (z : outParam Value) : Prop where
  sl : P.underlying t = some (.slice e)
  info : (P.info? e).map (fun i => (i.zero, i.size, decide (i.bytes ≤ 8))) = some (some z, 1, true)
  one : z.cells = #[z]
theorem CellsOf.get {P : Program} {t e : TypeId} {z : Value} (h : CellsOf P t e z) : ∃ i, P.info? e = some i ∧ i.zero = some z ∧ i.size = 1 ∧ i.bytes ≤ 8 := by
  have := h.info
  cases hi : P.info? e with
  | none => rw [hi] at this; simp at this
  | some i =>
    rw [hi] at this
    simp at this
    exact ⟨i, rfl, this.1, this.2.1, this.2.2⟩
def Own (w : World) (B e : Nat) (v : Value) (l : List Value) : Prop := w.ownsRow B e 1 v l.length l
section
variable {w w' : World} {B e : Nat} {v : Value} {l : List Value}
theorem Own.nil : Own w B e (.slice none 0 0) [] := World.ownsRow_nil _ _ _ _
theorem Own.below (h : Own w B e v l) (hb : Below w.heap.size w w') : Own w' B e v l := by
  obtain ⟨hl, ⟨rfl, h0⟩ | ⟨g, cap, cur, rfl, hg0, hg, hr⟩⟩ := h
  · exact ⟨hl, .inl ⟨rfl, h0⟩⟩
  · refine ⟨hl, .inr ⟨g, cap, cur, rfl, hg0, ?_, hr⟩⟩
    rw [hb.block g ?_]
    · exact hg
    · rcases Nat.lt_or_ge g w.heap.size with h1 | h1
      · exact h1
      · rw [Array.getElem?_eq_none h1] at hg
        cases hg
theorem Own.alloc (h : Own w B e v l) (o : Obj) : Own (w.alloc o) B e v l := World.ownsRow.alloc h o
theorem Own.drew (h : Own w B e v l) : Own w.drew B e v l := h.below (Below.drew (Below.refl _ _))
theorem Own.lower {A : Nat} (h : Own w B e v l) (ha : A ≤ B) : Own w A e v l := by
  obtain ⟨hl, h0 | ⟨g, cap, cur, rfl, hg0, hr⟩⟩ := h
  · exact ⟨hl, .inl h0⟩
  · exact ⟨hl, .inr ⟨g, cap, cur, rfl, by omega, hr⟩⟩
theorem Own.cells (h : Own w B e v l) (hn : l ≠ []) : ∃ g sp, v = .slice (some ⟨g, 0, none⟩) l.length (l.length + sp) ∧ B ≤ g ∧ g < w.heap.size ∧ ∃ s : List Value, s.length = sp ∧ row w g = (l ++ s).toArray := by
  obtain ⟨hl, ⟨rfl, h0⟩ | ⟨g, cap, cur, rfl, hg0, hg, hnc, hm, hc, ht⟩⟩ := h
  · exact absurd (List.eq_nil_of_length_eq_zero h0) hn
  · refine ⟨g, cap - l.length, by congr 1; omega, hg0, ?_, cur.toList.drop l.length, by simp; omega, ?_⟩
    · rcases Nat.lt_or_ge g w.heap.size with h1 | h1
      · exact h1
      · rw [Array.getElem?_eq_none h1] at hg
        cases hg
    · unfold row
      rw [hg]
      apply Array.ext'
      simp only [if_true, true_or]
      rw [Nat.mul_one] at ht
      conv => lhs; rw [← List.take_append_drop l.length cur.toList, ht]
theorem Own.set {g n c j : Nat} {u : Value} {s : List Value} (h : Own w B e (.slice (some ⟨g, 0, none⟩) n c) l) (hr : row w g = (l ++ s).toArray) (hj : j < l.length) :
    Own (w.setRow g (l.set j u ++ s).toArray) B e (.slice (some ⟨g, 0, none⟩) n c) (l.set j u) := by
  obtain ⟨hl, ⟨h0, _⟩ | ⟨g', cap, cur, h1, hg0, hg, hnc, hm, hc, ht⟩⟩ := h
  · cases h0
  · cases h1
    have hrow : row w g = cur := by unfold row; rw [hg]; simp
    rw [hrow] at hr
    refine ⟨by simp, .inr ⟨g, c, (l.set j u ++ s).toArray, by rw [List.length_set], hg0, setRow_heap w g cur _ e _ hg, by rw [List.length_set]; exact hnc, hm, ?_, ?_⟩⟩
    · rw [← hc, hr]; simp
    · simp
theorem Own.full {g n : Nat} (h : Own w B e (.slice (some ⟨g, 0, none⟩) n n) l) : row w g = l.toArray ∧ g < w.heap.size ∧ l.length = n := by
  obtain ⟨hl, ⟨h0, _⟩ | ⟨g', cap, cur, h1, hg0, hg, hnc, hm, hc, ht⟩⟩ := h
  · cases h0
  · cases h1
    refine ⟨?_, ?_, rfl⟩
    · unfold row
      rw [hg]
      apply Array.ext'
      simp only [if_true, true_or]
      rw [List.take_of_length_le (by simp; omega)] at ht
      exact ht
    · rcases Nat.lt_or_ge g w.heap.size with h1 | h1
      · exact h1
      · rw [Array.getElem?_eq_none h1] at hg
        cases hg
end
section
variable {P : Program} {w : World}
theorem make_own {t e : TypeId} {z : Value} (hC : CellsOf P t e z) (kl kc : IntKind) (n : Nat) (hn : n ≤ 1000000) :
    ∃ w', (Instr.makeSlice t (.int kl (n : Int)) (.int kc (n : Int))).run P w = .ok (.slice (some ⟨w.heap.size, 0, none⟩) n n) w' ∧ Own w' w.heap.size e (.slice (some ⟨w.heap.size, 0, none⟩) n n) (List.replicate n z) ∧ Below w.heap.size w w' := by
  obtain ⟨i0, hi, hz0, hz1, hz2⟩ := hC.get
  obtain ⟨w', h1, h2, h3⟩ := run_make_full (P := P) w w.heap.size t e i0 z 1 hC.sl hi hz0 hz1 kl kc n (by have := Nat.mul_le_mul_right n hz2; omega) (by unfold maxLen; omega) (Nat.le_refl _)
  refine ⟨w', h1, ?_, (Below.refl _ w).grown h3 (Nat.le_refl _) (fun k hk => by cases hk)⟩
  rw [hC.one, toList_madeCells_one, Nat.mul_one] at h2
  unfold Own
  rw [List.length_replicate]
  exact h2
end
def n64s (l : List Nat) : List Value := l.map fun n : Nat => Value.int .i64 (n : Int)
@[simp] theorem n64s_length (l : List Nat) : (n64s l).length = l.length := by simp [n64s]
@[simp] theorem ones_n64s (l : List Nat) : ones (n64s l) = true := by simp [ones, n64s, Value.oneCell']
@[simp] theorem n64s_get (l : List Nat) (i : Nat) (h : i < (n64s l).length) : (n64s l)[i] = .int .i64 ((l[i]'(by simpa using h) : Nat) : Int) := by simp [n64s]
@[simp] theorem n64s_set (l : List Nat) (i : Nat) (n : Nat) : (n64s l).set i (.int .i64 (n : Int)) = n64s (l.set i n) := by simp [n64s, List.map_set]
theorem Own.ints {w : World} {B e : Nat} {v : Value} {l : List Nat} (h : Own w B e v (n64s l)) (hn : 0 < l.length) :
    ∃ g c s, v = .slice (some ⟨g, 0, none⟩) l.length c ∧ l.length ≤ c ∧ B ≤ g ∧ g < w.heap.size ∧ row w g = (n64s l ++ s).toArray := by
  obtain ⟨g, sp, hv, hg, hz, s, _, hr⟩ := Own.cells h (by intro h0; have : (n64s l).length = 0 := by rw [h0]; rfl
                                                          rw [n64s_length] at this; omega)
  rw [n64s_length] at hv
  exact ⟨g, l.length + sp, s, hv, by omega, hg, hz, hr⟩
theorem Own.cut {w : World} {B e g n c m : Nat} {l : List Value} (h : Own w B e (.slice (some ⟨g, 0, none⟩) n c) l) (hm : m ≤ l.length) :
    Own w B e (.slice (some ⟨g, 0, none⟩) m c) (l.take m) := by
  obtain ⟨hl, ⟨h0, _⟩ | ⟨g', cap, cur, h1, hg0, hg, hnc, hmx, hc, ht⟩⟩ := h
  · cases h0
  · cases h1
    have hlen : (l.take m).length = m := by rw [List.length_take]; omega
    refine ⟨by rw [hlen]; omega, .inr ⟨g, c, cur, by rw [hlen], hg0, hg, by rw [hlen]; omega, hmx, hc, ?_⟩⟩
    rw [hlen, Nat.mul_one]
    rw [Nat.mul_one] at ht
    conv => rhs; rw [← ht]
    rw [List.take_take, Nat.min_eq_left hm]
def sliceLen : Value → Nat
  | .slice _ n _ => n
  | _ => 0
theorem Own.len {w : World} {B e : Nat} {v : Value} {l : List Value} (h : Own w B e v l) : sliceLen v = l.length := by
  obtain ⟨hl, ⟨rfl, h0⟩ | ⟨g', cap, cur, rfl, _⟩⟩ := h
  · exact h0.symm
  · rfl
end
section
instance Tryz.cellsInts : CellsOf Tryz.prog 57 3 (.int .i64 0) := ⟨Tryz.underlying57, by kernel_rfl, rfl⟩
end
end Go.Proofs.YtckckabedgpbiaaGreat
