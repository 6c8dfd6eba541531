/- Texts of this proof, merged: Own, OwnI, Val, GrV, GrR, GrD, GrT, GrP, GrI. -/
import Derived.Test.YtfopoijikdmiaaaGreatDoorBytJ
import Derived.Laws.OwnMore
import Derived.Test.YtfopoijikdmiaaaGreatDoorJ2
import Derived.Lib.Hide
set_option linter.unusedSimpArgs false
set_option linter.unusedVariables false
set_option maxHeartbeats 8000000
set_option maxRecDepth 20000
namespace Go.Proofs.YtfopoijikdmiaaaGreatDoor
section
open Go.RowKit
class CellsOf (P : Program) (t : TypeId) (e : outParam TypeId) (z : outParam Value) : Prop where
 sl : P.underlying t = some (.slice e)
 info : (P.info? e).map (fun i => (i.zero, i.size, decide (i.bytes ≤ 8))) = some (some z, 1, true)
 one : z.cells = #[z]
theorem CellsOf.get {P : Program} {t e : TypeId} {z : Value} (h : CellsOf P t e z) : ∃ i, P.info? e = some i ∧ i.zero = some z ∧ i.size = 1 ∧ i.bytes ≤ 8 := by
 have := h.info
 cases hi : P.info? e with
 | none => rw [hi] at this; simp at this
 | some i =>
  rw [hi] at this
  simp at this
  exact ⟨i, rfl, this.1, this.2.1, this.2.2⟩
def Own (w : World) (B e : Nat) (v : Value) (l : List Value) : Prop := w.ownsRow B e 1 v l.length l
section
variable {w w' : World} {B e : Nat} {v : Value} {l : List Value}
theorem Own.full {g n : Nat} (h : Own w B e (.slice (some ⟨g, 0, none⟩) n n) l) : row w g = l.toArray ∧ g < w.heap.size ∧ l.length = n := by
 obtain ⟨hl, ⟨h0, _⟩ | ⟨g', cap, cur, h1, hg0, hg, hnc, hm, hc, ht⟩⟩ := h
 ·
  cases h0
 ·
  cases h1
  refine ⟨?_, ?_, rfl⟩
  ·
   unfold row
   rw [hg]
   apply Array.ext'
   simp only [if_true, true_or]
   rw [List.take_of_length_le (by simp; omega)] at ht
   exact ht
  ·
   rcases Nat.lt_or_ge g w.heap.size with h1 | h1
   ·
    exact h1
   ·
    rw [Array.getElem?_eq_none h1] at hg
    cases hg
end
section
variable {P : Program} {w : World}
theorem make_own {t e : TypeId} {z : Value} (hC : CellsOf P t e z) (kl kc : IntKind) (n : Nat) (hn : n ≤ 1000000) :
  ∃ w', (Instr.makeSlice t (.int kl (n : Int)) (.int kc (n : Int))).run P w = .ok (.slice (some ⟨w.heap.size, 0, none⟩) n n) w' ∧ Own w' w.heap.size e (.slice (some ⟨w.heap.size, 0, none⟩) n n) (List.replicate n z) ∧ Below w.heap.size w w' := by
 obtain ⟨i0, hi, hz0, hz1, hz2⟩ := hC.get
 obtain ⟨w', h1, h2, h3⟩ := run_make_full (P := P) w w.heap.size t e i0 z 1 hC.sl hi hz0 hz1 kl kc n (by have := Nat.mul_le_mul_right n hz2; omega) (by unfold maxLen; omega) (Nat.le_refl _)
 refine ⟨w', h1, ?_, (Below.refl _ w).grown h3 (Nat.le_refl _) (fun k hk => by cases hk)⟩
 rw [hC.one, toList_madeCells_one, Nat.mul_one] at h2
 unfold Own
 rw [List.length_replicate]
 exact h2
end
def n64s (l : List Nat) : List Value := l.map fun n : Nat => Value.int .i64 (n : Int)
@[simp] theorem n64s_length (l : List Nat) : (n64s l).length = l.length := by simp [n64s]
@[simp] theorem ones_n64s (l : List Nat) : ones (n64s l) = true := by simp [ones, n64s, Value.oneCell']
@[simp] theorem n64s_get (l : List Nat) (i : Nat) (h : i < (n64s l).length) : (n64s l)[i] = .int .i64 ((l[i]'(by simpa using h) : Nat) : Int) := by simp [n64s]
@[simp] theorem n64s_set (l : List Nat) (i : Nat) (n : Nat) : (n64s l).set i (.int .i64 (n : Int)) = n64s (l.set i n) := by simp [n64s, List.map_set]
end
section
instance Tryz.cellsInts : CellsOf Tryz.prog 55 3 (.int .i64 0) := ⟨Tryz.underlying55, by kernel_rfl, rfl⟩
end
section
set_option maxRecDepth 20000
end
section
set_option maxRecDepth 20000
end
section
set_option maxRecDepth 20000
end
section
set_option maxRecDepth 20000
end
section
set_option maxRecDepth 20000
end
section
set_option maxRecDepth 20000
end
section
set_option maxRecDepth 20000
end
end Go.Proofs.YtfopoijikdmiaaaGreatDoor
