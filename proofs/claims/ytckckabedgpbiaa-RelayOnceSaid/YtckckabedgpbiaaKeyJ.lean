/- Structs as keys of maps. No program in sight. -/
import Derived.Test.YtckckabedgpbiaaJ2
import Derived.Test.YtckckabedgpbiaaEqlJ
set_option linter.unusedSimpArgs false
set_option linter.unusedVariables false
namespace Go.Proofs.Ytckckabedgpbiaa
open Go.RowKit
def okA (ls : List Leaf) (k : Value) : Prop := ∃ xs : List Value, k = .agg xs.toArray ∧ fits ls xs = true
def sameA : Value → Value → Bool
 | .agg a, .agg b => ceq a.toList b.toList
 | _, _ => false
theorem ceq_eq : ∀ {ls : List Leaf} {xs ys : List Value}, fits ls xs = true → fits ls ys = true → ceq xs ys = true → xs = ys
 | [], [], [], _, _, _ => rfl
 | l :: ls, x :: xs, y :: ys, hx, hy, h => by
  simp only [fits, ceq, Bool.and_eq_true] at hx hy h
  obtain ⟨hx1, hx2⟩ := hx
  obtain ⟨hy1, hy2⟩ := hy
  obtain ⟨h1, h2⟩ := h
  rw [ceq_eq hx2 hy2 h2]
  congr 1
  cases l <;> cases x <;> cases y <;> simp_all [Leaf.ok, veq]
  exact ByteArray.ext (by
   rw [ByteArray.toList_eq, ByteArray.toList_eq] at h1
   exact Array.ext' h1)
 | [], _ :: _, _, hx, _, _ => by simp [fits] at hx
 | [], [], _ :: _, _, hy, _ => by simp [fits] at hy
 | _ :: _, [], _, hx, _, _ => by simp [fits] at hx
 | _ :: _, _ :: _, [], _, hy, _ => by simp [fits] at hy
theorem fits_cons {l : Leaf} {ls : List Leaf} {xs : List Value} (h : fits (l :: ls) xs = true) : ∃ x r, xs = x :: r ∧ l.ok x = true ∧ fits ls r = true := by
 cases xs with
 | nil => simp [fits] at h
 | cons x r =>
  simp only [fits, Bool.and_eq_true] at h
  exact ⟨x, r, rfl, h.1, h.2⟩
theorem fits_nil {xs : List Value} (h : fits [] xs = true) : xs = [] := by
 cases xs with
 | nil => rfl
 | cons x r => simp [fits] at h
theorem ok_int_inv {k : IntKind} {x : Value} (h : (Leaf.int k).ok x = true) : ∃ v, x = .int k v := by
 cases x <;> simp [Leaf.ok] at h
 exact ⟨_, by rw [h]⟩
theorem ok_str_inv {x : Value} (h : Leaf.str.ok x = true) : ∃ l : List UInt8, x = .string ⟨l.toArray⟩ := by
 cases x <;> simp [Leaf.ok] at h
 rename_i s
 exact ⟨s.data.toList, by simp⟩
theorem bits_all (n : Nat) : ∀ {ls : List Leaf} {xs : List Value}, fits ls xs = true → ((xs.zip xs).all fun (x, y) => Instr.sameBits (n + 1) x y) = true
 | [], [], _ => rfl
 | l :: ls, x :: xs, h => by
  simp only [fits, Bool.and_eq_true] at h
  simp only [List.zip_cons_cons, List.all_cons, Bool.and_eq_true]
  refine ⟨?_, bits_all n h.2⟩
  have h1 := h.1
  cases l <;> cases x <;> simp_all [Leaf.ok, Instr.sameBits]
  exact beq_self_eq_true (α := Array UInt8) _
 | [], _ :: _, h => by simp [fits] at h
 | _ :: _, [], h => by simp [fits] at h
theorem keyTy_struct {P : Program} {kt : TypeId} {ls : List Leaf} {fs : Array Field} [hC : PlainC P kt ls] (hu : P.underlying kt = some (.struct fs)) (hc : ∀ k, okA ls k → ∀ e w, (Instr.checkKey e 10000 kt k).run P w = .ok () w) :
  KeyTy P kt (okA ls) sameA where
 check := hc
 equal := by
  rintro _ _ ⟨xs, rfl, hx⟩ ⟨ys, rfl, hy⟩ w
  obtain ⟨D, hD, h⟩ := hC.plain
  have := h.eq 10000 w xs ys (by omega) hx hy
  simp only [mkV, if_true] at this
  exact this
 under := by
  refine ⟨_, hu, ?_⟩
  rintro _ _ ⟨xs, rfl, hx⟩ ⟨ys, rfl, hy⟩
  rfl
 eq := by
  rintro _ _ ⟨xs, rfl, hx⟩ ⟨ys, rfl, hy⟩ h
  rw [ceq_eq hx hy h]
 refl := by
  rintro _ ⟨xs, rfl, hx⟩
  exact ceq_refl hx
 bits := by
  rintro _ ⟨xs, rfl, hx⟩
  have := bits_all 9998 hx
  show (xs.toArray.size == xs.toArray.size && (xs.toArray.toList.zip xs.toArray.toList).all fun (x, y) => Instr.sameBits 9999 x y) = true
  simp only [beq_self_eq_true, Bool.true_and]
  exact this
end Go.Proofs.Ytckckabedgpbiaa
