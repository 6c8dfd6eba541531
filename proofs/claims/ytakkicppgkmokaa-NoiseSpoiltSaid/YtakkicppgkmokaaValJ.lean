/- Numbers of bytes, the lowest first. No program in sight. -/
import Derived.Test.YtakkicppgkmokaaJ9
set_option linter.unusedSimpArgs false
set_option linter.unusedVariables false
namespace Go.Proofs.Ytakkicppgkmokaa
open Go.RowKit
/-- a number of digits -/
def valB : List Nat → Nat
  | [] => 0
  | a :: l => a + 256 * valB l
def Dig (l : List Nat) : Prop := ∀ x ∈ l, x < 256
theorem valB_append (l m : List Nat) : valB (l ++ m) = valB l + 256 ^ l.length * valB m := by
  induction l with
  | nil => simp [valB]
  | cons a l ih =>
    rw [List.cons_append, valB, valB, ih, List.length_cons, Nat.pow_succ]
    rw [Nat.mul_add, ← Nat.mul_assoc, Nat.mul_comm 256 (256 ^ l.length)]
    omega
theorem valB_snoc (l : List Nat) (x : Nat) : valB (l ++ [x]) = valB l + 256 ^ l.length * x := by
  rw [valB_append]
  simp [valB]
theorem valB_set (l : List Nat) (i x : Nat) (h : i < l.length) : valB (l.set i x) + 256 ^ i * l[i] = valB l + 256 ^ i * x := by
  induction l generalizing i with
  | nil => simp at h
  | cons a l ih =>
    cases i with
    | zero => simp [valB]; omega
    | succ i =>
      have := ih i (by simpa using h)
      simp only [List.set_cons_succ, valB, List.getElem_cons_succ, Nat.pow_succ]
      rw [Nat.mul_comm (256 ^ i) 256, Nat.mul_assoc, Nat.mul_assoc]
      omega
theorem valB_zeros (n : Nat) : valB (List.replicate n 0) = 0 := by
  induction n with
  | zero => rfl
  | succ n ih => rw [List.replicate_succ, valB, ih]
theorem valB_lt (l : List Nat) (h : Dig l) : valB l < 256 ^ l.length := by
  induction l with
  | nil => simp [valB]
  | cons a l ih =>
    have h1 := ih fun x hx => h x (List.mem_cons_of_mem _ hx)
    have h2 := h a (List.mem_cons_self ..)
    rw [valB, List.length_cons, Nat.pow_succ]
    omega
theorem valB_parts (l : List Nat) (n : Nat) (h : n ≤ l.length) : valB l = valB (l.take n) + 256 ^ n * valB (l.drop n) := by
  conv => lhs; rw [← List.take_append_drop n l, valB_append]
  rw [List.length_take, Nat.min_eq_left h]
theorem valB_take_succ (l : List Nat) (n : Nat) : valB (l.take (n + 1)) = valB (l.take n) + 256 ^ n * l.getD n 0 := by
  rcases Nat.lt_or_ge n l.length with h | h
  · rw [List.take_succ_eq_append_getElem h, valB_snoc, List.length_take, Nat.min_eq_left (by omega), List.getD_eq_getElem?_getD, List.getElem?_eq_getElem h]
    rfl
  · rw [List.take_of_length_le (by omega), List.take_of_length_le (by omega), List.getD_eq_getElem?_getD, List.getElem?_eq_none (by omega)]
    simp
theorem Dig.nil : Dig [] := by intro x hx; cases hx
theorem Dig.append {l m : List Nat} (h : Dig l) (k : Dig m) : Dig (l ++ m) := by
  intro x hx
  rcases List.mem_append.1 hx with hx | hx
  · exact h x hx
  · exact k x hx
theorem Dig.one {x : Nat} (h : x < 256) : Dig [x] := by
  intro y hy
  rw [List.mem_singleton.1 hy]
  exact h
theorem Dig.snoc {l : List Nat} (h : Dig l) {x : Nat} (hx : x < 256) : Dig (l ++ [x]) := h.append (Dig.one hx)
theorem Dig.set {l : List Nat} (h : Dig l) (i : Nat) {x : Nat} (hx : x < 256) : Dig (l.set i x) := by
  intro y hy
  rcases List.mem_or_eq_of_mem_set hy with h1 | rfl
  · exact h y h1
  · exact hx
theorem Dig.take {l : List Nat} (h : Dig l) (n : Nat) : Dig (l.take n) := fun x hx => h x (List.mem_of_mem_take hx)
theorem Dig.drop {l : List Nat} (h : Dig l) (n : Nat) : Dig (l.drop n) := fun x hx => h x (List.mem_of_mem_drop hx)
theorem Dig.zeros (n : Nat) : Dig (List.replicate n 0) := by
  intro x hx
  rw [(List.mem_replicate.1 hx).2]
  decide
theorem Dig.get {l : List Nat} (h : Dig l) (i : Nat) (hi : i < l.length) : l[i] < 256 := h _ (List.getElem_mem hi)
theorem Dig.getD {l : List Nat} (h : Dig l) (i : Nat) : l.getD i 0 < 256 := by
  rcases Nat.lt_or_ge i l.length with h1 | h1
  · rw [List.getD_eq_getElem?_getD, List.getElem?_eq_getElem h1]
    exact h.get i h1
  · rw [List.getD_eq_getElem?_getD, List.getElem?_eq_none (by omega)]
    decide
theorem getD_at (l : List Nat) (i : Nat) (h : i < l.length) : l.getD i 0 = l[i] := by simp [List.getD_eq_getElem?_getD, h]
theorem getD_past (l : List Nat) (i : Nat) (h : l.length ≤ i) : l.getD i 0 = 0 := by simp [List.getD_eq_getElem?_getD, h]
/-- a digit more, the rest carried -/
theorem carry_snoc (l : List Nat) (n k x y A B : Nat) (hl : l.length = n) (h : valB l + 256 ^ n * k = A + B) :
    valB (l ++ [(k + x + y) % 256]) + 256 ^ (n + 1) * ((k + x + y) / 256) = (A + 256 ^ n * x) + (B + 256 ^ n * y) := by
  rw [valB_snoc, hl, Nat.pow_succ]
  generalize 256 ^ n = p at *
  have h1 : p * (k + x + y) = p * ((k + x + y) % 256) + p * 256 * ((k + x + y) / 256) := by
    rw [Nat.mul_assoc, ← Nat.mul_add, Nat.mod_add_div]
  rw [Nat.mul_add, Nat.mul_add] at h1
  omega
/-- a digit of a product more, the rest carried -/
theorem times_step (l : List Nat) (n m c x y V A q : Nat) (h : n + m < l.length) (hq : c + l[n + m] + x * y = q) (hv : valB l + 256 ^ (n + m) * c = V + 256 ^ n * (x * A)) :
    valB (l.set (n + m) (q % 256)) + 256 ^ (n + (m + 1)) * (q / 256) = V + 256 ^ n * (x * (A + 256 ^ m * y)) := by
  have hs := valB_set l (n + m) (q % 256) h
  have e1 : 256 ^ (n + (m + 1)) * (q / 256) = 256 ^ (n + m) * (256 * (q / 256)) := by
    rw [← Nat.add_assoc, Nat.pow_succ, Nat.mul_assoc]
  have e2 : 256 ^ (n + m) * (q % 256) + 256 ^ (n + m) * (256 * (q / 256)) = 256 ^ (n + m) * q := by
    rw [← Nat.mul_add, Nat.mod_add_div]
  have e3 : 256 ^ n * (x * (A + 256 ^ m * y)) = 256 ^ n * (x * A) + 256 ^ (n + m) * (x * y) := by
    rw [Nat.mul_add, Nat.mul_add, Nat.pow_add]
    congr 1
    rw [Nat.mul_left_comm x, Nat.mul_assoc]
  have e4 : 256 ^ (n + m) * q = 256 ^ (n + m) * c + 256 ^ (n + m) * l[n + m] + 256 ^ (n + m) * (x * y) := by
    rw [← hq, Nat.mul_add, Nat.mul_add]
  rw [e1, e3]
  omega
theorem times_end (l : List Nat) (k c V : Nat) (h : k < l.length) (h0 : l[k] = 0) (hv : valB l + 256 ^ k * c = V) : valB (l.set k c) = V := by
  have hs := valB_set l k c h
  rw [h0] at hs
  omega
theorem getD_setN (l : List Nat) (i j v : Nat) (h : i < l.length) : (l.set i v).getD j 0 = if i = j then v else l.getD j 0 := by
  by_cases hij : i = j
  · subst hij
    simp [List.getD_eq_getElem?_getD, h]
  · simp [List.getD_eq_getElem?_getD, hij]
theorem modt (q d : Nat) (h : q % 256 = d) : (q : Int) % 256 = (d : Int) ∧ (q : Int).tmod 256 = (d : Int) := by
  refine ⟨by omega, ?_⟩
  rw [Int.tmod_eq_emod_of_nonneg (by omega)]
  omega
theorem divt (q d : Nat) (h : q / 256 = d) : (q : Int) / 256 = (d : Int) ∧ (q : Int).tdiv 256 = (d : Int) := by
  refine ⟨by omega, ?_⟩
  rw [Int.tdiv_eq_ediv_of_nonneg (by omega)]
  omega
theorem wrapN (x : Int) (n : Nat) (h : x = (n : Int)) (hn : n < 4611686018427387904) : IntKind.i64.wrap x = (n : Int) := by
  rw [wraps_i64 _ (by omega) (by omega)]
  exact h
end Go.Proofs.Ytakkicppgkmokaa
