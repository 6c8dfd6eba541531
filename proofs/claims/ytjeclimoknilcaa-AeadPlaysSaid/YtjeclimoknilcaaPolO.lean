/- Contracts of package poly: the number of a block. -/
import Derived.Test.YtjeclimoknilcaaPol
set_option linter.unusedSimpArgs false
set_option linter.unusedVariables false
namespace Go.Proofs.Ytjeclimoknilcaa
open Go.RowKit
def u64s (l : List Nat) : List Value := l.map fun n : Nat => Value.int .u64 (n : Int)
@[simp] theorem u64s_length (l : List Nat) : (u64s l).length = l.length := by simp [u64s]
@[simp] theorem ones_u64s (l : List Nat) : ones (u64s l) = true := by simp [ones, u64s, Value.oneCell']
@[simp] theorem u64s_get (l : List Nat) (i : Nat) (h : i < (u64s l).length) : (u64s l)[i] = .int .u64 ((l[i]'(by simpa using h) : Nat) : Int) := by simp [u64s]
@[simp] theorem u64s_set (l : List Nat) (i : Nat) (v : Nat) : (u64s l).set i (.int .u64 (v : Int)) = u64s (l.set i v) := by simp [u64s, List.map_set]
theorem getD_elemN (l : List Nat) (i : Nat) (h : i < l.length) : l.getD i 0 = l[i] := by simp [List.getD_eq_getElem?_getD, h]
def part8 (t : List UInt8) (j : Nat) : Nat := leN ((t.drop (8 * j)).take 8)
def ofM (t : List UInt8) (k : Nat) : List Nat := (List.range 3).map fun j => if j < k then part8 t j else 0
theorem ofM_length (t : List UInt8) (k : Nat) : (ofM t k).length = 3 := by simp [ofM]
theorem ofM_succ (t : List UInt8) (k : Nat) : ofM t (k + 1) = (ofM t k).set k (part8 t k) := by
  apply List.ext_getElem (by simp [ofM])
  intro i h1 h2
  rw [List.getElem_set]
  simp only [ofM, List.getElem_map, List.getElem_range]
  by_cases e : k = i
  · subst e; simp
  · rw [if_neg e]
    by_cases h : i < k
    · rw [if_pos (by omega), if_pos h]
    · rw [if_neg (by omega), if_neg h]
theorem ofM_same (t : List UInt8) (k : Nat) (h : t.length ≤ 8 * k) : ofM t (k + 1) = ofM t k := by
  apply List.ext_getElem (by simp [ofM])
  intro i h1 h2
  simp only [ofM, List.getElem_map, List.getElem_range]
  by_cases e : i = k
  · subst e
    rw [if_pos (by omega), if_neg (by omega), part8, List.drop_of_length_le h]
    rfl
  · by_cases h : i < k
    · rw [if_pos (by omega), if_pos h]
    · rw [if_neg (by omega), if_neg h]
def ofN (s : List UInt8) : Num := ⟨part8 (s ++ [1]) 0, part8 (s ++ [1]) 1, part8 (s ++ [1]) 2⟩
theorem part8_lt (t : List UInt8) (j : Nat) : lt64 (part8 t j) := leN_lt64 _ (by simp; omega)
theorem ofN_lt (s : List UInt8) : (ofN s).lt := ⟨part8_lt _ _, part8_lt _ _, part8_lt _ _⟩
attribute [local irreducible] ofM part8
set_option maxRecDepth 20000 in
set_option maxHeartbeats 1000000 in
theorem pof_any (s : List UInt8) (w : World) (hs : s.length ≤ 16) :
    Calls Try.prog 33 #[.string ⟨s.toArray⟩] w fun e w' => e = .returned (.agg (ofN s).cells.toArray) ∧ Below w.heap.size w w' := by
  obtain ⟨t, ht⟩ : ∃ t, s ++ [1] = t := ⟨_, rfl⟩
  have htl : t.length ≤ 17 := by rw [← ht]; simp; omega
  have hres : (ofN s).cells = u64s (ofM t 3) := by rw [← ht]; unfold ofM; rfl
  rw [hres]
  have h3 := ofM_length t
  go_enter Try.func33, Try.ntmps33
  have HT := Lib.hid ht
  clear hres
  go_wp2_with fail
  (try simp only [ht])
  clear ht
  go_loopw [7] (fun i wr => ∃ k : Nat, k ≤ 3 ∧ i = .int .i64 k ∧ row wr (w.heap.size + 1) = (u64s (ofM t k)).toArray ∧ row wr w.heap.size = (zeros 3 (Value.int .u64 0)).toArray ∧ w.heap.size + 1 < wr.heap.size ∧ Below w.heap.size w wr) (fun i _ => 3 - (intOf i).toNat)
  case atStart =>
    refine ⟨0, by omega, rfl, ?_, by simp [go_sem], by simp, (by (repeat (first | exact Below.refl _ _ | refine Below.alloc ?_ (by first | (simp; done) | (simp; omega) | omega) _ | refine Below.drew ?_ | refine Below.setRow ?_ (by first | (simp; done) | (simp; omega) | omega) _ | refine Below.setCell ?_ (by first | (simp; done) | (simp; omega) | omega) _)))⟩
    rw [row_alloc_at _ _ _ (by simp)]
    unfold ofM
    rfl
  case round =>
    obtain ⟨k, hk, rfl, hV, hR, hz, hbel⟩ := hrel
    obtain ⟨L, hL⟩ : ∃ L, ofM t k = L := ⟨_, rfl⟩
    have hLl : L.length = 3 := by rw [← hL]; exact ofM_length _ _
    rw [hL] at hV
    have HL := Lib.hid hL
    clear hL h3
    by_cases hlt : k < 3
    · have h1 : (k : Int) < 3 := by omega
      have hk1 : k < L.length := by omega
      by_cases hc : 8 * k < t.length
      · have hc1 : (8 : Int) * (k : Int) < t.length := by omega
        have hpw := fun w => pword_any ((t.drop (8 * k)).take 8) w (by simp; omega)
        obtain ⟨x, hx⟩ : ∃ x, leN ((t.drop (8 * k)).take 8) = x := ⟨_, rfl⟩
        rw [hx] at hpw
        have HX := Lib.hid (show part8 t k = x by unfold part8; exact hx)
        clear hx
        by_cases hf : 8 * k + 8 ≤ t.length
        · have hf1 : ¬ (t.length : Int) < 8 * (k : Int) + 8 := by omega
          have hf2 : (8 : Int) * (k : Int) + 8 ≤ t.length := by omega
          have KP := Lib.hid hpw
          clear hpw
          go_wp2_with fail
          rw [show List.take ((min (8 * (k : Int) + 8) (t.length : Int)).toNat - 8 * k) (List.drop (8 * k) t) = (t.drop (8 * k)).take 8 from by rw [List.take_eq_take_iff]; simp; omega]
          (with_reducible refine (KP.out _).mono ?_)
          rintro e w1 ⟨rfl, b1⟩
          have z1 := b1.size
          have hV1 := (row_below b1 (by omega)).trans hV
          have hR1 := (row_below b1 (by omega)).trans hR
          clear KP
          go_wp2_with fail
          go_roundw
          case rel =>
            refine ⟨k + 1, by omega, rfl, ?_, by (try show row (World.setRow _ _ _) _ = _); rw [row_setRow_other _ _ _ (by omega)]; exact hR1, by simp; omega, Below.setRow (Below.trans hbel (b1.mono (by omega))) (by omega) _⟩
            rw [ofM_succ, HL.out, HX.out]
            exact row_setRow_same (by rw [hV1]; simp; omega) (by rw [hV1]; simp)
          case measure => simp [intOf]; omega
        · have hf1 : (t.length : Int) < 8 * (k : Int) + 8 := by omega
          have KP := Lib.hid hpw
          clear hpw
          go_wp2_with fail
          rw [show List.take ((min (8 * (k : Int) + 8) (t.length : Int)).toNat - 8 * k) (List.drop (8 * k) t) = (t.drop (8 * k)).take 8 from by rw [List.take_eq_take_iff]; simp; omega]
          (with_reducible refine (KP.out _).mono ?_)
          rintro e w1 ⟨rfl, b1⟩
          have z1 := b1.size
          have hV1 := (row_below b1 (by omega)).trans hV
          have hR1 := (row_below b1 (by omega)).trans hR
          clear KP
          go_wp2_with fail
          go_roundw
          case rel =>
            refine ⟨k + 1, by omega, rfl, ?_, by (try show row (World.setRow _ _ _) _ = _); rw [row_setRow_other _ _ _ (by omega)]; exact hR1, by simp; omega, Below.setRow (Below.trans hbel (b1.mono (by omega))) (by omega) _⟩
            rw [ofM_succ, HL.out, HX.out]
            exact row_setRow_same (by rw [hV1]; simp; omega) (by rw [hV1]; simp)
          case measure => simp [intOf]; omega
      · have hc1 : ¬ (8 : Int) * (k : Int) < t.length := by omega
        go_wp2_with fail
        go_roundw
        case rel =>
          refine ⟨k + 1, by omega, rfl, ?_, hR, hz, hbel⟩
          rw [ofM_same t k (by omega), HL.out]
          exact hV
        case measure => simp [intOf]; omega
    · obtain rfl : k = 3 := by omega
      rw [show ((3 : Nat) : Int) = 3 from rfl]
      have e : L = ofM t 3 := HL.out.symm
      rw [e] at hV hLl
      go_wp2_with fail
      have hfin := row_setRow_same (w := wr) (g := w.heap.size) (c := (u64s (ofM t 3)).toArray) (by rw [hR]; simp) (by rw [hR]; simp [hLl])
      (try simp only [Exit.inBlock, Exit.then])
      refine bodyPost_ret (results_1 rfl (resOk_row rfl ?_)) rfl ?_
      · rw [hfin]
        simp [hLl]
      refine ⟨by rw [hfin], ?_⟩
      exact Below.setRow hbel (by omega) _
end Go.Proofs.Ytjeclimoknilcaa
