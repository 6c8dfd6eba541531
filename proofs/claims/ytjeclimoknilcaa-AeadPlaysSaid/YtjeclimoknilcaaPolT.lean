/- Contracts of package poly: a number times two words. -/
import Derived.Test.YtjeclimoknilcaaPolA
set_option linter.unusedSimpArgs false
set_option linter.unusedVariables false
namespace Go.Proofs.Ytjeclimoknilcaa
open Go.RowKit
def Num.list (x : Num) : List Nat := [x.a, x.b, x.c]
theorem Num.cells_eq (x : Num) : x.cells = u64s x.list := rfl
def rowP (x r : List Nat) (i : Nat) (t : List Nat) : List Nat := upTo (fun j t => addL t (i + j) (x.getD i 0) (r.getD j 0)) 2 t
def prodT (x r : List Nat) : List Nat := upTo (rowP x r) 3 [0, 0, 0, 0]
def lowT (t : List Nat) : Num := ⟨t.getD 0 0, t.getD 1 0, t.getD 2 0 % 4⟩
def highT (t : List Nat) : Num := ⟨t.getD 2 0 / 4 + t.getD 3 0 % 4 * 4611686018427387904, t.getD 3 0 / 4, 0⟩
def sumT (t : List Nat) : Num := upTo (fun _ o => Num.plus o (highT t)) 5 (lowT t)
def Num.times (x : Num) (r0 r1 : Nat) : Num := sumT (prodT x.list [r0, r1])
def ok4 (t : List Nat) : Prop := t.length = 4 ∧ all64 t
theorem all64_list {l : List Nat} (h : ∀ n ∈ l, lt64 n) : all64 l := by
  intro i
  rw [List.getD_eq_getElem?_getD]
  cases hi : l[i]? with
  | none => show lt64 0; unfold lt64; decide
  | some v => exact h v (List.mem_of_getElem? hi)
theorem rowIn_ok (x r : List Nat) (hx : all64 x) (hr : all64 r) (i : Nat) (k : Nat) (t : List Nat) (ht : ok4 t) : ok4 (upTo (fun j t => addL t (i + j) (x.getD i 0) (r.getD j 0)) k t) := by
  induction k with
  | zero => exact ht
  | succ k ih => exact addL_ok _ _ _ _ ih.1 ih.2 (hx _) (hr _)
theorem rowUp_ok (x r : List Nat) (hx : all64 x) (hr : all64 r) (k : Nat) : ok4 (upTo (rowP x r) k [0, 0, 0, 0]) := by
  induction k with
  | zero => exact ⟨rfl, all64_list (l := [0, 0, 0, 0]) (by simp [lt64])⟩
  | succ k ih => exact rowIn_ok x r hx hr k 2 _ ih
theorem lowT_lt (t : List Nat) (h : all64 t) : (lowT t).lt := ⟨h 0, h 1, by have := h 2; unfold lt64 at *; show _ % 4 < _; omega⟩
theorem highT_lt (t : List Nat) (h : all64 t) : (highT t).lt := ⟨by have := h 2; unfold lt64 at *; show _ / 4 + _ % 4 * 4611686018427387904 < _; omega, by have := h 3; unfold lt64 at *; show _ / 4 < _; omega, by show (0 : Nat) < 18446744073709551616; decide⟩
theorem sumUp_lt (h l : Num) (hl : l.lt) (k : Nat) : (upTo (fun _ o => Num.plus o h) k l).lt := by
  cases k with
  | zero => exact hl
  | succ k => exact Num.plus_lt _ _
theorem Num.times_lt (x : Num) (r0 r1 : Nat) (hx : x.lt) (h0 : lt64 r0) (h1 : lt64 r1) : (x.times r0 r1).lt := by
  have hx' : all64 x.list := all64_list (by intro n hn; simp [Num.list] at hn; rcases hn with rfl | rfl | rfl; exact hx.1; exact hx.2.1; exact hx.2.2)
  have hr : all64 [r0, r1] := all64_list (by intro n hn; simp at hn; rcases hn with rfl | rfl; exact h0; exact h1)
  exact sumUp_lt _ _ (lowT_lt _ (rowUp_ok _ _ hx' hr 3).2) 5
theorem hi_join (a b : Nat) (ha : lt64 a) (hb : lt64 b) : bits .or .u64 ((a : Int) / 4) (IntKind.u64.wrap ((b : Int) * 4611686018427387904)) = ((a / 4 + b % 4 * 4611686018427387904 : Nat) : Int) := by
  unfold lt64 at ha hb
  have hw : IntKind.u64.wrap ((b : Int) * 4611686018427387904) = ((b % 4 * 4611686018427387904 : Nat) : Int) := by rw [IntKind.wrap_u64]; omega
  rw [hw]
  have := bits_join_low .u64 64 (by decide) (fun n h0 h1 => by rw [IntKind.wrap_u64]; omega) 62 ((a : Int) / 4) ((b % 4 * 4611686018427387904 : Nat) : Int) (by omega) (by omega) (by omega) (by omega) (by omega) (by omega)
  rw [this]
  omega
theorem mask2' (n : Nat) (h : lt64 n) : bits .and .u64 (n : Int) 3 = ((n % 4 : Nat) : Int) := by
  unfold lt64 at h
  have h1 := bits_and_u64_nat n 3 h (by omega)
  have e : n &&& 3 = n % 4 := Nat.and_two_pow_sub_one_eq_mod n 2
  rw [e] at h1
  exact h1
attribute [local irreducible] upTo addL
set_option maxRecDepth 20000 in
set_option maxHeartbeats 2000000 in
theorem times_any (x : Num) (r0 r1 : Nat) (w : World) (hx : x.lt) (h0 : lt64 r0) (h1 : lt64 r1) :
    Calls Try.prog 34 #[.agg x.cells.toArray, .agg (u64s [r0, r1]).toArray] w fun e w' => e = .returned (.agg (x.times r0 r1).cells.toArray) ∧ Below w.heap.size w w' := by
  have hx' : all64 x.list := all64_list (by intro n hn; simp [Num.list] at hn; rcases hn with rfl | rfl | rfl; exact hx.1; exact hx.2.1; exact hx.2.2)
  have hr : all64 [r0, r1] := all64_list (by intro n hn; simp at hn; rcases hn with rfl | rfl; exact h0; exact h1)
  rw [Num.cells_eq x]
  have hres : x.times r0 r1 = sumT (prodT x.list [r0, r1]) := rfl
  rw [hres]
  obtain ⟨X, hX⟩ : ∃ X, x.list = X := ⟨_, rfl⟩
  obtain ⟨R, hR⟩ : ∃ R, [r0, r1] = R := ⟨_, rfl⟩
  have hXl : X.length = 3 := by rw [← hX]; rfl
  have hRl : R.length = 2 := by rw [← hR]; rfl
  rw [hX] at hx' ⊢
  rw [hR] at hr ⊢
  have hXo := Lib.hid hx'
  have hRo := Lib.hid hr
  clear hX hR hres hx' hr hx h0 h1 x r0 r1
  go_enter Try.func34, Try.ntmps34
  go_wp2_with fail
  go_loopw [11] (fun i wr => ∃ (k : Nat) (t : List Nat), k ≤ 3 ∧ i = .int .i64 k ∧ upTo (rowP X R) k [0, 0, 0, 0] = t ∧ row wr (w.heap.size + 1 + 1 + 1) = (u64s t).toArray ∧ row wr w.heap.size = (u64s X).toArray ∧ row wr (w.heap.size + 1) = (u64s R).toArray ∧ row wr (w.heap.size + 1 + 1) = (zeros 3 (Value.int .u64 0)).toArray ∧ w.heap.size + 1 + 1 + 1 < wr.heap.size ∧ Below w.heap.size w wr) (fun i _ => 3 - (intOf i).toNat)
  case atStart =>
    refine ⟨0, _, by omega, rfl, rfl, ?_, ?_, ?_, ?_, by simp, (by (repeat (first | exact Below.refl _ _ | refine Below.alloc ?_ (by first | (simp; done) | (simp; omega) | omega) _ | refine Below.drew ?_ | refine Below.setRow ?_ (by first | (simp; done) | (simp; omega) | omega) _ | refine Below.setCell ?_ (by first | (simp; done) | (simp; omega) | omega) _)))⟩
    · rw [upTo, row_alloc_at _ _ _ (by simp)]; rfl
    · simp [go_sem]
    · simp [go_sem]
    · simp [go_sem]
  case round =>
    obtain ⟨k, t, hk, rfl, ht, rT, rX, rR, rO, hz, hbel⟩ := hrel
    have hto := rowUp_ok X R hXo.out hRo.out k
    rw [ht] at hto
    have HT := Lib.hid ht
    clear ht
    obtain ⟨htl, hta⟩ := hto
    have HA := Lib.hid hta
    clear hta
    by_cases hlt : k < 3
    · have g1 : (k : Int) < 3 := by omega
      go_wp2_with fail
      go_loopw [14] (fun i wq => ∃ (j : Nat) (q : List Nat), j ≤ 2 ∧ i = .int .i64 j ∧ upTo (fun j t => addL t (k + j) (X.getD k 0) (R.getD j 0)) j t = q ∧ row wq (w.heap.size + 1 + 1 + 1) = (u64s q).toArray ∧ row wq w.heap.size = (u64s X).toArray ∧ row wq (w.heap.size + 1) = (u64s R).toArray ∧ row wq (w.heap.size + 1 + 1) = (zeros 3 (Value.int .u64 0)).toArray ∧ w.heap.size + 1 + 1 + 1 < wq.heap.size ∧ Below w.heap.size w wq) (fun i _ => 2 - (intOf i).toNat)
      case atStart => exact ⟨0, t, by omega, rfl, by rw [upTo], rT, rX, rR, rO, hz, hbel⟩
      case round =>
        clear rT rX rR rO hz hbel
        obtain ⟨j, q, hj, rfl, hq, rT, rX, rR, rO, hz, hbel⟩ := hrel
        have hqo := rowIn_ok X R hXo.out hRo.out k j t ⟨htl, HA.out⟩
        rw [hq] at hqo
        have HQ := Lib.hid hq
        clear hq
        obtain ⟨hql, hqa⟩ := hqo
        have HB := Lib.hid hqa
        clear hqa
        by_cases hlt2 : j < 2
        · have g2 : (j : Int) < 2 := by omega
          have g3 : (k : Int) + j < 4 := by omega
          have kx : k < X.length := by omega
          have kr : j < R.length := by omega
          have hw1 : IntKind.i64.wrap ((k : Int) + (j : Int)) = ((k + j : Nat) : Int) := by rw [wraps_i64 _ (by omega) (by omega)]; omega
          obtain ⟨n, hn⟩ : ∃ n, k + j = n := ⟨_, rfl⟩
          have g4 : n < 4 := by omega
          rw [hn] at hw1
          have HN := Lib.hid hn
          clear hn
          go_wp2_with fail
          refine wp_region_beginR [(w.heap.size, (u64s X).toArray), (w.heap.size + 1, (u64s R).toArray)] rfl (by simp only [Rws]; (repeat (first | exact trivial | refine ⟨(by first | assumption | (simp [go_sem, *]; done)), (by first | omega | (simp; done) | (simp; omega)), ?_⟩))) (fun hS => ?_)
          refine wpAnyR_take (i := 0) (v := ?_) (by simp only [List.getElem?_toArray, List.getElem?_cons_succ, List.getElem?_cons_zero]; rfl) (by kernel_rfl) (by kernel_rfl) (by kernel_rfl) (by first | exact fun _ _ _ h => h | exact fun _ _ _ h => by cases h.1) (Rws.grow _) (Or.inl ⟨by rfl, ?_⟩) hS ?_
          rotate_left
          · intro w' hS'
            simp only [Rws] at hS'
            go_simp
            refine ⟨?_, Below.refl _ _⟩
            rfl
          (try simp only [Act.put, List.setIfInBounds_toArray, List.set_cons_zero, List.set_cons_succ])
          refine wpAnyR_take (i := 1) (v := ?_) (by simp only [List.getElem?_toArray, List.getElem?_cons_succ, List.getElem?_cons_zero]; rfl) (by kernel_rfl) (by kernel_rfl) (by kernel_rfl) (by first | exact fun _ _ _ h => h | exact fun _ _ _ h => by cases h.1) (Rws.grow _) (Or.inl ⟨by rfl, ?_⟩) hS ?_
          rotate_left
          · intro w' hS'
            simp only [Rws] at hS'
            go_simp
            refine ⟨?_, Below.refl _ _⟩
            rfl
          (try simp only [Act.put, List.setIfInBounds_toArray, List.set_cons_zero, List.set_cons_succ])
          refine wpAnyR_take (i := 2) (v := ?_) (by simp only [List.getElem?_toArray, List.getElem?_cons_succ, List.getElem?_cons_zero]; rfl) (by kernel_rfl) (by kernel_rfl) (by kernel_rfl) (by first | exact fun _ _ _ h => h | exact fun _ _ _ h => by cases h.1) (Rws.grow _) (Or.inl ⟨by rfl, ?_⟩) hS ?_
          rotate_left
          · intro w' hS'
            simp only [Rws] at hS'
            go_simp
            refine ⟨?_, Below.refl _ _⟩
            rfl
          (try simp only [Act.put, List.setIfInBounds_toArray, List.set_cons_zero, List.set_cons_succ])
          refine wpAnyR_take (i := 3) (v := ?_) (by simp only [List.getElem?_toArray, List.getElem?_cons_succ, List.getElem?_cons_zero]; rfl) (by kernel_rfl) (by kernel_rfl) (by kernel_rfl) (by first | exact fun _ _ _ h => h | exact fun _ _ _ h => by cases h.1) (Rws.grow _) (Or.inl ⟨by rfl, ?_⟩) hS ?_
          rotate_left
          · intro w' hS'
            simp only [Rws] at hS'
            go_simp
            refine ⟨?_, Below.refl _ _⟩
            rfl
          (try simp only [Act.put, List.setIfInBounds_toArray, List.set_cons_zero, List.set_cons_succ])
          refine wpAnyR_take (i := 4) (v := ?_) (by simp only [List.getElem?_toArray, List.getElem?_cons_succ, List.getElem?_cons_zero]; rfl) (by kernel_rfl) (by kernel_rfl) (by kernel_rfl) (by first | exact fun _ _ _ h => h | exact fun _ _ _ h => by cases h.1) (Rws.grow _) (Or.inl ⟨by rfl, ?_⟩) hS ?_
          rotate_left
          · intro w' hS'
            simp only [Rws] at hS'
            go_simp
            refine ⟨?_, Below.refl _ _⟩
            rfl
          (try simp only [Act.put, List.setIfInBounds_toArray, List.set_cons_zero, List.set_cons_succ])
          refine wpAnyR_take (i := 5) (v := ?_) (by simp only [List.getElem?_toArray, List.getElem?_cons_succ, List.getElem?_cons_zero]; rfl) (by kernel_rfl) (by kernel_rfl) (by kernel_rfl) (by first | exact fun _ _ _ h => h | exact fun _ _ _ h => by cases h.1) (Rws.grow _) (Or.inl ⟨by rfl, ?_⟩) hS ?_
          rotate_left
          · intro w' hS'
            simp only [Rws] at hS'
            go_simp
            refine ⟨?_, Below.refl _ _⟩
            rfl
          (try simp only [Act.put, List.setIfInBounds_toArray, List.set_cons_zero, List.set_cons_succ])
          refine wpAnyR_take (i := 6) (v := ?_) (by simp only [List.getElem?_toArray, List.getElem?_cons_succ, List.getElem?_cons_zero]; rfl) (by kernel_rfl) (by kernel_rfl) (by kernel_rfl) (by first | exact fun _ _ _ h => h | exact fun _ _ _ h => by cases h.1) (Rws.grow _) (Or.inl ⟨by rfl, ?_⟩) hS ?_
          rotate_left
          · intro w' hS'
            simp only [Rws] at hS'
            go_simp
            refine ⟨?_, Below.refl _ _⟩
            rfl
          (try simp only [Act.put, List.setIfInBounds_toArray, List.set_cons_zero, List.set_cons_succ])
          refine wpAnyR_take (i := 7) (v := ?_) (by simp only [List.getElem?_toArray, List.getElem?_cons_succ, List.getElem?_cons_zero]; rfl) (by kernel_rfl) (by kernel_rfl) (by kernel_rfl) (by first | exact fun _ _ _ h => h | exact fun _ _ _ h => by cases h.1) (Rws.grow _) (Or.inl ⟨by rfl, ?_⟩) hS ?_
          rotate_left
          · intro w' hS'
            simp only [Rws] at hS'
            go_simp
            refine ⟨?_, Below.refl _ _⟩
            rfl
          (try simp only [Act.put, List.setIfInBounds_toArray, List.set_cons_zero, List.set_cons_succ])
          refine wpAnyR_take (i := 8) (v := ?_) (by simp only [List.getElem?_toArray, List.getElem?_cons_succ, List.getElem?_cons_zero]; rfl) (by kernel_rfl) (by kernel_rfl) (by kernel_rfl) (by first | exact fun _ _ _ h => h | exact fun _ _ _ h => by cases h.1) (Rws.grow _) (Or.inl ⟨by rfl, ?_⟩) hS ?_
          rotate_left
          · intro w' hS'
            simp only [Rws] at hS'
            go_simp
            refine ⟨?_, Below.refl _ _⟩
            rfl
          (try simp only [Act.put, List.setIfInBounds_toArray, List.set_cons_zero, List.set_cons_succ])
          refine wpAnyR_all (rs := [9]) (by kernel_rfl) (by simp) (Rws.grow _) hS (fun u1 hu1 hSW => ?_)
          intro i hi
          obtain rfl := List.mem_singleton.1 hi
          refine wpOp_step rfl (fun K hK => ?_)
          simp only [Rws] at hSW
          clear hi hS
          go_simp
          have zu : wr.heap.size ≤ u1.heap.size := hu1.size
          have rT1 : row u1 (w.heap.size + 1 + 1 + 1) = (u64s q).toArray := by rw [row_below hu1 (show _ < wr.heap.size from hz)]; exact rT
          refine (add_any q n X[k] R[j] _ u1 hql HB.out g4 (by rw [← getD_elemN _ _ kx]; exact hXo.out k) (by rw [← getD_elemN _ _ kr]; exact hRo.out j) rT1).mono ?_
          rintro e w2 ⟨rfl, r2, c2⟩
          have zb2 := c2.size
          have rX2 : row w2 w.heap.size = (u64s X).toArray := (c2.row (by omega) (by omega)).trans ((row_below hu1 (show _ < wr.heap.size by omega)).trans rX)
          have rR2 : row w2 (w.heap.size + 1) = (u64s R).toArray := (c2.row (by omega) (by omega)).trans ((row_below hu1 (show _ < wr.heap.size by omega)).trans rR)
          have rO2 : row w2 (w.heap.size + 1 + 1) = (zeros 3 (Value.int .u64 0)).toArray := (c2.row (by omega) (by omega)).trans ((row_below hu1 (show _ < wr.heap.size by omega)).trans rO)
          have hb2 : Below w.heap.size w w2 := Below.trans hbel (Below.trans (Below.trans (Below.drew (Below.refl _ _)) (hu1.mono (by simp; omega))) ((c2.mono (by omega)).below (by omega)))
          refine hK _ _ ⟨⟨rX2, by omega, rR2, by omega, trivial⟩, ?_⟩
          clear hK K hSW
          (try simp only [Act.put, List.setIfInBounds_toArray, List.set_cons_zero, List.set_cons_succ])
          refine wpAnyR_done (by kernel_rfl) (fun w3 h3 => ?_) _
          have zb3 := h3.size
          go_wp2_with fail
          go_roundw
          case rel =>
            refine ⟨j + 1, _, by omega, rfl, rfl, ?_, (row_below h3 (by omega)).trans rX2, (row_below h3 (by omega)).trans rR2, (row_below h3 (by omega)).trans rO2, by omega, Below.trans hb2 (h3.mono (by omega))⟩
            rw [upTo, HQ.out, HN.out, getD_elemN _ _ kx, getD_elemN _ _ kr, row_below h3 (by omega)]
            exact r2
          case measure => simp [intOf]; omega
        · obtain rfl : j = 2 := by omega
          rw [show ((2 : Nat) : Int) = 2 from rfl]
          go_wp2_with fail
          go_roundw
          case rel =>
            refine ⟨k + 1, _, by omega, rfl, rfl, ?_, rX, rR, rO, hz, hbel⟩
            rw [upTo, HT.out, rowP, HQ.out]
            exact rT
          case measure => simp [intOf]; omega
    · obtain rfl : k = 3 := by omega
      rw [show ((3 : Nat) : Int) = 3 from rfl]
      have hP : prodT X R = t := HT.out
      have e0 : 0 < t.length := by omega
      have e1 : 1 < t.length := by omega
      have e2 : 2 < t.length := by omega
      have e3 : 3 < t.length := by omega
      have t2 := HA.out 2
      have t3 := HA.out 3
      have hll := lowT_lt t HA.out
      have hhl := highT_lt t HA.out
      rw [getD_elemN _ _ e2] at t2
      rw [getD_elemN _ _ e3] at t3
      have hlow : lowT t = ⟨t[0], t[1], t[2] % 4⟩ := by rw [lowT, getD_elemN _ _ e0, getD_elemN _ _ e1, getD_elemN _ _ e2]
      have hhigh : highT t = ⟨t[2] / 4 + t[3] % 4 * 4611686018427387904, t[3] / 4, 0⟩ := by rw [highT, getD_elemN _ _ e2, getD_elemN _ _ e3]
      have hsum : sumT (prodT X R) = upTo (fun _ o => Num.plus o (highT t)) 5 (lowT t) := by rw [hP]; rfl
      have hm : bits .and .u64 (t[2] : Int) 3 = ((t[2] % 4 : Nat) : Int) := mask2' _ t2
      have hj := hi_join t[2] t[3] t2 t3
      have hd : ∀ n : Nat, (n : Int) / 4 = ((n / 4 : Nat) : Int) := fun n => by omega
      replace hd := hd t[3]
      rw [hlow] at hll hsum
      rw [hhigh] at hhl hsum
      obtain ⟨l2, hl2⟩ : ∃ m, t[2] % 4 = m := ⟨_, rfl⟩
      obtain ⟨h0, hh0⟩ : ∃ m, t[2] / 4 + t[3] % 4 * 4611686018427387904 = m := ⟨_, rfl⟩
      obtain ⟨h1, hh1⟩ : ∃ m, t[3] / 4 = m := ⟨_, rfl⟩
      simp only [hl2, hh0, hh1] at hm hj hd hll hhl hsum
      obtain ⟨a0, ha0⟩ : ∃ m, t[0] = m := ⟨_, rfl⟩
      obtain ⟨a1, ha1⟩ : ∃ m, t[1] = m := ⟨_, rfl⟩
      simp only [ha0, ha1] at hll hsum
      have HF := Lib.hid hsum
      have HH := Lib.hid hhl
      have HL := Lib.hid hll
      clear hl2 hh0 hh1 hsum hlow hhigh t2 t3 hP HT hlt hk hll hhl
      go_wp2_with fail
      have q2 : w.heap.size + 1 + 1 < wr.heap.size := by omega
      go_loopw [53] (fun i wq => ∃ (m : Nat) (o : Num), m ≤ 5 ∧ i = .int .i64 m ∧ upTo (fun _ o => Num.plus o ⟨h0, h1, 0⟩) m ⟨a0, a1, l2⟩ = o ∧ row wq (wr.heap.size + 1 + 1) = #[.int .u64 o.a, .int .u64 o.b, .int .u64 o.c] ∧ row wq (wr.heap.size + 1) = #[.int .u64 h0, .int .u64 h1, .int .u64 0] ∧ row wq (w.heap.size + 1 + 1) = (zeros 3 (Value.int .u64 0)).toArray ∧ wr.heap.size + 1 + 1 < wq.heap.size ∧ Below w.heap.size w wq) (fun i _ => 5 - (intOf i).toNat)
      case atStart =>
        refine ⟨0, _, by omega, rfl, rfl, ?_, ?_, ?_, by simp, ?_⟩
        · rw [upTo, row_alloc_at _ _ _ (by simp)]
        · rw [row_alloc_past _ _ (by simp), row_alloc_at _ _ _ (by simp)]
        · rw [row_alloc_past _ _ (by simp; omega), row_alloc_past _ _ (by simp; omega), row_alloc_past _ _ (by omega)]
          exact rO
        · exact Below.alloc (Below.alloc (Below.alloc hbel (by omega) _) (by simp; omega) _) (by simp; omega) _
      case round =>
        clear rT rX rR rO hbel hm hj hd
        obtain ⟨m, o, hm, rfl, ho, rV, rH, rO, hz3, hbel⟩ := hrel
        have hol := sumUp_lt ⟨h0, h1, 0⟩ ⟨a0, a1, l2⟩ HL.out m
        rw [ho] at hol
        have HO := Lib.hid ho
        clear ho
        by_cases hlt : m < 5
        · have g1 : (m : Int) < 5 := by omega
          have hadd := fun w => nplus_any o ⟨h0, h1, 0⟩ w hol HH.out
          obtain ⟨z, hz2⟩ : ∃ z, o.plus ⟨h0, h1, 0⟩ = z := ⟨_, rfl⟩
          rw [hz2] at hadd
          have HZ := Lib.hid hz2
          clear hz2
          obtain ⟨o0, o1, o2⟩ := o
          obtain ⟨z0, z1, z2⟩ := z
          unfold Num.cells at hadd
          simp only at hadd rV
          have hadd' : ∀ w, Calls Try.prog 32 #[.agg #[.int .u64 o0, .int .u64 o1, .int .u64 o2], .agg #[.int .u64 h0, .int .u64 h1, .int .u64 0]] w fun e w' => e = .returned (.agg #[.int .u64 z0, .int .u64 z1, .int .u64 z2]) ∧ Below w.heap.size w w' := hadd
          have KA := Lib.hid hadd'
          clear hadd hadd' hol
          go_wp2_with fail
          (with_reducible refine (KA.out _).mono ?_)
          rintro e w2 ⟨rfl, b2⟩
          have zb2 := b2.size
          have rV2 := (row_below b2 (by omega)).trans rV
          have rH2 := (row_below b2 (by omega)).trans rH
          have rO2 := (row_below b2 (by omega)).trans rO
          go_wp2_with fail
          go_roundw
          case rel =>
            refine ⟨m + 1, ⟨z0, z1, z2⟩, by omega, rfl, ?_, ?_, by (try show row (World.setRow _ _ _) _ = _); rw [row_setRow_other _ _ _ (by omega)]; exact rH2, by (try show row (World.setRow _ _ _) _ = _); rw [row_setRow_other _ _ _ (by omega)]; exact rO2, by simp; omega, Below.setRow (Below.trans hbel (b2.mono (by omega))) (by omega) _⟩
            · rw [upTo, HO.out, HZ.out]
            · exact row_setRow_same (by rw [rV2]; simp) (by rw [rV2]; simp)
          case measure => simp [intOf]; omega
        · obtain rfl : m = 5 := by omega
          rw [show ((5 : Nat) : Int) = 5 from rfl]
          obtain ⟨o0, o1, o2⟩ := o
          simp only at rV
          go_wp2_with fail
          have hfin := row_setRow_same (w := wr) (g := w.heap.size + 1 + 1) (c := #[Value.int .u64 o0, .int .u64 o1, .int .u64 o2]) (by rw [rO]; simp) (by rw [rO]; simp)
          (try simp only [Exit.inBlock, Exit.then])
          refine bodyPost_ret (results_1 rfl (resOk_row rfl ?_)) rfl ?_
          · rw [hfin]
            simp
          refine ⟨by rw [hfin, HF.out, HO.out]; rfl, ?_⟩
          exact Below.setRow hbel (by omega) _
end Go.Proofs.Ytjeclimoknilcaa
