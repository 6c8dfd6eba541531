/- Contracts of package poly: a product of two words added at a place. -/
import Derived.Test.YtjeclimoknilcaaPolO
set_option linter.unusedSimpArgs false
set_option linter.unusedVariables false
namespace Go.Proofs.Ytjeclimoknilcaa
open Go.RowKit
def all64 (l : List Nat) : Prop := ∀ i, lt64 (l.getD i 0)
theorem all64_set {l : List Nat} (h : all64 l) (i v : Nat) (hv : lt64 v) : all64 (l.set i v) := by
  intro j
  have := h j
  simp only [List.getD_eq_getElem?_getD, List.getElem?_set] at *
  split
  · split
    · exact hv
    · show lt64 0
      unfold lt64; decide
  · exact this
/-- a step of adding: the words, what is added next, the carry -/
structure AdS where
  t : List Nat
  h : Nat
  c : Nat
def AdS.step (i : Nat) (s : AdS) : AdS := ⟨s.t.set i ((s.t.getD i 0 + s.h + s.c) % 18446744073709551616), 0, (s.t.getD i 0 + s.h + s.c) / 18446744073709551616⟩
def AdS.ok (s : AdS) : Prop := s.t.length = 4 ∧ all64 s.t ∧ lt64 s.h ∧ s.c ≤ 1
theorem AdS.step_ok (i : Nat) (s : AdS) (h : s.ok) : (s.step i).ok := by
  obtain ⟨h1, h2, h3, h4⟩ := h
  exact ⟨by simpa [AdS.step] using h1, all64_set h2 _ _ (lt64_mod _), by show lt64 0; unfold lt64; decide, carry_le _ _ _ (h2 i) h3 h4⟩
def adBegin (t : List Nat) (at_ x y : Nat) : AdS :=
  ⟨t.set at_ ((t.getD at_ 0 + x * y % 18446744073709551616) % 18446744073709551616), x * y / 18446744073709551616, (t.getD at_ 0 + x * y % 18446744073709551616) / 18446744073709551616⟩
def addL (t : List Nat) (at_ x y : Nat) : List Nat := (upTo (fun k s => AdS.step (at_ + 1 + k) s) (3 - at_) (adBegin t at_ x y)).t
theorem hi64 (x y : Nat) (hx : lt64 x) (hy : lt64 y) : lt64 (x * y / 18446744073709551616) := by
  unfold lt64 at *
  have := Nat.mul_lt_mul'' hx hy
  rw [Nat.div_lt_iff_lt_mul (by decide)]
  exact this
theorem adBegin_ok (t : List Nat) (at_ x y : Nat) (ht : t.length = 4) (ha : all64 t) (hx : lt64 x) (hy : lt64 y) : (adBegin t at_ x y).ok :=
  ⟨by simpa [adBegin] using ht, all64_set ha _ _ (lt64_mod _), hi64 x y hx hy, by have := carry_le (t.getD at_ 0) (x * y % 18446744073709551616) 0 (ha _) (lt64_mod _) (by omega); simpa [adBegin] using this⟩
theorem adUp_ok (at_ : Nat) (s : AdS) (h : s.ok) (k : Nat) : (upTo (fun k s => AdS.step (at_ + 1 + k) s) k s).ok := by
  induction k with
  | zero => exact h
  | succ k ih => exact AdS.step_ok _ _ ih
theorem addL_ok (t : List Nat) (at_ x y : Nat) (ht : t.length = 4) (ha : all64 t) (hx : lt64 x) (hy : lt64 y) : (addL t at_ x y).length = 4 ∧ all64 (addL t at_ x y) :=
  have h := adUp_ok at_ _ (adBegin_ok t at_ x y ht ha hx hy) (3 - at_)
  ⟨h.1, h.2.1⟩
attribute [local irreducible] upTo
set_option maxRecDepth 20000 in
set_option maxHeartbeats 2000000 in
theorem add_any (t : List Nat) (at_ x y T : Nat) (w : World) (ht : t.length = 4) (ha : all64 t) (hat : at_ < 4) (hx : lt64 x) (hy : lt64 y) (hT : row w T = (u64s t).toArray) :
    Calls Try.prog 49 #[.pointer (some ⟨T, 0, none⟩), .int .i64 at_, .int .u64 x, .int .u64 y] w fun e w' => e = .returned (.tuple #[]) ∧ row w' T = (u64s (addL t at_ x y)).toArray ∧ BelowBut w.heap.size T w w' := by
  have zT : T < w.heap.size := lt_of_row (i := 0) (by rw [hT]; simp; omega)
  have hb0 := adBegin_ok t at_ x y ht ha hx hy
  have hres : addL t at_ x y = (upTo (fun k s => AdS.step (at_ + 1 + k) s) (3 - at_) (adBegin t at_ x y)).t := rfl
  have hmul := fun w => Try.bits_Mul64 x y (by have := hx; unfold lt64 at this; exact this) (by have := hy; unfold lt64 at this; exact this) w
  have hadd := add64_run0 (t.getD at_ 0) (x * y % 18446744073709551616)
  have kat : at_ < t.length := by omega
  rw [getD_elemN _ _ kat] at hadd
  have hbeg : adBegin t at_ x y = ⟨t.set at_ ((t[at_] + x * y % 18446744073709551616) % 18446744073709551616), x * y / 18446744073709551616, (t[at_] + x * y % 18446744073709551616) / 18446744073709551616⟩ := by
    rw [adBegin, getD_elemN _ _ kat]
  rw [hres]
  rw [hbeg] at hb0 ⊢
  clear hbeg hres
  obtain ⟨lo, hlo⟩ : ∃ n, x * y % 18446744073709551616 = n := ⟨_, rfl⟩
  obtain ⟨hi, hhi⟩ : ∃ n, x * y / 18446744073709551616 = n := ⟨_, rfl⟩
  simp only [hlo, hhi] at hmul hadd hb0 ⊢
  obtain ⟨s, hs⟩ : ∃ n, (t[at_] + lo) % 18446744073709551616 = n := ⟨_, rfl⟩
  obtain ⟨c, hc⟩ : ∃ n, (t[at_] + lo) / 18446744073709551616 = n := ⟨_, rfl⟩
  simp only [hs, hc] at hadd hb0 ⊢
  clear hlo hhi hs hc
  have KM := Lib.hid hmul
  clear hmul
  have hat1 : (at_ : Int) < 4 := by omega
  have hHb := Lib.hid hb0
  clear hb0
  go_enter Try.func49, Try.ntmps49
  go_wp2_with fail
  (with_reducible refine (KM.out _).mono ?_)
  rintro e w1 ⟨rfl, hw1⟩
  rw [hw1]
  clear hw1 w1
  go_wp2_with fail
  refine wp_region_beginK 14 [(T, (u64s t).toArray)] [] rfl (by simp only [Rws]; (repeat (first | exact trivial | refine ⟨(by first | assumption | (simp [go_sem, *]; done)), (by first | omega | (simp; done) | (simp; omega)), ?_⟩))) (fun hS => ?_)
  refine wpAnyK_take (i := 0) (v := ?_) (by simp only [List.getElem?_toArray, List.getElem?_cons_succ, List.getElem?_cons_zero]; rfl) (by kernel_rfl) (by kernel_rfl) (by kernel_rfl) (by kernel_rfl) (by first | exact fun _ _ _ h => h | exact fun _ _ _ h => by cases h.1) (Rws.grow _) (Or.inl ⟨by rfl, ?_⟩) hS ?_
  rotate_left
  · intro w' hS'
    simp only [Rws] at hS'
    go_simp
    refine ⟨?_, Below.refl _ _⟩
    rfl
  (try simp only [Act.put, List.setIfInBounds_toArray, List.set_cons_zero, List.set_cons_succ])
  refine wpAnyK_take (i := 1) (v := ?_) (by simp only [List.getElem?_toArray, List.getElem?_cons_succ, List.getElem?_cons_zero]; rfl) (by kernel_rfl) (by kernel_rfl) (by kernel_rfl) (by kernel_rfl) (by first | exact fun _ _ _ h => h | exact fun _ _ _ h => by cases h.1) (Rws.grow _) (Or.inl ⟨by rfl, ?_⟩) hS ?_
  rotate_left
  · intro w' hS'
    simp only [Rws] at hS'
    go_simp
    refine ⟨?_, Below.refl _ _⟩
    rfl
  (try simp only [Act.put, List.setIfInBounds_toArray, List.set_cons_zero, List.set_cons_succ])
  refine wpAnyK_take (i := 2) (v := ?_) (by simp only [List.getElem?_toArray, List.getElem?_cons_succ, List.getElem?_cons_zero]; rfl) (by kernel_rfl) (by kernel_rfl) (by kernel_rfl) (by kernel_rfl) (by first | exact fun _ _ _ h => h | exact fun _ _ _ h => by cases h.1) (Rws.grow _) (Or.inl ⟨by rfl, ?_⟩) hS ?_
  rotate_left
  · intro w' hS'
    simp only [Rws] at hS'
    go_simp
    refine ⟨?_, Below.refl _ _⟩
    rfl
  (try simp only [Act.put, List.setIfInBounds_toArray, List.set_cons_zero, List.set_cons_succ])
  refine wpAnyK_take (i := 3) (v := ?_) (by simp only [List.getElem?_toArray, List.getElem?_cons_succ, List.getElem?_cons_zero]; rfl) (by kernel_rfl) (by kernel_rfl) (by kernel_rfl) (by kernel_rfl) (by first | exact fun _ _ _ h => h | exact fun _ _ _ h => by cases h.1) (Rws.grow _) (Or.inl ⟨by rfl, ?_⟩) hS ?_
  rotate_left
  · intro w' hS'
    simp only [Rws] at hS'
    go_simp
    refine ⟨?_, Below.refl _ _⟩
    rfl
  (try simp only [Act.put, List.setIfInBounds_toArray, List.set_cons_zero, List.set_cons_succ])
  refine wpAnyK_take (i := 4) (v := ?_) (by simp only [List.getElem?_toArray, List.getElem?_cons_succ, List.getElem?_cons_zero]; rfl) (by kernel_rfl) (by kernel_rfl) (by kernel_rfl) (by kernel_rfl) (by first | exact fun _ _ _ h => h | exact fun _ _ _ h => by cases h.1) (Rws.grow _) (Or.inl ⟨by rfl, ?_⟩) hS ?_
  rotate_left
  · intro w' hS'
    simp only [Rws] at hS'
    go_simp
    refine ⟨?_, Below.refl _ _⟩
    rfl
  (try simp only [Act.put, List.setIfInBounds_toArray, List.set_cons_zero, List.set_cons_succ])
  refine wpAnyK_take (i := 5) (v := ?_) (by simp only [List.getElem?_toArray, List.getElem?_cons_succ, List.getElem?_cons_zero]; rfl) (by kernel_rfl) (by kernel_rfl) (by kernel_rfl) (by kernel_rfl) (by first | exact fun _ _ _ h => h | exact fun _ _ _ h => by cases h.1) (Rws.grow _) (Or.inl ⟨by rfl, ?_⟩) hS ?_
  rotate_left
  · intro w' hS'
    simp only [Rws] at hS'
    go_simp
    refine ⟨?_, Below.refl _ _⟩
    rfl
  (try simp only [Act.put, List.setIfInBounds_toArray, List.set_cons_zero, List.set_cons_succ])
  refine wpAnyK_take (i := 6) (v := ?_) (by simp only [List.getElem?_toArray, List.getElem?_cons_succ, List.getElem?_cons_zero]; rfl) (by kernel_rfl) (by kernel_rfl) (by kernel_rfl) (by kernel_rfl) (by first | exact fun _ _ _ h => h | exact fun _ _ _ h => by cases h.1) (Rws.grow _) (Or.inl ⟨by rfl, ?_⟩) hS ?_
  rotate_left
  · intro w' hS'
    simp only [Rws] at hS'
    go_simp
    refine ⟨?_, Below.refl _ _⟩
    rfl
  (try simp only [Act.put, List.setIfInBounds_toArray, List.set_cons_zero, List.set_cons_succ])
  refine wpAnyK_take (i := 7) (v := ?_) (by simp only [List.getElem?_toArray, List.getElem?_cons_succ, List.getElem?_cons_zero]; rfl) (by kernel_rfl) (by kernel_rfl) (by kernel_rfl) (by kernel_rfl) (by first | exact fun _ _ _ h => h | exact fun _ _ _ h => by cases h.1) (Rws.grow _) (Or.inl ⟨by rfl, ?_⟩) hS ?_
  rotate_left
  · intro w' hS'
    simp only [Rws] at hS'
    go_simp
    refine ⟨?_, Below.refl _ _⟩
    rfl
  (try simp only [Act.put, List.setIfInBounds_toArray, List.set_cons_zero, List.set_cons_succ])
  refine wpAnyK_take (i := 8) (v := ?_) (by simp only [List.getElem?_toArray, List.getElem?_cons_succ, List.getElem?_cons_zero]; rfl) (by kernel_rfl) (by kernel_rfl) (by kernel_rfl) (by kernel_rfl) (by first | exact fun _ _ _ h => h | exact fun _ _ _ h => by cases h.1) (Rws.grow _) (Or.inl ⟨by rfl, ?_⟩) hS ?_
  rotate_left
  · intro w' hS'
    simp only [Rws] at hS'
    go_simp
    refine ⟨?_, Below.refl _ _⟩
    rfl
  (try simp only [Act.put, List.setIfInBounds_toArray, List.set_cons_zero, List.set_cons_succ])
  refine wpAnyK_take (i := 9) (v := ?_) (by simp only [List.getElem?_toArray, List.getElem?_cons_succ, List.getElem?_cons_zero]; rfl) (by kernel_rfl) (by kernel_rfl) (by kernel_rfl) (by kernel_rfl) (by first | exact fun _ _ _ h => h | exact fun _ _ _ h => by cases h.1) (Rws.grow _) (Or.inl ⟨by rfl, ?_⟩) hS ?_
  rotate_left
  · intro w' hS'
    simp only [Rws] at hS'
    go_simp
    refine ⟨?_, Below.refl _ _⟩
    rfl
  (try simp only [Act.put, List.setIfInBounds_toArray, List.set_cons_zero, List.set_cons_succ])
  refine wpAnyK_take (i := 10) (v := ?_) (by simp only [List.getElem?_toArray, List.getElem?_cons_succ, List.getElem?_cons_zero]; rfl) (by kernel_rfl) (by kernel_rfl) (by kernel_rfl) (by kernel_rfl) (by first | exact fun _ _ _ h => h | exact fun _ _ _ h => by cases h.1) (Rws.grow _) (Or.inl ⟨by rfl, ?_⟩) hS ?_
  rotate_left
  · intro w' hS'
    simp only [Rws] at hS'
    go_simp
    refine ⟨?_, Below.refl _ _⟩
    rfl
  (try simp only [Act.put, List.setIfInBounds_toArray, List.set_cons_zero, List.set_cons_succ])
  refine wpAnyK_both (i := 11) (v := ?_) (by simp only [List.getElem?_toArray, List.getElem?_cons_succ, List.getElem?_cons_zero]; rfl) (by kernel_rfl) (by kernel_rfl) (by kernel_rfl) (by decide) (by first | exact fun _ _ _ h => h | exact fun _ _ _ h => by cases h.1) (Rws.grow _) (Rws.grow _) (by intro w h; simp only [Rws] at h ⊢; (try simp only [h, and_self])) (Or.inl ⟨by rfl, ?_⟩) hS ?_
  rotate_left
  · intro w' hS'
    simp only [Rws] at hS'
    go_simp
    refine ⟨?_, Below.refl _ _⟩
    rfl
  (try simp only [Act.put, List.setIfInBounds_toArray, List.set_cons_zero, List.set_cons_succ])
  refine wpAnyK_both (i := 12) (v := ?_) (by simp only [List.getElem?_toArray, List.getElem?_cons_succ, List.getElem?_cons_zero]; rfl) (by kernel_rfl) (by kernel_rfl) (by kernel_rfl) (by decide) (by first | exact fun _ _ _ h => h | exact fun _ _ _ h => by cases h.1) (Rws.grow _) (Rws.grow _) (by intro w h; simp only [Rws] at h ⊢; (try simp only [h, and_self])) (Or.inl ⟨by rfl, ?_⟩) hS ?_
  rotate_left
  · intro w' hS'
    simp only [Rws] at hS'
    go_simp
    refine ⟨?_, Below.refl _ _⟩
    rfl
  (try simp only [Act.put, List.setIfInBounds_toArray, List.set_cons_zero, List.set_cons_succ])
  refine wpAnyK_take (i := 13) (v := ?_) (by simp only [List.getElem?_toArray, List.getElem?_cons_succ, List.getElem?_cons_zero]; rfl) (by kernel_rfl) (by kernel_rfl) (by kernel_rfl) (by kernel_rfl) (by first | exact fun _ _ _ h => h | exact fun _ _ _ h => by cases h.1) (Rws.grow _) (Or.inl ⟨by rfl, ?_⟩) hS ?_
  rotate_left
  · intro w' hS'
    simp only [Rws] at hS'
    go_simp
    refine ⟨?_, Below.refl _ _⟩
    rfl
  (try simp only [Act.put, List.setIfInBounds_toArray, List.set_cons_zero, List.set_cons_succ])
  refine wpAnyK_store (k := 14) (by simp only [List.getElem?_toArray, List.getElem?_cons_succ, List.getElem?_cons_zero]; rfl) rfl rfl (by kernel_rfl) (fun u1 hu1 => ?_)
  have r1 : row u1 T = (u64s t).toArray := by rw [row_below hu1 zT]; exact hT
  have zu : w.heap.size ≤ u1.heap.size := hu1.size
  have hb1 : Below w.heap.size w u1 := Below.trans (Below.drew (Below.refl _ _)) (hu1.mono (Nat.le_refl _))
  clear hS hu1 hadd
  refine ⟨u1.setRow T (u64s (t.set at_ s)).toArray, by go_simp, trivial, fun hS => ?_⟩
  refine wpAnyR_take (i := 15) (v := ?_) (by simp only [List.getElem?_toArray, List.getElem?_cons_succ, List.getElem?_cons_zero]; rfl) (by kernel_rfl) (by kernel_rfl) (by kernel_rfl) (by first | exact fun _ _ _ h => h | exact fun _ _ _ h => by cases h.1) (Rws.grow _) (Or.inl ⟨by rfl, ?_⟩) hS ?_
  rotate_left
  · intro w' hS'
    simp only [Rws] at hS'
    go_simp
    refine ⟨?_, Below.refl _ _⟩
    rfl
  (try simp only [Act.put, List.setIfInBounds_toArray, List.set_cons_zero, List.set_cons_succ])
  refine wpAnyR_done (by kernel_rfl) (fun w2 h2 => ?_) _
  have r2 : row w2 T = (u64s (t.set at_ s)).toArray := by
    rw [row_below h2 (by simp; omega)]
    exact row_setRow_same (by rw [r1]; simp; omega) (by rw [r1]; simp)
  have c2 : BelowBut w.heap.size T w w2 := (BelowBut.of hb1).trans ((BelowBut.set _ _).trans (BelowBut.of (h2.mono (by simp; omega))))
  have z2 := c2.size
  clear hS h2 r1 hb1 zu
  go_wp2_with fail
  go_loopw [8, 10, 11] (fun vh vc i wr => ∃ (k : Nat) (q : AdS), k ≤ 3 - at_ ∧ upTo (fun k s => AdS.step (at_ + 1 + k) s) k ⟨t.set at_ s, hi, c⟩ = q ∧ vh = .int .u64 q.h ∧ vc = .int .u64 q.c ∧ i = .int .i64 ((at_ : Int) + 1 + (k : Int)) ∧ row wr T = (u64s q.t).toArray ∧ w.heap.size ≤ wr.heap.size ∧ BelowBut w.heap.size T w wr) (fun _ _ i _ => 4 - (intOf i).toNat)
  case atStart => exact ⟨0, _, by omega, by rw [upTo], rfl, rfl, by simp, r2, z2, c2⟩
  case round =>
    clear r2 c2 z2
    obtain ⟨k, q, hk, hq, rfl, rfl, rfl, rT, zr, cr⟩ := hrel
    have hqo := adUp_ok at_ _ hHb.out k
    rw [hq] at hqo
    have HQ := Lib.hid hq
    clear hq
    obtain ⟨qt, qh, qc⟩ := q
    obtain ⟨o1, o2, o3, o4⟩ := hqo
    simp only at o1 o2 o3 o4 rT
    by_cases hlt : k < 3 - at_
    · obtain ⟨n, hn⟩ : ∃ n, at_ + 1 + k = n := ⟨_, rfl⟩
      have en : (at_ : Int) + 1 + (k : Int) = (n : Int) := by omega
      have hn1 : (n : Int) < 4 := by omega
      have hn2 : n < 4 := by omega
      have kn : n < qt.length := by omega
      have hadd := add64_run (qt.getD n 0) qh qc o4
      rw [getD_elemN _ _ kn] at hadd
      have hstep : AdS.step n ⟨qt, qh, qc⟩ = ⟨qt.set n ((qt[n] + qh + qc) % 18446744073709551616), 0, (qt[n] + qh + qc) / 18446744073709551616⟩ := by
        rw [AdS.step, getD_elemN _ _ kn]
      obtain ⟨s', hs⟩ : ∃ m, (qt[n] + qh + qc) % 18446744073709551616 = m := ⟨_, rfl⟩
      obtain ⟨c', hc⟩ : ∃ m, (qt[n] + qh + qc) / 18446744073709551616 = m := ⟨_, rfl⟩
      rw [hs, hc] at hstep
      simp only [hs, hc] at hadd
      have HN := Lib.hid hn
      have HS := Lib.hid hstep
      clear hs hc hn hstep o2 o3 o4
      have zTr : T < wr.heap.size := by omega
      go_wp2_with fail
      refine wp_region_beginK 15 [(T, (u64s qt).toArray)] [] rfl (by simp only [Rws]; (repeat (first | exact trivial | refine ⟨(by first | assumption | (simp [go_sem, *]; done)), (by first | omega | (simp; done) | (simp; omega)), ?_⟩))) (fun hS => ?_)
      refine wpAnyK_take (i := 0) (v := ?_) (by simp only [List.getElem?_toArray, List.getElem?_cons_succ, List.getElem?_cons_zero]; rfl) (by kernel_rfl) (by kernel_rfl) (by kernel_rfl) (by kernel_rfl) (by first | exact fun _ _ _ h => h | exact fun _ _ _ h => by cases h.1) (Rws.grow _) (Or.inl ⟨by rfl, ?_⟩) hS ?_
      rotate_left
      · intro w' hS'
        simp only [Rws] at hS'
        go_simp
        refine ⟨?_, Below.refl _ _⟩
        rfl
      (try simp only [Act.put, List.setIfInBounds_toArray, List.set_cons_zero, List.set_cons_succ])
      refine wpAnyK_take (i := 1) (v := ?_) (by simp only [List.getElem?_toArray, List.getElem?_cons_succ, List.getElem?_cons_zero]; rfl) (by kernel_rfl) (by kernel_rfl) (by kernel_rfl) (by kernel_rfl) (by first | exact fun _ _ _ h => h | exact fun _ _ _ h => by cases h.1) (Rws.grow _) (Or.inl ⟨by rfl, ?_⟩) hS ?_
      rotate_left
      · intro w' hS'
        simp only [Rws] at hS'
        go_simp
        refine ⟨?_, Below.refl _ _⟩
        rfl
      (try simp only [Act.put, List.setIfInBounds_toArray, List.set_cons_zero, List.set_cons_succ])
      refine wpAnyK_take (i := 2) (v := ?_) (by simp only [List.getElem?_toArray, List.getElem?_cons_succ, List.getElem?_cons_zero]; rfl) (by kernel_rfl) (by kernel_rfl) (by kernel_rfl) (by kernel_rfl) (by first | exact fun _ _ _ h => h | exact fun _ _ _ h => by cases h.1) (Rws.grow _) (Or.inl ⟨by rfl, ?_⟩) hS ?_
      rotate_left
      · intro w' hS'
        simp only [Rws] at hS'
        go_simp
        refine ⟨?_, Below.refl _ _⟩
        rfl
      (try simp only [Act.put, List.setIfInBounds_toArray, List.set_cons_zero, List.set_cons_succ])
      refine wpAnyK_take (i := 3) (v := ?_) (by simp only [List.getElem?_toArray, List.getElem?_cons_succ, List.getElem?_cons_zero]; rfl) (by kernel_rfl) (by kernel_rfl) (by kernel_rfl) (by kernel_rfl) (by first | exact fun _ _ _ h => h | exact fun _ _ _ h => by cases h.1) (Rws.grow _) (Or.inl ⟨by rfl, ?_⟩) hS ?_
      rotate_left
      · intro w' hS'
        simp only [Rws] at hS'
        go_simp
        refine ⟨?_, Below.refl _ _⟩
        rfl
      (try simp only [Act.put, List.setIfInBounds_toArray, List.set_cons_zero, List.set_cons_succ])
      refine wpAnyK_take (i := 4) (v := ?_) (by simp only [List.getElem?_toArray, List.getElem?_cons_succ, List.getElem?_cons_zero]; rfl) (by kernel_rfl) (by kernel_rfl) (by kernel_rfl) (by kernel_rfl) (by first | exact fun _ _ _ h => h | exact fun _ _ _ h => by cases h.1) (Rws.grow _) (Or.inl ⟨by rfl, ?_⟩) hS ?_
      rotate_left
      · intro w' hS'
        simp only [Rws] at hS'
        go_simp
        refine ⟨?_, Below.refl _ _⟩
        rfl
      (try simp only [Act.put, List.setIfInBounds_toArray, List.set_cons_zero, List.set_cons_succ])
      refine wpAnyK_take (i := 5) (v := ?_) (by simp only [List.getElem?_toArray, List.getElem?_cons_succ, List.getElem?_cons_zero]; rfl) (by kernel_rfl) (by kernel_rfl) (by kernel_rfl) (by kernel_rfl) (by first | exact fun _ _ _ h => h | exact fun _ _ _ h => by cases h.1) (Rws.grow _) (Or.inl ⟨by rfl, ?_⟩) hS ?_
      rotate_left
      · intro w' hS'
        simp only [Rws] at hS'
        go_simp
        refine ⟨?_, Below.refl _ _⟩
        rfl
      (try simp only [Act.put, List.setIfInBounds_toArray, List.set_cons_zero, List.set_cons_succ])
      refine wpAnyK_take (i := 6) (v := ?_) (by simp only [List.getElem?_toArray, List.getElem?_cons_succ, List.getElem?_cons_zero]; rfl) (by kernel_rfl) (by kernel_rfl) (by kernel_rfl) (by kernel_rfl) (by first | exact fun _ _ _ h => h | exact fun _ _ _ h => by cases h.1) (Rws.grow _) (Or.inl ⟨by rfl, ?_⟩) hS ?_
      rotate_left
      · intro w' hS'
        simp only [Rws] at hS'
        go_simp
        refine ⟨?_, Below.refl _ _⟩
        rfl
      (try simp only [Act.put, List.setIfInBounds_toArray, List.set_cons_zero, List.set_cons_succ])
      refine wpAnyK_take (i := 7) (v := ?_) (by simp only [List.getElem?_toArray, List.getElem?_cons_succ, List.getElem?_cons_zero]; rfl) (by kernel_rfl) (by kernel_rfl) (by kernel_rfl) (by kernel_rfl) (by first | exact fun _ _ _ h => h | exact fun _ _ _ h => by cases h.1) (Rws.grow _) (Or.inl ⟨by rfl, ?_⟩) hS ?_
      rotate_left
      · intro w' hS'
        simp only [Rws] at hS'
        go_simp
        refine ⟨?_, Below.refl _ _⟩
        rfl
      (try simp only [Act.put, List.setIfInBounds_toArray, List.set_cons_zero, List.set_cons_succ])
      refine wpAnyK_take (i := 8) (v := ?_) (by simp only [List.getElem?_toArray, List.getElem?_cons_succ, List.getElem?_cons_zero]; rfl) (by kernel_rfl) (by kernel_rfl) (by kernel_rfl) (by kernel_rfl) (by first | exact fun _ _ _ h => h | exact fun _ _ _ h => by cases h.1) (Rws.grow _) (Or.inl ⟨by rfl, ?_⟩) hS ?_
      rotate_left
      · intro w' hS'
        simp only [Rws] at hS'
        go_simp
        refine ⟨?_, Below.refl _ _⟩
        rfl
      (try simp only [Act.put, List.setIfInBounds_toArray, List.set_cons_zero, List.set_cons_succ])
      refine wpAnyK_take (i := 9) (v := ?_) (by simp only [List.getElem?_toArray, List.getElem?_cons_succ, List.getElem?_cons_zero]; rfl) (by kernel_rfl) (by kernel_rfl) (by kernel_rfl) (by kernel_rfl) (by first | exact fun _ _ _ h => h | exact fun _ _ _ h => by cases h.1) (Rws.grow _) (Or.inl ⟨by rfl, ?_⟩) hS ?_
      rotate_left
      · intro w' hS'
        simp only [Rws] at hS'
        go_simp
        refine ⟨?_, Below.refl _ _⟩
        rfl
      (try simp only [Act.put, List.setIfInBounds_toArray, List.set_cons_zero, List.set_cons_succ])
      refine wpAnyK_take (i := 10) (v := ?_) (by simp only [List.getElem?_toArray, List.getElem?_cons_succ, List.getElem?_cons_zero]; rfl) (by kernel_rfl) (by kernel_rfl) (by kernel_rfl) (by kernel_rfl) (by first | exact fun _ _ _ h => h | exact fun _ _ _ h => by cases h.1) (Rws.grow _) (Or.inl ⟨by rfl, ?_⟩) hS ?_
      rotate_left
      · intro w' hS'
        simp only [Rws] at hS'
        go_simp
        refine ⟨?_, Below.refl _ _⟩
        rfl
      (try simp only [Act.put, List.setIfInBounds_toArray, List.set_cons_zero, List.set_cons_succ])
      refine wpAnyK_take (i := 11) (v := ?_) (by simp only [List.getElem?_toArray, List.getElem?_cons_succ, List.getElem?_cons_zero]; rfl) (by kernel_rfl) (by kernel_rfl) (by kernel_rfl) (by kernel_rfl) (by first | exact fun _ _ _ h => h | exact fun _ _ _ h => by cases h.1) (Rws.grow _) (Or.inl ⟨by rfl, ?_⟩) hS ?_
      rotate_left
      · intro w' hS'
        simp only [Rws] at hS'
        go_simp
        refine ⟨?_, Below.refl _ _⟩
        rfl
      (try simp only [Act.put, List.setIfInBounds_toArray, List.set_cons_zero, List.set_cons_succ])
      refine wpAnyK_both (i := 12) (v := ?_) (by simp only [List.getElem?_toArray, List.getElem?_cons_succ, List.getElem?_cons_zero]; rfl) (by kernel_rfl) (by kernel_rfl) (by kernel_rfl) (by decide) (by first | exact fun _ _ _ h => h | exact fun _ _ _ h => by cases h.1) (Rws.grow _) (Rws.grow _) (by intro w h; simp only [Rws] at h ⊢; (try simp only [h, and_self])) (Or.inl ⟨by rfl, ?_⟩) hS ?_
      rotate_left
      · intro w' hS'
        simp only [Rws] at hS'
        go_simp
        refine ⟨?_, Below.refl _ _⟩
        rfl
      (try simp only [Act.put, List.setIfInBounds_toArray, List.set_cons_zero, List.set_cons_succ])
      refine wpAnyK_both (i := 13) (v := ?_) (by simp only [List.getElem?_toArray, List.getElem?_cons_succ, List.getElem?_cons_zero]; rfl) (by kernel_rfl) (by kernel_rfl) (by kernel_rfl) (by decide) (by first | exact fun _ _ _ h => h | exact fun _ _ _ h => by cases h.1) (Rws.grow _) (Rws.grow _) (by intro w h; simp only [Rws] at h ⊢; (try simp only [h, and_self])) (Or.inl ⟨by rfl, ?_⟩) hS ?_
      rotate_left
      · intro w' hS'
        simp only [Rws] at hS'
        go_simp
        refine ⟨?_, Below.refl _ _⟩
        rfl
      (try simp only [Act.put, List.setIfInBounds_toArray, List.set_cons_zero, List.set_cons_succ])
      refine wpAnyK_take (i := 14) (v := ?_) (by simp only [List.getElem?_toArray, List.getElem?_cons_succ, List.getElem?_cons_zero]; rfl) (by kernel_rfl) (by kernel_rfl) (by kernel_rfl) (by kernel_rfl) (by first | exact fun _ _ _ h => h | exact fun _ _ _ h => by cases h.1) (Rws.grow _) (Or.inl ⟨by rfl, ?_⟩) hS ?_
      rotate_left
      · intro w' hS'
        simp only [Rws] at hS'
        go_simp
        refine ⟨?_, Below.refl _ _⟩
        rfl
      (try simp only [Act.put, List.setIfInBounds_toArray, List.set_cons_zero, List.set_cons_succ])
      refine wpAnyK_store (k := 15) (by simp only [List.getElem?_toArray, List.getElem?_cons_succ, List.getElem?_cons_zero]; rfl) rfl rfl (by kernel_rfl) (fun u1 hu1 => ?_)
      have r1 : row u1 T = (u64s qt).toArray := by rw [row_below hu1 zTr]; exact rT
      have zu : wr.heap.size ≤ u1.heap.size := hu1.size
      have hb1 : Below wr.heap.size wr u1 := Below.trans (Below.drew (Below.refl _ _)) (hu1.mono (Nat.le_refl _))
      clear hS hu1 hadd
      refine ⟨u1.setRow T (u64s (qt.set n s')).toArray, by go_simp, trivial, fun hS => ?_⟩
      refine wpAnyR_take (i := 16) (v := ?_) (by simp only [List.getElem?_toArray, List.getElem?_cons_succ, List.getElem?_cons_zero]; rfl) (by kernel_rfl) (by kernel_rfl) (by kernel_rfl) (by first | exact fun _ _ _ h => h | exact fun _ _ _ h => by cases h.1) (Rws.grow _) (Or.inl ⟨by rfl, ?_⟩) hS ?_
      rotate_left
      · intro w' hS'
        simp only [Rws] at hS'
        go_simp
        refine ⟨?_, Below.refl _ _⟩
        rfl
      (try simp only [Act.put, List.setIfInBounds_toArray, List.set_cons_zero, List.set_cons_succ])
      refine wpAnyR_done (by kernel_rfl) (fun w2 h2 => ?_) _
      have r2 : row w2 T = (u64s (qt.set n s')).toArray := by
        rw [row_below h2 (by simp; omega)]
        exact row_setRow_same (by rw [r1]; simp; omega) (by rw [r1]; simp)
      have c2 : BelowBut wr.heap.size T wr w2 := (BelowBut.of hb1).trans ((BelowBut.set _ _).trans (BelowBut.of (h2.mono (by simp; omega))))
      have z2 := c2.size
      clear hS h2 r1 hb1 zu
      go_wp2_with fail
      go_roundw
      case rel =>
        refine ⟨k + 1, ⟨qt.set n s', 0, c'⟩, by omega, ?_, rfl, rfl, ?_, r2, by omega, cr.trans (c2.mono zr)⟩
        · rw [upTo, HQ.out, HN.out]; exact HS.out
        · have := HN.out
          congr 1
          omega
      case measure => have := HN.out; simp [intOf]; omega
    · obtain rfl : k = 3 - at_ := by omega
      have e4 : (at_ : Int) + 1 + ((3 - at_ : Nat) : Int) = 4 := by omega
      rw [e4]
      clear e4
      go_wp2_with fail
      go_end0
      exact ⟨rfl, by rw [HQ.out]; exact rT, cr⟩
end Go.Proofs.Ytjeclimoknilcaa
