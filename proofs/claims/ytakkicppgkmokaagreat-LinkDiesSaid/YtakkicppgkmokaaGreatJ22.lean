/- Texts of this proof, merged: PolO, PolA, PolT. -/
import Derived.Test.YtakkicppgkmokaaGreatPolJ
set_option linter.unusedSimpArgs false
set_option linter.unusedVariables false
namespace Go.Proofs.YtakkicppgkmokaaGreat
section
open Go.RowKit
def u64s (l : List Nat) : List Value := l.map fun n : Nat => Value.int .u64 (n : Int)
@[simp] theorem u64s_length (l : List Nat) : (u64s l).length = l.length := by simp [u64s]
@[simp] theorem ones_u64s (l : List Nat) : ones (u64s l) = true := by simp [ones, u64s, Value.oneCell']
@[simp] theorem u64s_get (l : List Nat) (i : Nat) (h : i < (u64s l).length) : (u64s l)[i] = .int .u64 ((l[i]'(by simpa using h) : Nat) : Int) := by simp [u64s]
@[simp] theorem u64s_set (l : List Nat) (i : Nat) (v : Nat) : (u64s l).set i (.int .u64 (v : Int)) = u64s (l.set i v) := by simp [u64s, List.map_set]
theorem getD_elemN (l : List Nat) (i : Nat) (h : i < l.length) : l.getD i 0 = l[i] := by simp [List.getD_eq_getElem?_getD, h]
def part8 (t : List UInt8) (j : Nat) : Nat := leN ((t.drop (8 * j)).take 8)
def ofM (t : List UInt8) (k : Nat) : List Nat := (List.range 3).map fun j => if j < k then part8 t j else 0
theorem ofM_length (t : List UInt8) (k : Nat) : (ofM t k).length = 3 := by simp [ofM]
theorem ofM_succ (t : List UInt8) (k : Nat) : ofM t (k + 1) = (ofM t k).set k (part8 t k) := by
 apply List.ext_getElem (by simp [ofM])
 intro i h1 h2
 rw [List.getElem_set]
 simp only [ofM, List.getElem_map, List.getElem_range]
 by_cases e : k = i
 ·
  subst e; simp
 ·
  rw [if_neg e]
  by_cases h : i < k
  ·
   rw [if_pos (by omega), if_pos h]
  ·
   rw [if_neg (by omega), if_neg h]
theorem ofM_same (t : List UInt8) (k : Nat) (h : t.length ≤ 8 * k) : ofM t (k + 1) = ofM t k := by
 apply List.ext_getElem (by simp [ofM])
 intro i h1 h2
 simp only [ofM, List.getElem_map, List.getElem_range]
 by_cases e : i = k
 ·
  subst e
  rw [if_pos (by omega), if_neg (by omega), part8, List.drop_of_length_le h]
  rfl
 ·
  by_cases h : i < k
  ·
   rw [if_pos (by omega), if_pos h]
  ·
   rw [if_neg (by omega), if_neg h]
def ofN (s : List UInt8) : Num := ⟨part8 (s ++ [1]) 0, part8 (s ++ [1]) 1, part8 (s ++ [1]) 2⟩
theorem part8_lt (t : List UInt8) (j : Nat) : lt64 (part8 t j) := leN_lt64 _ (by simp; omega)
theorem ofN_lt (s : List UInt8) : (ofN s).lt := ⟨part8_lt _ _, part8_lt _ _, part8_lt _ _⟩
attribute [local irreducible] ofM part8
set_option maxRecDepth 20000 in
set_option maxHeartbeats 1000000 in
theorem pof_any (s : List UInt8) (w : World) (hs : s.length ≤ 16) :
  Calls Tryz.prog 140 #[.string ⟨s.toArray⟩] w fun e w' => e = .returned (.agg (ofN s).cells.toArray) ∧ Below w.heap.size w w' := by
 obtain ⟨t, ht⟩ : ∃ t, s ++ [1] = t := ⟨_, rfl⟩
 have htl : t.length ≤ 17 := by rw [← ht]; simp; omega
 have hres : (ofN s).cells = u64s (ofM t 3) := by rw [← ht]; unfold ofM; rfl
 rw [hres]
 have h3 := ofM_length t
 go_enter Tryz.func140, Tryz.ntmps140
 have HT := Lib.hid ht
 clear hres
 go_wp2_with fail
 (try simp only [ht])
 clear ht
 go_loopw [7] (fun i wr => ∃ k : Nat, k ≤ 3 ∧ i = .int .i64 k ∧ row wr (w.heap.size + 1) = (u64s (ofM t k)).toArray ∧ row wr w.heap.size = (zeros 3 (Value.int .u64 0)).toArray ∧ w.heap.size + 1 < wr.heap.size ∧ Below w.heap.size w wr) (fun i _ => 3 - (intOf i).toNat)
 case atStart =>
  refine ⟨0, by omega, rfl, ?_, by simp [go_sem], by simp, (by (repeat (first | exact Below.refl _ _ | refine Below.al ?_ _ | refine Below.drew ?_ | refine Below.sr ?_ _ | refine Below.sc ?_ _)))⟩
  rw [row_alloc_at _ _ _ (by simp)]
  unfold ofM
  rfl
 case round =>
  obtain ⟨k, hk, rfl, hV, hR, hz, hbel⟩ := hrel
  obtain ⟨L, hL⟩ : ∃ L, ofM t k = L := ⟨_, rfl⟩
  have hLl : L.length = 3 := by rw [← hL]; exact ofM_length _ _
  rw [hL] at hV
  have HL := Lib.hid hL
  clear hL h3
  by_cases hlt : k < 3
  ·
   have h1 : (k : Int) < 3 := by omega
   have hk1 : k < L.length := by omega
   by_cases hc : 8 * k < t.length
   ·
    have hc1 : (8 : Int) * (k : Int) < t.length := by omega
    have hpw := fun w => pword_any ((t.drop (8 * k)).take 8) w (by simp; omega)
    obtain ⟨x, hx⟩ : ∃ x, leN ((t.drop (8 * k)).take 8) = x := ⟨_, rfl⟩
    rw [hx] at hpw
    have HX := Lib.hid (show part8 t k = x by unfold part8; exact hx)
    clear hx
    by_cases hf : 8 * k + 8 ≤ t.length
    ·
     have hf1 : ¬ (t.length : Int) < 8 * (k : Int) + 8 := by omega
     have hf2 : (8 : Int) * (k : Int) + 8 ≤ t.length := by omega
     have KP := Lib.hid hpw
     clear hpw
     go_wp2_with fail
     rw [show List.take ((min (8 * (k : Int) + 8) (t.length : Int)).toNat - 8 * k) (List.drop (8 * k) t) = (t.drop (8 * k)).take 8 from by rw [List.take_eq_take_iff]; simp; omega]
     (with_reducible refine (KP.out _).mono ?_)
     rintro e w1 ⟨rfl, b1⟩
     have z1 := b1.size
     have hV1 := (row_below b1 (by omega)).trans hV
     have hR1 := (row_below b1 (by omega)).trans hR
     clear KP
     go_wp2_with fail
     go_roundw
     case rel =>
      refine ⟨k + 1, by omega, rfl, ?_, by (try show row (World.setRow _ _ _) _ = _); rw [row_setRow_other _ _ _ (by omega)]; exact hR1, by simp; omega, Below.setRow (Below.trans hbel (b1.mono (by omega))) (by omega) _⟩
      rw [ofM_succ, HL.out, HX.out]
      exact row_setRow_same (by rw [hV1]; simp; omega) (by rw [hV1]; simp)
     case measure => simp [intOf]; omega
    ·
     have hf1 : (t.length : Int) < 8 * (k : Int) + 8 := by omega
     have KP := Lib.hid hpw
     clear hpw
     go_wp2_with fail
     rw [show List.take ((min (8 * (k : Int) + 8) (t.length : Int)).toNat - 8 * k) (List.drop (8 * k) t) = (t.drop (8 * k)).take 8 from by rw [List.take_eq_take_iff]; simp; omega]
     (with_reducible refine (KP.out _).mono ?_)
     rintro e w1 ⟨rfl, b1⟩
     have z1 := b1.size
     have hV1 := (row_below b1 (by omega)).trans hV
     have hR1 := (row_below b1 (by omega)).trans hR
     clear KP
     go_wp2_with fail
     go_roundw
     case rel =>
      refine ⟨k + 1, by omega, rfl, ?_, by (try show row (World.setRow _ _ _) _ = _); rw [row_setRow_other _ _ _ (by omega)]; exact hR1, by simp; omega, Below.setRow (Below.trans hbel (b1.mono (by omega))) (by omega) _⟩
      rw [ofM_succ, HL.out, HX.out]
      exact row_setRow_same (by rw [hV1]; simp; omega) (by rw [hV1]; simp)
     case measure => simp [intOf]; omega
   ·
    have hc1 : ¬ (8 : Int) * (k : Int) < t.length := by omega
    go_wp2_with fail
    go_roundw
    case rel =>
     refine ⟨k + 1, by omega, rfl, ?_, hR, hz, hbel⟩
     rw [ofM_same t k (by omega), HL.out]
     exact hV
    case measure => simp [intOf]; omega
  ·
   obtain rfl : k = 3 := by omega
   rw [show ((3 : Nat) : Int) = 3 from rfl]
   have e : L = ofM t 3 := HL.out.symm
   rw [e] at hV hLl
   go_wp2_with fail
   have hfin := row_setRow_same (w := wr) (g := w.heap.size) (c := (u64s (ofM t 3)).toArray) (by rw [hR]; simp) (by rw [hR]; simp [hLl])
   (try simp only [Exit.inBlock, Exit.then])
   refine bodyPost_ret (results_1 rfl (resOk_row rfl ?_)) rfl ?_
   ·
    rw [hfin]
    simp [hLl]
   refine ⟨by rw [hfin], ?_⟩
   exact Below.setRow hbel (by omega) _
end
section
open Go.RowKit
def all64 (l : List Nat) : Prop := ∀ i, lt64 (l.getD i 0)
theorem all64_set {l : List Nat} (h : all64 l) (i v : Nat) (hv : lt64 v) : all64 (l.set i v) := by
 intro j
 have := h j
 simp only [List.getD_eq_getElem?_getD, List.getElem?_set] at *
 split
 ·
  split
  ·
   exact hv
  ·
   show lt64 0
   unfold lt64; decide
 ·
  exact this
structure AdS where
 t : List Nat
 h : Nat
 c : Nat
def AdS.step (i : Nat) (s : AdS) : AdS := ⟨s.t.set i ((s.t.getD i 0 + s.h + s.c) % 18446744073709551616), 0, (s.t.getD i 0 + s.h + s.c) / 18446744073709551616⟩
def AdS.ok (s : AdS) : Prop := s.t.length = 4 ∧ all64 s.t ∧ lt64 s.h ∧ s.c ≤ 1
theorem AdS.step_ok (i : Nat) (s : AdS) (h : s.ok) : (s.step i).ok := by
 obtain ⟨h1, h2, h3, h4⟩ := h
 exact ⟨by simpa [AdS.step] using h1, all64_set h2 _ _ (lt64_mod _), by show lt64 0; unfold lt64; decide, carry_le _ _ _ (h2 i) h3 h4⟩
def adBegin (t : List Nat) (at_ x y : Nat) : AdS :=
 ⟨t.set at_ ((t.getD at_ 0 + x * y % 18446744073709551616) % 18446744073709551616), x * y / 18446744073709551616, (t.getD at_ 0 + x * y % 18446744073709551616) / 18446744073709551616⟩
def addL (t : List Nat) (at_ x y : Nat) : List Nat := (upTo (fun k s => AdS.step (at_ + 1 + k) s) (3 - at_) (adBegin t at_ x y)).t
theorem hi64 (x y : Nat) (hx : lt64 x) (hy : lt64 y) : lt64 (x * y / 18446744073709551616) := by
 unfold lt64 at *
 have := Nat.mul_lt_mul'' hx hy
 rw [Nat.div_lt_iff_lt_mul (by decide)]
 exact this
theorem adBegin_ok (t : List Nat) (at_ x y : Nat) (ht : t.length = 4) (ha : all64 t) (hx : lt64 x) (hy : lt64 y) : (adBegin t at_ x y).ok :=
 ⟨by simpa [adBegin] using ht, all64_set ha _ _ (lt64_mod _), hi64 x y hx hy, by have := carry_le (t.getD at_ 0) (x * y % 18446744073709551616) 0 (ha _) (lt64_mod _) (by omega); simpa [adBegin] using this⟩
theorem adUp_ok (at_ : Nat) (s : AdS) (h : s.ok) (k : Nat) : (upTo (fun k s => AdS.step (at_ + 1 + k) s) k s).ok := by
 induction k with
 | zero => exact h
 | succ k ih => exact AdS.step_ok _ _ ih
theorem addL_ok (t : List Nat) (at_ x y : Nat) (ht : t.length = 4) (ha : all64 t) (hx : lt64 x) (hy : lt64 y) : (addL t at_ x y).length = 4 ∧ all64 (addL t at_ x y) :=
 have h := adUp_ok at_ _ (adBegin_ok t at_ x y ht ha hx hy) (3 - at_)
 ⟨h.1, h.2.1⟩
attribute [local irreducible] upTo
set_option maxRecDepth 20000 in
set_option maxHeartbeats 2000000 in
theorem add_any (t : List Nat) (at_ x y T : Nat) (w : World) (ht : t.length = 4) (ha : all64 t) (hat : at_ < 4) (hx : lt64 x) (hy : lt64 y) (hT : row w T = (u64s t).toArray) :
  Calls Tryz.prog 162 #[.pointer (some ⟨T, 0, none⟩), .int .i64 at_, .int .u64 x, .int .u64 y] w fun e w' => e = .returned (.tuple #[]) ∧ row w' T = (u64s (addL t at_ x y)).toArray ∧ BelowBut w.heap.size T w w' := by
 have zT : T < w.heap.size := lt_of_row (i := 0) (by rw [hT]; simp; omega)
 have hb0 := adBegin_ok t at_ x y ht ha hx hy
 have hres : addL t at_ x y = (upTo (fun k s => AdS.step (at_ + 1 + k) s) (3 - at_) (adBegin t at_ x y)).t := rfl
 have hmul := fun w => Tryz.bits_Mul64 x y (by have := hx; unfold lt64 at this; exact this) (by have := hy; unfold lt64 at this; exact this) w
 have hadd := add64_run0 (t.getD at_ 0) (x * y % 18446744073709551616)
 have kat : at_ < t.length := by omega
 rw [getD_elemN _ _ kat] at hadd
 have hbeg : adBegin t at_ x y = ⟨t.set at_ ((t[at_] + x * y % 18446744073709551616) % 18446744073709551616), x * y / 18446744073709551616, (t[at_] + x * y % 18446744073709551616) / 18446744073709551616⟩ := by
  rw [adBegin, getD_elemN _ _ kat]
 rw [hres]
 rw [hbeg] at hb0 ⊢
 clear hbeg hres
 obtain ⟨lo, hlo⟩ : ∃ n, x * y % 18446744073709551616 = n := ⟨_, rfl⟩
 obtain ⟨hi, hhi⟩ : ∃ n, x * y / 18446744073709551616 = n := ⟨_, rfl⟩
 simp only [hlo, hhi] at hmul hadd hb0 ⊢
 obtain ⟨s, hs⟩ : ∃ n, (t[at_] + lo) % 18446744073709551616 = n := ⟨_, rfl⟩
 obtain ⟨c, hc⟩ : ∃ n, (t[at_] + lo) / 18446744073709551616 = n := ⟨_, rfl⟩
 simp only [hs, hc] at hadd hb0 ⊢
 clear hlo hhi hs hc
 have KM := Lib.hid hmul
 clear hmul
 have hat1 : (at_ : Int) < 4 := by omega
 have hHb := Lib.hid hb0
 clear hb0
 go_enter Tryz.func162, Tryz.ntmps162
 go_wp2_with fail
 (with_reducible refine (KM.out _).mono ?_)
 rintro e w1 ⟨rfl, hw1⟩
 rw [hw1]
 clear hw1 w1
 go_wp2_with fail
 refine wp_region_beginK 14 [(T, (u64s t).toArray)] [] rfl (by simp only [Rws]; (repeat (first | exact trivial | refine ⟨(by first | assumption | (simp [go_sem, *]; done)), (by first | omega | (simp; done) | (simp; omega)), ?_⟩))) (fun hS => ?_)
 refine kp 0 hS ?_
 refine kp 1 hS ?_
 refine kp 2 hS ?_
 refine kp 3 hS ?_
 refine kp 4 hS ?_
 refine kp 5 hS ?_
 refine kp 6 hS ?_
 refine kp 7 hS ?_
 refine kp 8 hS ?_
 refine kp 9 hS ?_
 refine kp 10 hS ?_
 refine wpAnyK_both (i := 11) (v := ?_) (by simp only [List.getElem?_toArray, List.getElem?_cons_succ, List.getElem?_cons_zero]; rfl) (by kernel_rfl) (by kernel_rfl) (by kernel_rfl) (by decide) (by first | exact fun _ _ _ h => h | exact fun _ _ _ h => by cases h.1) (Rws.grow _) (Rws.grow _) (by intro w h; simp only [Rws] at h ⊢; (try simp only [h, and_self])) (Or.inl ⟨by rfl, ?_⟩) hS ?_
 rotate_left
 ·
  intro w' hS'
  simp only [Rws] at hS'
  go_simp
  refine ⟨?_, Below.refl _ _⟩
  rfl
 (try simp only [Act.put, List.setIfInBounds_toArray, List.set_cons_zero, List.set_cons_succ])
 refine wpAnyK_both (i := 12) (v := ?_) (by simp only [List.getElem?_toArray, List.getElem?_cons_succ, List.getElem?_cons_zero]; rfl) (by kernel_rfl) (by kernel_rfl) (by kernel_rfl) (by decide) (by first | exact fun _ _ _ h => h | exact fun _ _ _ h => by cases h.1) (Rws.grow _) (Rws.grow _) (by intro w h; simp only [Rws] at h ⊢; (try simp only [h, and_self])) (Or.inl ⟨by rfl, ?_⟩) hS ?_
 rotate_left
 ·
  intro w' hS'
  simp only [Rws] at hS'
  go_simp
  refine ⟨?_, Below.refl _ _⟩
  rfl
 (try simp only [Act.put, List.setIfInBounds_toArray, List.set_cons_zero, List.set_cons_succ])
 refine kp 13 hS ?_
 refine wpAnyK_store (k := 14) (by simp only [List.getElem?_toArray, List.getElem?_cons_succ, List.getElem?_cons_zero]; rfl) rfl rfl (by kernel_rfl) (fun u1 hu1 => ?_)
 have r1 : row u1 T = (u64s t).toArray := by rw [row_below hu1 zT]; exact hT
 have zu : w.heap.size ≤ u1.heap.size := hu1.size
 have hb1 : Below w.heap.size w u1 := Below.trans (Below.drew (Below.refl _ _)) (hu1.mono (Nat.le_refl _))
 clear hS hu1 hadd
 refine ⟨u1.setRow T (u64s (t.set at_ s)).toArray, by go_simp, trivial, fun hS => ?_⟩
 refine qp 15 hS ?_
 refine wpAnyR_done (by kernel_rfl) (fun w2 h2 => ?_) _
 have r2 : row w2 T = (u64s (t.set at_ s)).toArray := by
  rw [row_below h2 (by simp; omega)]
  exact row_setRow_same (by rw [r1]; simp; omega) (by rw [r1]; simp)
 have c2 : BelowBut w.heap.size T w w2 := (BelowBut.of hb1).trans ((BelowBut.set _ _).trans (BelowBut.of (h2.mono (by simp; omega))))
 have z2 := c2.size
 clear hS h2 r1 hb1 zu
 go_wp2_with fail
 go_loopw [8, 10, 11] (fun vh vc i wr => ∃ (k : Nat) (q : AdS), k ≤ 3 - at_ ∧ upTo (fun k s => AdS.step (at_ + 1 + k) s) k ⟨t.set at_ s, hi, c⟩ = q ∧ vh = .int .u64 q.h ∧ vc = .int .u64 q.c ∧ i = .int .i64 ((at_ : Int) + 1 + (k : Int)) ∧ row wr T = (u64s q.t).toArray ∧ w.heap.size ≤ wr.heap.size ∧ BelowBut w.heap.size T w wr) (fun _ _ i _ => 4 - (intOf i).toNat)
 case atStart => exact ⟨0, _, by omega, by rw [upTo], rfl, rfl, by simp, r2, z2, c2⟩
 case round =>
  clear r2 c2 z2
  obtain ⟨k, q, hk, hq, rfl, rfl, rfl, rT, zr, cr⟩ := hrel
  have hqo := adUp_ok at_ _ hHb.out k
  rw [hq] at hqo
  have HQ := Lib.hid hq
  clear hq
  obtain ⟨qt, qh, qc⟩ := q
  obtain ⟨o1, o2, o3, o4⟩ := hqo
  simp only at o1 o2 o3 o4 rT
  by_cases hlt : k < 3 - at_
  ·
   obtain ⟨n, hn⟩ : ∃ n, at_ + 1 + k = n := ⟨_, rfl⟩
   have en : (at_ : Int) + 1 + (k : Int) = (n : Int) := by omega
   have hn1 : (n : Int) < 4 := by omega
   have hn2 : n < 4 := by omega
   have kn : n < qt.length := by omega
   have hadd := add64_run (qt.getD n 0) qh qc o4
   rw [getD_elemN _ _ kn] at hadd
   have hstep : AdS.step n ⟨qt, qh, qc⟩ = ⟨qt.set n ((qt[n] + qh + qc) % 18446744073709551616), 0, (qt[n] + qh + qc) / 18446744073709551616⟩ := by
    rw [AdS.step, getD_elemN _ _ kn]
   obtain ⟨s', hs⟩ : ∃ m, (qt[n] + qh + qc) % 18446744073709551616 = m := ⟨_, rfl⟩
   obtain ⟨c', hc⟩ : ∃ m, (qt[n] + qh + qc) / 18446744073709551616 = m := ⟨_, rfl⟩
   rw [hs, hc] at hstep
   simp only [hs, hc] at hadd
   have HN := Lib.hid hn
   have HS := Lib.hid hstep
   clear hs hc hn hstep o2 o3 o4
   have zTr : T < wr.heap.size := by omega
   go_wp2_with fail
   refine wp_region_beginK 15 [(T, (u64s qt).toArray)] [] rfl (by simp only [Rws]; (repeat (first | exact trivial | refine ⟨(by first | assumption | (simp [go_sem, *]; done)), (by first | omega | (simp; done) | (simp; omega)), ?_⟩))) (fun hS => ?_)
   refine kp 0 hS ?_
   refine kp 1 hS ?_
   refine kp 2 hS ?_
   refine kp 3 hS ?_
   refine kp 4 hS ?_
   refine kp 5 hS ?_
   refine kp 6 hS ?_
   refine kp 7 hS ?_
   refine kp 8 hS ?_
   refine kp 9 hS ?_
   refine kp 10 hS ?_
   refine kp 11 hS ?_
   refine wpAnyK_both (i := 12) (v := ?_) (by simp only [List.getElem?_toArray, List.getElem?_cons_succ, List.getElem?_cons_zero]; rfl) (by kernel_rfl) (by kernel_rfl) (by kernel_rfl) (by decide) (by first | exact fun _ _ _ h => h | exact fun _ _ _ h => by cases h.1) (Rws.grow _) (Rws.grow _) (by intro w h; simp only [Rws] at h ⊢; (try simp only [h, and_self])) (Or.inl ⟨by rfl, ?_⟩) hS ?_
   rotate_left
   ·
    intro w' hS'
    simp only [Rws] at hS'
    go_simp
    refine ⟨?_, Below.refl _ _⟩
    rfl
   (try simp only [Act.put, List.setIfInBounds_toArray, List.set_cons_zero, List.set_cons_succ])
   refine wpAnyK_both (i := 13) (v := ?_) (by simp only [List.getElem?_toArray, List.getElem?_cons_succ, List.getElem?_cons_zero]; rfl) (by kernel_rfl) (by kernel_rfl) (by kernel_rfl) (by decide) (by first | exact fun _ _ _ h => h | exact fun _ _ _ h => by cases h.1) (Rws.grow _) (Rws.grow _) (by intro w h; simp only [Rws] at h ⊢; (try simp only [h, and_self])) (Or.inl ⟨by rfl, ?_⟩) hS ?_
   rotate_left
   ·
    intro w' hS'
    simp only [Rws] at hS'
    go_simp
    refine ⟨?_, Below.refl _ _⟩
    rfl
   (try simp only [Act.put, List.setIfInBounds_toArray, List.set_cons_zero, List.set_cons_succ])
   refine kp 14 hS ?_
   refine wpAnyK_store (k := 15) (by simp only [List.getElem?_toArray, List.getElem?_cons_succ, List.getElem?_cons_zero]; rfl) rfl rfl (by kernel_rfl) (fun u1 hu1 => ?_)
   have r1 : row u1 T = (u64s qt).toArray := by rw [row_below hu1 zTr]; exact rT
   have zu : wr.heap.size ≤ u1.heap.size := hu1.size
   have hb1 : Below wr.heap.size wr u1 := Below.trans (Below.drew (Below.refl _ _)) (hu1.mono (Nat.le_refl _))
   clear hS hu1 hadd
   refine ⟨u1.setRow T (u64s (qt.set n s')).toArray, by go_simp, trivial, fun hS => ?_⟩
   refine qp 16 hS ?_
   refine wpAnyR_done (by kernel_rfl) (fun w2 h2 => ?_) _
   have r2 : row w2 T = (u64s (qt.set n s')).toArray := by
    rw [row_below h2 (by simp; omega)]
    exact row_setRow_same (by rw [r1]; simp; omega) (by rw [r1]; simp)
   have c2 : BelowBut wr.heap.size T wr w2 := (BelowBut.of hb1).trans ((BelowBut.set _ _).trans (BelowBut.of (h2.mono (by simp; omega))))
   have z2 := c2.size
   clear hS h2 r1 hb1 zu
   go_wp2_with fail
   go_roundw
   case rel =>
    refine ⟨k + 1, ⟨qt.set n s', 0, c'⟩, by omega, ?_, rfl, rfl, ?_, r2, by omega, cr.trans (c2.mono zr)⟩
    ·
     rw [upTo, HQ.out, HN.out]; exact HS.out
    ·
     have := HN.out
     congr 1
     omega
   case measure => have := HN.out; simp [intOf]; omega
  ·
   obtain rfl : k = 3 - at_ := by omega
   have e4 : (at_ : Int) + 1 + ((3 - at_ : Nat) : Int) = 4 := by omega
   rw [e4]
   clear e4
   go_wp2_with fail
   go_end0
   exact ⟨rfl, by rw [HQ.out]; exact rT, cr⟩
end
section
open Go.RowKit
def Num.list (x : Num) : List Nat := [x.a, x.b, x.c]
theorem Num.cells_eq (x : Num) : x.cells = u64s x.list := rfl
def rowP (x r : List Nat) (i : Nat) (t : List Nat) : List Nat := upTo (fun j t => addL t (i + j) (x.getD i 0) (r.getD j 0)) 2 t
def prodT (x r : List Nat) : List Nat := upTo (rowP x r) 3 [0, 0, 0, 0]
def lowT (t : List Nat) : Num := ⟨t.getD 0 0, t.getD 1 0, t.getD 2 0 % 4⟩
def highT (t : List Nat) : Num := ⟨t.getD 2 0 / 4 + t.getD 3 0 % 4 * 4611686018427387904, t.getD 3 0 / 4, 0⟩
def sumT (t : List Nat) : Num := upTo (fun _ o => Num.plus o (highT t)) 5 (lowT t)
def Num.times (x : Num) (r0 r1 : Nat) : Num := sumT (prodT x.list [r0, r1])
def ok4 (t : List Nat) : Prop := t.length = 4 ∧ all64 t
theorem all64_list {l : List Nat} (h : ∀ n ∈ l, lt64 n) : all64 l := by
 intro i
 rw [List.getD_eq_getElem?_getD]
 cases hi : l[i]? with
 | none => show lt64 0; unfold lt64; decide
 | some v => exact h v (List.mem_of_getElem? hi)
theorem rowIn_ok (x r : List Nat) (hx : all64 x) (hr : all64 r) (i : Nat) (k : Nat) (t : List Nat) (ht : ok4 t) : ok4 (upTo (fun j t => addL t (i + j) (x.getD i 0) (r.getD j 0)) k t) := by
 induction k with
 | zero => exact ht
 | succ k ih => exact addL_ok _ _ _ _ ih.1 ih.2 (hx _) (hr _)
theorem rowUp_ok (x r : List Nat) (hx : all64 x) (hr : all64 r) (k : Nat) : ok4 (upTo (rowP x r) k [0, 0, 0, 0]) := by
 induction k with
 | zero => exact ⟨rfl, all64_list (l := [0, 0, 0, 0]) (by simp [lt64])⟩
 | succ k ih => exact rowIn_ok x r hx hr k 2 _ ih
theorem lowT_lt (t : List Nat) (h : all64 t) : (lowT t).lt := ⟨h 0, h 1, by have := h 2; unfold lt64 at *; show _ % 4 < _; omega⟩
theorem highT_lt (t : List Nat) (h : all64 t) : (highT t).lt := ⟨by have := h 2; unfold lt64 at *; show _ / 4 + _ % 4 * 4611686018427387904 < _; omega, by have := h 3; unfold lt64 at *; show _ / 4 < _; omega, by show (0 : Nat) < 18446744073709551616; decide⟩
theorem sumUp_lt (h l : Num) (hl : l.lt) (k : Nat) : (upTo (fun _ o => Num.plus o h) k l).lt := by
 cases k with
 | zero => exact hl
 | succ k => exact Num.plus_lt _ _
theorem Num.times_lt (x : Num) (r0 r1 : Nat) (hx : x.lt) (h0 : lt64 r0) (h1 : lt64 r1) : (x.times r0 r1).lt := by
 have hx' : all64 x.list := all64_list (by intro n hn; simp [Num.list] at hn; rcases hn with rfl | rfl | rfl; exact hx.1; exact hx.2.1; exact hx.2.2)
 have hr : all64 [r0, r1] := all64_list (by intro n hn; simp at hn; rcases hn with rfl | rfl; exact h0; exact h1)
 exact sumUp_lt _ _ (lowT_lt _ (rowUp_ok _ _ hx' hr 3).2) 5
theorem hi_join (a b : Nat) (ha : lt64 a) (hb : lt64 b) : bits .or .u64 ((a : Int) / 4) (IntKind.u64.wrap ((b : Int) * 4611686018427387904)) = ((a / 4 + b % 4 * 4611686018427387904 : Nat) : Int) := by
 unfold lt64 at ha hb
 have hw : IntKind.u64.wrap ((b : Int) * 4611686018427387904) = ((b % 4 * 4611686018427387904 : Nat) : Int) := by rw [IntKind.wrap_u64]; omega
 rw [hw]
 have := bits_join_low .u64 64 (by decide) (fun n h0 h1 => by rw [IntKind.wrap_u64]; omega) 62 ((a : Int) / 4) ((b % 4 * 4611686018427387904 : Nat) : Int) (by omega) (by omega) (by omega) (by omega) (by omega) (by omega)
 rw [this]
 omega
theorem mask2' (n : Nat) (h : lt64 n) : bits .and .u64 (n : Int) 3 = ((n % 4 : Nat) : Int) := by
 unfold lt64 at h
 have h1 := bits_and_u64_nat n 3 h (by omega)
 have e : n &&& 3 = n % 4 := Nat.and_two_pow_sub_one_eq_mod n 2
 rw [e] at h1
 exact h1
attribute [local irreducible] upTo addL
set_option maxRecDepth 20000 in
set_option maxHeartbeats 2000000 in
theorem ptimes_any (x : Num) (r0 r1 : Nat) (w : World) (hx : x.lt) (h0 : lt64 r0) (h1 : lt64 r1) :
  Calls Tryz.prog 141 #[.agg x.cells.toArray, .agg (u64s [r0, r1]).toArray] w fun e w' => e = .returned (.agg (x.times r0 r1).cells.toArray) ∧ Below w.heap.size w w' := by
 have hx' : all64 x.list := all64_list (by intro n hn; simp [Num.list] at hn; rcases hn with rfl | rfl | rfl; exact hx.1; exact hx.2.1; exact hx.2.2)
 have hr : all64 [r0, r1] := all64_list (by intro n hn; simp at hn; rcases hn with rfl | rfl; exact h0; exact h1)
 rw [Num.cells_eq x]
 have hres : x.times r0 r1 = sumT (prodT x.list [r0, r1]) := rfl
 rw [hres]
 obtain ⟨X, hX⟩ : ∃ X, x.list = X := ⟨_, rfl⟩
 obtain ⟨R, hR⟩ : ∃ R, [r0, r1] = R := ⟨_, rfl⟩
 have hXl : X.length = 3 := by rw [← hX]; rfl
 have hRl : R.length = 2 := by rw [← hR]; rfl
 rw [hX] at hx' ⊢
 rw [hR] at hr ⊢
 have hXo := Lib.hid hx'
 have hRo := Lib.hid hr
 clear hX hR hres hx' hr hx h0 h1 x r0 r1
 go_enter Tryz.func141, Tryz.ntmps141
 go_wp2_with fail
 go_loopw [11] (fun i wr => ∃ (k : Nat) (t : List Nat), k ≤ 3 ∧ i = .int .i64 k ∧ upTo (rowP X R) k [0, 0, 0, 0] = t ∧ row wr (w.heap.size + 1 + 1 + 1) = (u64s t).toArray ∧ row wr w.heap.size = (u64s X).toArray ∧ row wr (w.heap.size + 1) = (u64s R).toArray ∧ row wr (w.heap.size + 1 + 1) = (zeros 3 (Value.int .u64 0)).toArray ∧ w.heap.size + 1 + 1 + 1 < wr.heap.size ∧ Below w.heap.size w wr) (fun i _ => 3 - (intOf i).toNat)
 case atStart =>
  refine ⟨0, _, by omega, rfl, rfl, ?_, ?_, ?_, ?_, by simp, (by (repeat (first | exact Below.refl _ _ | refine Below.al ?_ _ | refine Below.drew ?_ | refine Below.sr ?_ _ | refine Below.sc ?_ _)))⟩
  ·
   rw [upTo, row_alloc_at _ _ _ (by simp)]; rfl
  ·
   simp [go_sem]
  ·
   simp [go_sem]
  ·
   simp [go_sem]
 case round =>
  obtain ⟨k, t, hk, rfl, ht, rT, rX, rR, rO, hz, hbel⟩ := hrel
  have hto := rowUp_ok X R hXo.out hRo.out k
  rw [ht] at hto
  have HT := Lib.hid ht
  clear ht
  obtain ⟨htl, hta⟩ := hto
  have HA := Lib.hid hta
  clear hta
  by_cases hlt : k < 3
  ·
   have g1 : (k : Int) < 3 := by omega
   go_wp2_with fail
   go_loopw [14] (fun i wq => ∃ (j : Nat) (q : List Nat), j ≤ 2 ∧ i = .int .i64 j ∧ upTo (fun j t => addL t (k + j) (X.getD k 0) (R.getD j 0)) j t = q ∧ row wq (w.heap.size + 1 + 1 + 1) = (u64s q).toArray ∧ row wq w.heap.size = (u64s X).toArray ∧ row wq (w.heap.size + 1) = (u64s R).toArray ∧ row wq (w.heap.size + 1 + 1) = (zeros 3 (Value.int .u64 0)).toArray ∧ w.heap.size + 1 + 1 + 1 < wq.heap.size ∧ Below w.heap.size w wq) (fun i _ => 2 - (intOf i).toNat)
   case atStart => exact ⟨0, t, by omega, rfl, by rw [upTo], rT, rX, rR, rO, hz, hbel⟩
   case round =>
    clear rT rX rR rO hz hbel
    obtain ⟨j, q, hj, rfl, hq, rT, rX, rR, rO, hz, hbel⟩ := hrel
    have hqo := rowIn_ok X R hXo.out hRo.out k j t ⟨htl, HA.out⟩
    rw [hq] at hqo
    have HQ := Lib.hid hq
    clear hq
    obtain ⟨hql, hqa⟩ := hqo
    have HB := Lib.hid hqa
    clear hqa
    by_cases hlt2 : j < 2
    ·
     have g2 : (j : Int) < 2 := by omega
     have g3 : (k : Int) + j < 4 := by omega
     have kx : k < X.length := by omega
     have kr : j < R.length := by omega
     have hw1 : IntKind.i64.wrap ((k : Int) + (j : Int)) = ((k + j : Nat) : Int) := by rw [wraps_i64 _ (by omega) (by omega)]; omega
     obtain ⟨n, hn⟩ : ∃ n, k + j = n := ⟨_, rfl⟩
     have g4 : n < 4 := by omega
     rw [hn] at hw1
     have HN := Lib.hid hn
     clear hn
     go_wp2_with fail
     refine wp_region_beginR [(w.heap.size, (u64s X).toArray), (w.heap.size + 1, (u64s R).toArray)] rfl (by simp only [Rws]; (repeat (first | exact trivial | refine ⟨(by first | assumption | (simp [go_sem, *]; done)), (by first | omega | (simp; done) | (simp; omega)), ?_⟩))) (fun hS => ?_)
     refine qp 0 hS ?_
     refine qp 1 hS ?_
     refine qp 2 hS ?_
     refine qp 3 hS ?_
     refine qp 4 hS ?_
     refine qp 5 hS ?_
     refine qp 6 hS ?_
     refine qp 7 hS ?_
     refine qp 8 hS ?_
     refine wpAnyR_all (rs := [9]) (by kernel_rfl) (by simp) (Rws.grow _) hS (fun u1 hu1 hSW => ?_)
     intro i hi
     obtain rfl := List.mem_singleton.1 hi
     refine wpOp_step rfl (fun K hK => ?_)
     simp only [Rws] at hSW
     clear hi hS
     go_simp
     have zu : wr.heap.size ≤ u1.heap.size := hu1.size
     have rT1 : row u1 (w.heap.size + 1 + 1 + 1) = (u64s q).toArray := by rw [row_below hu1 (show _ < wr.heap.size from hz)]; exact rT
     refine (add_any q n X[k] R[j] _ u1 hql HB.out g4 (by rw [← getD_elemN _ _ kx]; exact hXo.out k) (by rw [← getD_elemN _ _ kr]; exact hRo.out j) rT1).mono ?_
     rintro e w2 ⟨rfl, r2, c2⟩
     have zb2 := c2.size
     have rX2 : row w2 w.heap.size = (u64s X).toArray := (c2.row (by omega) (by omega)).trans ((row_below hu1 (show _ < wr.heap.size by omega)).trans rX)
     have rR2 : row w2 (w.heap.size + 1) = (u64s R).toArray := (c2.row (by omega) (by omega)).trans ((row_below hu1 (show _ < wr.heap.size by omega)).trans rR)
     have rO2 : row w2 (w.heap.size + 1 + 1) = (zeros 3 (Value.int .u64 0)).toArray := (c2.row (by omega) (by omega)).trans ((row_below hu1 (show _ < wr.heap.size by omega)).trans rO)
     have hb2 : Below w.heap.size w w2 := Below.trans hbel (Below.trans (Below.trans (Below.drew (Below.refl _ _)) (hu1.mono (by simp; omega))) ((c2.mono (by omega)).below (by omega)))
     refine hK _ _ ⟨⟨rX2, by omega, rR2, by omega, trivial⟩, ?_⟩
     clear hK K hSW
     (try simp only [Act.put, List.setIfInBounds_toArray, List.set_cons_zero, List.set_cons_succ])
     refine wpAnyR_done (by kernel_rfl) (fun w3 h3 => ?_) _
     have zb3 := h3.size
     go_wp2_with fail
     go_roundw
     case rel =>
      refine ⟨j + 1, _, by omega, rfl, rfl, ?_, (row_below h3 (by omega)).trans rX2, (row_below h3 (by omega)).trans rR2, (row_below h3 (by omega)).trans rO2, by omega, Below.trans hb2 (h3.mono (by omega))⟩
      rw [upTo, HQ.out, HN.out, getD_elemN _ _ kx, getD_elemN _ _ kr, row_below h3 (by omega)]
      exact r2
     case measure => simp [intOf]; omega
    ·
     obtain rfl : j = 2 := by omega
     rw [show ((2 : Nat) : Int) = 2 from rfl]
     go_wp2_with fail
     go_roundw
     case rel =>
      refine ⟨k + 1, _, by omega, rfl, rfl, ?_, rX, rR, rO, hz, hbel⟩
      rw [upTo, HT.out, rowP, HQ.out]
      exact rT
     case measure => simp [intOf]; omega
  ·
   obtain rfl : k = 3 := by omega
   rw [show ((3 : Nat) : Int) = 3 from rfl]
   have hP : prodT X R = t := HT.out
   have e0 : 0 < t.length := by omega
   have e1 : 1 < t.length := by omega
   have e2 : 2 < t.length := by omega
   have e3 : 3 < t.length := by omega
   have t2 := HA.out 2
   have t3 := HA.out 3
   have hll := lowT_lt t HA.out
   have hhl := highT_lt t HA.out
   rw [getD_elemN _ _ e2] at t2
   rw [getD_elemN _ _ e3] at t3
   have hlow : lowT t = ⟨t[0], t[1], t[2] % 4⟩ := by rw [lowT, getD_elemN _ _ e0, getD_elemN _ _ e1, getD_elemN _ _ e2]
   have hhigh : highT t = ⟨t[2] / 4 + t[3] % 4 * 4611686018427387904, t[3] / 4, 0⟩ := by rw [highT, getD_elemN _ _ e2, getD_elemN _ _ e3]
   have hsum : sumT (prodT X R) = upTo (fun _ o => Num.plus o (highT t)) 5 (lowT t) := by rw [hP]; rfl
   have hm : bits .and .u64 (t[2] : Int) 3 = ((t[2] % 4 : Nat) : Int) := mask2' _ t2
   have hj := hi_join t[2] t[3] t2 t3
   have hd : ∀ n : Nat, (n : Int) / 4 = ((n / 4 : Nat) : Int) := fun n => by omega
   replace hd := hd t[3]
   rw [hlow] at hll hsum
   rw [hhigh] at hhl hsum
   obtain ⟨l2, hl2⟩ : ∃ m, t[2] % 4 = m := ⟨_, rfl⟩
   obtain ⟨h0, hh0⟩ : ∃ m, t[2] / 4 + t[3] % 4 * 4611686018427387904 = m := ⟨_, rfl⟩
   obtain ⟨h1, hh1⟩ : ∃ m, t[3] / 4 = m := ⟨_, rfl⟩
   simp only [hl2, hh0, hh1] at hm hj hd hll hhl hsum
   obtain ⟨a0, ha0⟩ : ∃ m, t[0] = m := ⟨_, rfl⟩
   obtain ⟨a1, ha1⟩ : ∃ m, t[1] = m := ⟨_, rfl⟩
   simp only [ha0, ha1] at hll hsum
   have HF := Lib.hid hsum
   have HH := Lib.hid hhl
   have HL := Lib.hid hll
   clear hl2 hh0 hh1 hsum hlow hhigh t2 t3 hP HT hlt hk hll hhl
   go_wp2_with fail
   have q2 : w.heap.size + 1 + 1 < wr.heap.size := by omega
   go_loopw [53] (fun i wq => ∃ (m : Nat) (o : Num), m ≤ 5 ∧ i = .int .i64 m ∧ upTo (fun _ o => Num.plus o ⟨h0, h1, 0⟩) m ⟨a0, a1, l2⟩ = o ∧ row wq (wr.heap.size + 1 + 1) = #[.int .u64 o.a, .int .u64 o.b, .int .u64 o.c] ∧ row wq (wr.heap.size + 1) = #[.int .u64 h0, .int .u64 h1, .int .u64 0] ∧ row wq (w.heap.size + 1 + 1) = (zeros 3 (Value.int .u64 0)).toArray ∧ wr.heap.size + 1 + 1 < wq.heap.size ∧ Below w.heap.size w wq) (fun i _ => 5 - (intOf i).toNat)
   case atStart =>
    refine ⟨0, _, by omega, rfl, rfl, ?_, ?_, ?_, by simp, ?_⟩
    ·
     rw [upTo, row_alloc_at _ _ _ (by simp)]
    ·
     rw [row_alloc_past _ _ (by simp), row_alloc_at _ _ _ (by simp)]
    ·
     rw [row_alloc_past _ _ (by simp; omega), row_alloc_past _ _ (by simp; omega), row_alloc_past _ _ (by omega)]
     exact rO
    ·
     exact Below.alloc (Below.alloc (Below.alloc hbel (by omega) _) (by simp; omega) _) (by simp; omega) _
   case round =>
    clear rT rX rR rO hbel hm hj hd
    obtain ⟨m, o, hm, rfl, ho, rV, rH, rO, hz3, hbel⟩ := hrel
    have hol := sumUp_lt ⟨h0, h1, 0⟩ ⟨a0, a1, l2⟩ HL.out m
    rw [ho] at hol
    have HO := Lib.hid ho
    clear ho
    by_cases hlt : m < 5
    ·
     have g1 : (m : Int) < 5 := by omega
     have hadd := fun w => nplus_any o ⟨h0, h1, 0⟩ w hol HH.out
     obtain ⟨z, hz2⟩ : ∃ z, o.plus ⟨h0, h1, 0⟩ = z := ⟨_, rfl⟩
     rw [hz2] at hadd
     have HZ := Lib.hid hz2
     clear hz2
     obtain ⟨o0, o1, o2⟩ := o
     obtain ⟨z0, z1, z2⟩ := z
     unfold Num.cells at hadd
     simp only at hadd rV
     have hadd' : ∀ w, Calls Tryz.prog 139 #[.agg #[.int .u64 o0, .int .u64 o1, .int .u64 o2], .agg #[.int .u64 h0, .int .u64 h1, .int .u64 0]] w fun e w' => e = .returned (.agg #[.int .u64 z0, .int .u64 z1, .int .u64 z2]) ∧ Below w.heap.size w w' := hadd
     have KA := Lib.hid hadd'
     clear hadd hadd' hol
     go_wp2_with fail
     (with_reducible refine (KA.out _).mono ?_)
     rintro e w2 ⟨rfl, b2⟩
     have zb2 := b2.size
     have rV2 := (row_below b2 (by omega)).trans rV
     have rH2 := (row_below b2 (by omega)).trans rH
     have rO2 := (row_below b2 (by omega)).trans rO
     go_wp2_with fail
     go_roundw
     case rel =>
      refine ⟨m + 1, ⟨z0, z1, z2⟩, by omega, rfl, ?_, ?_, by (try show row (World.setRow _ _ _) _ = _); rw [row_setRow_other _ _ _ (by omega)]; exact rH2, by (try show row (World.setRow _ _ _) _ = _); rw [row_setRow_other _ _ _ (by omega)]; exact rO2, by simp; omega, Below.setRow (Below.trans hbel (b2.mono (by omega))) (by omega) _⟩
      ·
       rw [upTo, HO.out, HZ.out]
      ·
       exact row_setRow_same (by rw [rV2]; simp) (by rw [rV2]; simp)
     case measure => simp [intOf]; omega
    ·
     obtain rfl : m = 5 := by omega
     rw [show ((5 : Nat) : Int) = 5 from rfl]
     obtain ⟨o0, o1, o2⟩ := o
     simp only at rV
     go_wp2_with fail
     have hfin := row_setRow_same (w := wr) (g := w.heap.size + 1 + 1) (c := #[Value.int .u64 o0, .int .u64 o1, .int .u64 o2]) (by rw [rO]; simp) (by rw [rO]; simp)
     (try simp only [Exit.inBlock, Exit.then])
     refine bodyPost_ret (results_1 rfl (resOk_row rfl ?_)) rfl ?_
     ·
      rw [hfin]
      simp
     refine ⟨by rw [hfin, HF.out, HO.out]; rfl, ?_⟩
     exact Below.setRow hbel (by omega) _
end
end Go.Proofs.YtakkicppgkmokaaGreat
