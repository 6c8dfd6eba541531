/- Contracts of the reference of chapter 6: a sum of elements. -/
import Derived.Test.YtohhiibgjcbpiaaGrT
set_option linter.unusedSimpArgs false
set_option linter.unusedVariables false
namespace Go.Proofs.Ytohhiibgjcbpiaa
open Go.RowKit
theorem getD_setG (M : List Nat) (i j v : Nat) (h : i < M.length) : (M.set i v).getD j 0 = if i = j then v else M.getD j 0 := by
  by_cases hij : i = j
  · subst hij
    simp [List.getD_eq_getElem?_getD, h]
  · simp [List.getD_eq_getElem?_getD, hij]
theorem plus_stepG (l : List Nat) (n O x y s q d : Nat) (h : n + 1 < l.length) (hO : l[n] = O) (h1 : l[n + 1] = 0) (hs : O + x + y = s) (hq : s / 256 = q) (hd : s % 256 = d) :
    valB (((l.set n s).set (n + 1) q).set n d) = valB l + 256 ^ n * x + 256 ^ n * y := by
  have e1 := valB_set l n s (by omega)
  rw [hO] at e1
  have e2 := valB_set (l.set n s) (n + 1) q (by simpa using h)
  rw [List.getElem_set_ne (by omega), h1] at e2
  have e3 := valB_set ((l.set n s).set (n + 1) q) n d (by simp; omega)
  rw [List.getElem_set_ne (by omega), List.getElem_set_self] at e3
  have e4 : 256 ^ n * s = 256 ^ n * O + 256 ^ n * x + 256 ^ n * y := by rw [← hs, Nat.mul_add, Nat.mul_add]
  have e5 : 256 ^ n * s = 256 ^ n * d + 256 ^ (n + 1) * q := by rw [← hd, ← hq, Nat.pow_succ, Nat.mul_assoc, ← Nat.mul_add, Nat.mod_add_div]
  omega
set_option maxRecDepth 20000 in
set_option maxHeartbeats 4000000 in
theorem plusG_any (u v : Nat) (w : World) (hu : u < 256 ^ 32) (hv : v < 256 ^ 32) :
    Calls Try.prog 27 #[.agg (n64s (digB u)).toArray, .agg (n64s (digB v)).toArray] w fun e w' => e = .returned (.agg (n64s (digB ((u + v) % pB))).toArray) ∧ Below w.heap.size w w' := by
  have hau := valB_digB u hu
  have hbv := valB_digB v hv
  have la := digB_length u
  have lb := digB_length v
  have da := digB_dig u
  have db := digB_dig v
  obtain ⟨a, ea⟩ : ∃ a, digB u = a := ⟨_, rfl⟩
  obtain ⟨b, eb⟩ : ∃ a, digB v = a := ⟨_, rfl⟩
  rw [ea] at hau la da ⊢
  rw [eb] at hbv lb db ⊢
  have HAU := Lib.hid hau
  have HBV := Lib.hid hbv
  have LA := Lib.hid la
  have LB := Lib.hid lb
  have la32 : 32 ≤ a.length := by omega
  have lb32 : 32 ≤ b.length := by omega
  have ta32 : a.take 32 = a := List.take_of_length_le (by omega)
  have tb32 : b.take 32 = b := List.take_of_length_le (by omega)
  have TA := Lib.hid ta32
  have TB := Lib.hid tb32
  clear ea eb hau hbv ta32 tb32
  obtain ⟨w0, hw0⟩ : ∃ v, ((w.alloc (.cells (n64s a).toArray 30)).alloc (.cells (n64s b).toArray 30)).alloc (.cells (zeros 32 (Value.int .i64 0)).toArray 30) = v := ⟨_, rfl⟩
  obtain ⟨X, hX⟩ : ∃ X, w.heap.size + 1 + 1 + 1 = X := ⟨_, rfl⟩
  have z0 : w0.heap.size = X := by rw [← hw0, ← hX]; simp
  have ra0 : row w0 w.heap.size = (n64s a).toArray := by rw [← hw0]; simp [go_sem]
  have rb0 : row w0 (w.heap.size + 1) = (n64s b).toArray := by rw [← hw0]; simp [go_sem]
  have rR0 : row w0 (w.heap.size + 1 + 1) = (zeros 32 (Value.int .i64 0)).toArray := by rw [← hw0]; simp [go_sem]
  have b0 : Below w.heap.size w w0 := by
    rw [← hw0]
    (repeat (first | exact Below.refl _ _ | refine Below.alloc ?_ (by first | (simp; done) | (simp; omega) | omega) _ | refine Below.drew ?_ | refine Below.setRow ?_ (by first | (simp; done) | (simp; omega) | omega) _ | refine Below.setCell ?_ (by first | (simp; done) | (simp; omega) | omega) _))
  obtain ⟨w1, hmk0, o1, b1⟩ := make_own (P := Try.prog) (w := w0) (t := 47) inferInstance .i64 .i64 33 (by omega)
  rw [z0] at hmk0 o1 b1
  have hmk : (Instr.makeSlice 47 (.int .i64 33) (.int .i64 33)).run Try.prog w0 = .ok (.slice (some ⟨X, 0, none⟩) 33 33) w1 := hmk0
  have o1 : Own w1 X 3 (.slice (some ⟨X, 0, none⟩) 33 33) (n64s (List.replicate 33 0)) := by
    have e : List.replicate 33 (Value.int .i64 0) = n64s (List.replicate 33 0) := by simp [n64s]
    rw [e] at o1
    exact o1
  have zX : w.heap.size + 3 ≤ X := by omega
  have ra1 := (row_below b1 (by omega)).trans ra0
  have rb1 := (row_below b1 (by omega)).trans rb0
  have rR1 := (row_below b1 (by omega)).trans rR0
  have z1 : X ≤ w1.heap.size := by have := b1.size; omega
  have bw1 : Below w.heap.size w w1 := b0.trans (b1.mono (by omega))
  clear hX hmk0 z0 ra0 rb0 rR0 b0 b1 la lb
  go_enter Try.func27, Try.ntmps27
  go_wp2_with fail
  go_loopw [6] (fun i wr => ∃ (n : Nat) (l : List Nat), n ≤ 32 ∧ i = .int .i64 n ∧ l.length = 33 ∧ (∀ i, n < i → l.getD i 0 = 0) ∧ l.getD n 0 ≤ 1 ∧ (∀ i, i < n → l.getD i 0 < 256) ∧ valB l = valB (a.take n) + valB (b.take n) ∧ Own wr X 3 (.slice (some ⟨X, 0, none⟩) 33 33) (n64s l) ∧ Below X w1 wr) (fun i _ => 32 - (intOf i).toNat)
  case atStart => exact ⟨0, List.replicate 33 0, by omega, rfl, by simp, fun i _ => getD_zerosG _ _, by rw [getD_zerosG]; omega, fun i hi => by omega, by rw [valB_zeros]; simp [valB], o1, by skip; exact Below.refl _ _⟩
  case round =>
    clear o1
    obtain ⟨n, l, hn, rfl, hll, hb1, hb2, hb3, hval, hown, hbel⟩ := hrel
    have hsz := hbel.size
    by_cases hlt : n < 32
    · have jn : (n : Int) < 32 := by omega
      have jn3 : (n : Int) < 33 := by omega
      have ra := (row_below hbel (by omega)).trans ra1
      have rb := (row_below hbel (by omega)).trans rb1
      have za2 : w.heap.size < wr.heap.size := by omega
      have zb2 : w.heap.size + 1 < wr.heap.size := by omega
      obtain ⟨rX, zX2, _⟩ := hown.full
      have hna : n < a.length := by omega
      have hnb : n < b.length := by omega
      have hnl : n < l.length := by omega
      obtain ⟨x, hx⟩ : ∃ v, a[n] = v := ⟨_, rfl⟩
      obtain ⟨y, hy⟩ : ∃ v, b[n] = v := ⟨_, rfl⟩
      have vx : x < 256 := by rw [← hx]; exact da.get n hna
      have vy : y < 256 := by rw [← hy]; exact db.get n hnb
      have hT := valB_take_succ a n
      rw [getD_at _ _ hna, hx] at hT
      have hT2 := valB_take_succ b n
      rw [getD_at _ _ hnb, hy] at hT2
      obtain ⟨O, hO⟩ : ∃ v, l[n] = v := ⟨_, rfl⟩
      have vO : O ≤ 1 := by rw [← hO, ← getD_at _ _ hnl]; exact hb2
      obtain ⟨n1, hn1⟩ : ∃ v, n + 1 = v := ⟨_, rfl⟩
      have fn1 : IntKind.i64.wrap ((n : Int) + 1) = (n1 : Int) := wrapN _ _ (by omega) (by omega)
      have jn1 : (n1 : Int) < 33 := by omega
      have hnl1 : n1 < l.length := by omega
      have hn133 : n1 < 33 := by omega
      have hn33 : n < 33 := by omega
      have h10 : l[n1] = 0 := by rw [← getD_at _ _ hnl1]; exact hb1 n1 (by omega)
      obtain ⟨s0, hs0⟩ : ∃ v, O + x = v := ⟨_, rfl⟩
      obtain ⟨s, hs⟩ : ∃ v, s0 + y = v := ⟨_, rfl⟩
      have f1 : IntKind.i64.wrap ((O : Int) + (x : Int)) = (s0 : Int) := wrapN _ _ (by omega) (by omega)
      have f2 : IntKind.i64.wrap ((s0 : Int) + (y : Int)) = (s : Int) := wrapN _ _ (by omega) (by omega)
      obtain ⟨q, hq⟩ : ∃ v, s / 256 = v := ⟨_, rfl⟩
      obtain ⟨d, hd⟩ : ∃ v, s % 256 = v := ⟨_, rfl⟩
      obtain ⟨m1, m2⟩ := modt _ _ hd
      obtain ⟨m3, m4⟩ := divt _ _ hq
      have vq : q ≤ 1 := by omega
      have vd : d < 256 := by omega
      have fqq : IntKind.i64.wrap (q : Int) = (q : Int) := wrapN _ _ rfl (by omega)
      obtain ⟨L1, hL1⟩ : ∃ v, l.set n s = v := ⟨_, rfl⟩
      obtain ⟨L2, hL2⟩ : ∃ v, L1.set n1 q = v := ⟨_, rfl⟩
      obtain ⟨L3, hL3⟩ : ∃ v, L2.set n d = v := ⟨_, rfl⟩
      have l1l : L1.length = 33 := by rw [← hL1, List.length_set]; exact hll
      have l2l : L2.length = 33 := by rw [← hL2, List.length_set]; exact l1l
      have l3l : L3.length = 33 := by rw [← hL3, List.length_set]; exact l2l
      have g3 : ∀ i, L3.getD i 0 = if n = i then d else if n1 = i then q else l.getD i 0 := by
        intro i
        rw [← hL3, getD_setG L2 n i d (by omega)]
        split
        · rfl
        · rw [← hL2, getD_setG L1 n1 i q (by omega)]
          split
          · rfl
          · rw [← hL1, getD_setG l n i s hnl, if_neg (by assumption)]
      have hv3 : valB L3 = valB (a.take (n + 1)) + valB (b.take (n + 1)) := by
        rw [hT, hT2, ← hL3, ← hL2, ← hL1, ← hn1]
        have hnn := hn1
        subst hnn
        rw [plus_stepG l n O x y s q d hnl1 hO h10 (by omega) hq hd, hval]
        omega
      have c1 : ∀ i, n1 < i → L3.getD i 0 = 0 := fun i hi => by rw [g3, if_neg (by omega), if_neg (by omega)]; exact hb1 i (by omega)
      have c2 : L3.getD n1 0 ≤ 1 := by rw [g3, if_neg (by omega), if_pos rfl]; exact vq
      have c3 : ∀ i, i < n1 → L3.getD i 0 < 256 := fun i hi => by
        rw [g3]
        split
        · exact vd
        · rw [if_neg (by omega)]
          exact hb3 i (by omega)
      rw [hn1] at hv3
      have C1 := Lib.hid c1
      have C2 := Lib.hid c2
      have C3 := Lib.hid c3
      have V3 := Lib.hid hv3
      have LL3 := Lib.hid l3l
      have HN1 := Lib.hid hn1
      have h11 : n < L1.length := by omega
      have h12 : n1 < L1.length := by omega
      have h21 : n < L2.length := by omega
      have e1s : L1[n]'h11 = s := by simp only [← hL1]; rw [List.getElem_set_self]
      have e2s : L2[n]'h21 = s := by simp only [← hL2]; rw [List.getElem_set_ne (by omega)]; exact e1s
      have hset1 : (n64s l).set n (.int .i64 (s : Int)) = n64s L1 := by rw [n64s_set, hL1]
      have hset2 : (n64s L1).set n1 (.int .i64 (q : Int)) = n64s L2 := by rw [n64s_set, hL2]
      have hset3 : (n64s L2).set n (.int .i64 (d : Int)) = n64s L3 := by rw [n64s_set, hL3]
      have hl0 : 0 < l.length := by omega
      have hL10 : 0 < L1.length := by omega
      have hL20 : 0 < L2.length := by omega
      have HL1 := Lib.hid hL1
      have HL2 := Lib.hid hL2
      have HL3 := Lib.hid hL3
      clear hq hd hs hs0 hL1 hL2 hL3 c1 c2 c3 hv3 l1l l2l l3l hn1 g3 hll hb1 hb2 hb3 hval hT hT2 h10
      go_wp2_with fail
      refine wp_region_beginK 15 [(w.heap.size, (n64s a).toArray), (w.heap.size + 1, (n64s b).toArray), (X, (n64s l).toArray)] [] rfl (by simp only [Rws]; (repeat (first | exact trivial | refine ⟨(by first | assumption | (simp [go_sem, *]; done)), (by first | omega | (simp; done) | (simp; omega)), ?_⟩))) (fun hS => ?_)
      refine wpAnyK_take (i := 0) (v := ?_) (by simp only [List.getElem?_toArray, List.getElem?_cons_succ, List.getElem?_cons_zero]; rfl) (by kernel_rfl) (by kernel_rfl) (by kernel_rfl) (by kernel_rfl) (by first | exact fun _ _ _ h => h | exact fun _ _ _ h => by cases h.1) (Rws.grow _) (Or.inl ⟨by rfl, ?_⟩) hS ?_
      rotate_left
      · intro w' hS'
        simp only [Rws] at hS'
        go_simp
        refine ⟨?_, Below.refl _ _⟩
        rfl
      (try simp only [Act.put, List.setIfInBounds_toArray, List.set_cons_zero, List.set_cons_succ])
      refine wpAnyK_take (i := 1) (v := ?_) (by simp only [List.getElem?_toArray, List.getElem?_cons_succ, List.getElem?_cons_zero]; rfl) (by kernel_rfl) (by kernel_rfl) (by kernel_rfl) (by kernel_rfl) (by first | exact fun _ _ _ h => h | exact fun _ _ _ h => by cases h.1) (Rws.grow _) (Or.inl ⟨by rfl, ?_⟩) hS ?_
      rotate_left
      · intro w' hS'
        simp only [Rws] at hS'
        go_simp
        refine ⟨?_, Below.refl _ _⟩
        rfl
      (try simp only [Act.put, List.setIfInBounds_toArray, List.set_cons_zero, List.set_cons_succ])
      refine wpAnyK_take (i := 2) (v := ?_) (by simp only [List.getElem?_toArray, List.getElem?_cons_succ, List.getElem?_cons_zero]; rfl) (by kernel_rfl) (by kernel_rfl) (by kernel_rfl) (by kernel_rfl) (by first | exact fun _ _ _ h => h | exact fun _ _ _ h => by cases h.1) (Rws.grow _) (Or.inl ⟨by rfl, ?_⟩) hS ?_
      rotate_left
      · intro w' hS'
        simp only [Rws] at hS'
        go_simp
        refine ⟨?_, Below.refl _ _⟩
        rfl
      (try simp only [Act.put, List.setIfInBounds_toArray, List.set_cons_zero, List.set_cons_succ])
      refine wpAnyK_take (i := 3) (v := ?_) (by simp only [List.getElem?_toArray, List.getElem?_cons_succ, List.getElem?_cons_zero]; rfl) (by kernel_rfl) (by kernel_rfl) (by kernel_rfl) (by kernel_rfl) (by first | exact fun _ _ _ h => h | exact fun _ _ _ h => by cases h.1) (Rws.grow _) (Or.inl ⟨by rfl, ?_⟩) hS ?_
      rotate_left
      · intro w' hS'
        simp only [Rws] at hS'
        go_simp
        refine ⟨?_, Below.refl _ _⟩
        rfl
      (try simp only [Act.put, List.setIfInBounds_toArray, List.set_cons_zero, List.set_cons_succ])
      refine wpAnyK_take (i := 4) (v := ?_) (by simp only [List.getElem?_toArray, List.getElem?_cons_succ, List.getElem?_cons_zero]; rfl) (by kernel_rfl) (by kernel_rfl) (by kernel_rfl) (by kernel_rfl) (by first | exact fun _ _ _ h => h | exact fun _ _ _ h => by cases h.1) (Rws.grow _) (Or.inl ⟨by rfl, ?_⟩) hS ?_
      rotate_left
      · intro w' hS'
        simp only [Rws] at hS'
        go_simp
        refine ⟨?_, Below.refl _ _⟩
        rfl
      (try simp only [Act.put, List.setIfInBounds_toArray, List.set_cons_zero, List.set_cons_succ])
      refine wpAnyK_take (i := 5) (v := ?_) (by simp only [List.getElem?_toArray, List.getElem?_cons_succ, List.getElem?_cons_zero]; rfl) (by kernel_rfl) (by kernel_rfl) (by kernel_rfl) (by kernel_rfl) (by first | exact fun _ _ _ h => h | exact fun _ _ _ h => by cases h.1) (Rws.grow _) (Or.inl ⟨by rfl, ?_⟩) hS ?_
      rotate_left
      · intro w' hS'
        simp only [Rws] at hS'
        go_simp
        refine ⟨?_, Below.refl _ _⟩
        rfl
      (try simp only [Act.put, List.setIfInBounds_toArray, List.set_cons_zero, List.set_cons_succ])
      refine wpAnyK_take (i := 6) (v := ?_) (by simp only [List.getElem?_toArray, List.getElem?_cons_succ, List.getElem?_cons_zero]; rfl) (by kernel_rfl) (by kernel_rfl) (by kernel_rfl) (by kernel_rfl) (by first | exact fun _ _ _ h => h | exact fun _ _ _ h => by cases h.1) (Rws.grow _) (Or.inl ⟨by rfl, ?_⟩) hS ?_
      rotate_left
      · intro w' hS'
        simp only [Rws] at hS'
        go_simp
        refine ⟨?_, Below.refl _ _⟩
        rfl
      (try simp only [Act.put, List.setIfInBounds_toArray, List.set_cons_zero, List.set_cons_succ])
      refine wpAnyK_take (i := 7) (v := ?_) (by simp only [List.getElem?_toArray, List.getElem?_cons_succ, List.getElem?_cons_zero]; rfl) (by kernel_rfl) (by kernel_rfl) (by kernel_rfl) (by kernel_rfl) (by first | exact fun _ _ _ h => h | exact fun _ _ _ h => by cases h.1) (Rws.grow _) (Or.inl ⟨by rfl, ?_⟩) hS ?_
      rotate_left
      · intro w' hS'
        simp only [Rws] at hS'
        go_simp
        refine ⟨?_, Below.refl _ _⟩
        rfl
      (try simp only [Act.put, List.setIfInBounds_toArray, List.set_cons_zero, List.set_cons_succ])
      refine wpAnyK_take (i := 8) (v := ?_) (by simp only [List.getElem?_toArray, List.getElem?_cons_succ, List.getElem?_cons_zero]; rfl) (by kernel_rfl) (by kernel_rfl) (by kernel_rfl) (by kernel_rfl) (by first | exact fun _ _ _ h => h | exact fun _ _ _ h => by cases h.1) (Rws.grow _) (Or.inl ⟨by rfl, ?_⟩) hS ?_
      rotate_left
      · intro w' hS'
        simp only [Rws] at hS'
        go_simp
        refine ⟨?_, Below.refl _ _⟩
        rfl
      (try simp only [Act.put, List.setIfInBounds_toArray, List.set_cons_zero, List.set_cons_succ])
      refine wpAnyK_take (i := 9) (v := ?_) (by simp only [List.getElem?_toArray, List.getElem?_cons_succ, List.getElem?_cons_zero]; rfl) (by kernel_rfl) (by kernel_rfl) (by kernel_rfl) (by kernel_rfl) (by first | exact fun _ _ _ h => h | exact fun _ _ _ h => by cases h.1) (Rws.grow _) (Or.inl ⟨by rfl, ?_⟩) hS ?_
      rotate_left
      · intro w' hS'
        simp only [Rws] at hS'
        go_simp
        refine ⟨?_, Below.refl _ _⟩
        rfl
      (try simp only [Act.put, List.setIfInBounds_toArray, List.set_cons_zero, List.set_cons_succ])
      refine wpAnyK_take (i := 10) (v := ?_) (by simp only [List.getElem?_toArray, List.getElem?_cons_succ, List.getElem?_cons_zero]; rfl) (by kernel_rfl) (by kernel_rfl) (by kernel_rfl) (by kernel_rfl) (by first | exact fun _ _ _ h => h | exact fun _ _ _ h => by cases h.1) (Rws.grow _) (Or.inl ⟨by rfl, ?_⟩) hS ?_
      rotate_left
      · intro w' hS'
        simp only [Rws] at hS'
        go_simp
        refine ⟨?_, Below.refl _ _⟩
        rfl
      (try simp only [Act.put, List.setIfInBounds_toArray, List.set_cons_zero, List.set_cons_succ])
      refine wpAnyK_take (i := 11) (v := ?_) (by simp only [List.getElem?_toArray, List.getElem?_cons_succ, List.getElem?_cons_zero]; rfl) (by kernel_rfl) (by kernel_rfl) (by kernel_rfl) (by kernel_rfl) (by first | exact fun _ _ _ h => h | exact fun _ _ _ h => by cases h.1) (Rws.grow _) (Or.inl ⟨by rfl, ?_⟩) hS ?_
      rotate_left
      · intro w' hS'
        simp only [Rws] at hS'
        go_simp
        refine ⟨?_, Below.refl _ _⟩
        rfl
      (try simp only [Act.put, List.setIfInBounds_toArray, List.set_cons_zero, List.set_cons_succ])
      refine wpAnyK_take (i := 12) (v := ?_) (by simp only [List.getElem?_toArray, List.getElem?_cons_succ, List.getElem?_cons_zero]; rfl) (by kernel_rfl) (by kernel_rfl) (by kernel_rfl) (by kernel_rfl) (by first | exact fun _ _ _ h => h | exact fun _ _ _ h => by cases h.1) (Rws.grow _) (Or.inl ⟨by rfl, ?_⟩) hS ?_
      rotate_left
      · intro w' hS'
        simp only [Rws] at hS'
        go_simp
        refine ⟨?_, Below.refl _ _⟩
        rfl
      (try simp only [Act.put, List.setIfInBounds_toArray, List.set_cons_zero, List.set_cons_succ])
      refine wpAnyK_take (i := 13) (v := ?_) (by simp only [List.getElem?_toArray, List.getElem?_cons_succ, List.getElem?_cons_zero]; rfl) (by kernel_rfl) (by kernel_rfl) (by kernel_rfl) (by kernel_rfl) (by first | exact fun _ _ _ h => h | exact fun _ _ _ h => by cases h.1) (Rws.grow _) (Or.inl ⟨by rfl, ?_⟩) hS ?_
      rotate_left
      · intro w' hS'
        simp only [Rws] at hS'
        go_simp
        refine ⟨?_, Below.refl _ _⟩
        rfl
      (try simp only [Act.put, List.setIfInBounds_toArray, List.set_cons_zero, List.set_cons_succ])
      refine wpAnyK_take (i := 14) (v := ?_) (by simp only [List.getElem?_toArray, List.getElem?_cons_succ, List.getElem?_cons_zero]; rfl) (by kernel_rfl) (by kernel_rfl) (by kernel_rfl) (by kernel_rfl) (by first | exact fun _ _ _ h => h | exact fun _ _ _ h => by cases h.1) (Rws.grow _) (Or.inl ⟨by rfl, ?_⟩) hS ?_
      rotate_left
      · intro w' hS'
        simp only [Rws] at hS'
        go_simp
        refine ⟨?_, Below.refl _ _⟩
        rfl
      (try simp only [Act.put, List.setIfInBounds_toArray, List.set_cons_zero, List.set_cons_succ])
      refine wpAnyK_store (k := 15) (by simp only [List.getElem?_toArray, List.getElem?_cons_succ, List.getElem?_cons_zero]; rfl) rfl rfl (by kernel_rfl) (fun u1 hu1 => ?_)
      have zu1 : wr.heap.size ≤ u1.heap.size := hu1.size
      have hu2 := below_step (Below.drew (Below.refl _ _)) hu1
      have ou := hown.below hu2
      obtain ⟨rXu, _, _⟩ := ou.full
      have o3 := ou.setFull (u := .int .i64 (s : Int)) (j := n) (by simpa using hnl)
      have b3 : Below X w1 (u1.setRow X ((n64s l).set n (.int .i64 (s : Int))).toArray) := Below.setRow (hbel.trans (hu2.mono (by omega))) (Nat.le_refl _) _
      rw [hset1] at o3 b3
      obtain ⟨w5, hw5⟩ : ∃ v, u1.setRow X (n64s L1).toArray = v := ⟨_, rfl⟩
      rw [hw5] at o3 b3
      have z5 : X < w5.heap.size := by rw [← hw5]; simp; omega
      refine ⟨w5, by go_simp; (try rw [HL1.out, hw5]), trivial, fun hS2 => ?_⟩
      clear hw5
      (try simp only [Act.put, List.setIfInBounds_toArray, List.set_cons_zero, List.set_cons_succ])
      refine wpAnyR_done (by kernel_rfl) (fun w6 h6 => ?_) _
      have o6 := o3.below h6
      have b6 := b3.trans (h6.mono (by omega))
      obtain ⟨rX6, zX6, _⟩ := o6.full
      have o7 := o6.setFull (u := .int .i64 (q : Int)) (j := n1) (by simpa using h12)
      have b7 : Below X w1 (w6.setRow X ((n64s L1).set n1 (.int .i64 (q : Int))).toArray) := Below.setRow b6 (Nat.le_refl _) _
      rw [hset2] at o7 b7
      obtain ⟨w7, hw7⟩ : ∃ v, w6.setRow X (n64s L2).toArray = v := ⟨_, rfl⟩
      rw [hw7] at o7 b7
      obtain ⟨rX7, zX7, _⟩ := o7.full
      have o8 := o7.setFull (u := .int .i64 (d : Int)) (j := n) (by simpa using h21)
      have b8 : Below X w1 (w7.setRow X ((n64s L2).set n (.int .i64 (d : Int))).toArray) := Below.setRow b7 (Nat.le_refl _) _
      rw [hset3] at o8 b8
      clear o3 b3 ou hu1 hu2 hown hbel rX rXu hS hS2 h6 o6 b6 hset1 ra rb o7 b7
      go_wp2_with fail
      go_roundw
      case rel => exact ⟨n1, L3, by omega, by first | rfl | (rw [← HN1.out]; rfl), LL3.out, C1.out, C2.out, C3.out, V3.out, o8, b8⟩
      case measure => have := HN1.out; simp [intOf]; omega
    · obtain rfl : n = 32 := by omega
      rw [show ((32 : Nat) : Int) = 32 from rfl]
      rw [TA.out, TB.out, HAU.out, HBV.out] at hval
      have HVV := Lib.hid hval
      clear hval
      have hdl : Dig l := dig_getD l fun i hi => by
        rcases Nat.lt_or_ge i 32 with h | h
        · exact hb3 i h
        · obtain rfl : i = 32 := by omega
          omega
      have hlp : 0 < l.length := by omega
      have hl65 : l.length ≤ 65 := by omega
      obtain ⟨rX, zX2, _⟩ := hown.full
      have rR := (row_below hbel (by omega)).trans rR1
      have rX' : row wr X = (n64s l ++ []).toArray := by rw [List.append_nil]; exact rX
      have hrest := fun W' => rest_fun l X 33 [] W'
      rw [hll] at hrest
      have HRE := Lib.hid (hrest wr rX' zX2 (by decide) (by decide) hdl)
      rw [HVV.out] at HRE
      have hrl := digB_length ((u + v) % pB)
      obtain ⟨r, hr⟩ : ∃ r, digB ((u + v) % pB) = r := ⟨_, rfl⟩
      rw [hr] at HRE hrl
      have HR := Lib.hid hr
      have bwr : Below w.heap.size w wr := bw1.trans (hbel.mono (by omega))
      clear hr hrest hll hown
      clear hb1 hb2 hb3
      go_wp2_with fail
      (with_reducible refine HRE.out.mono ?_)
      rintro e w8 ⟨rfl, b8⟩
      have rR8 := (row_below b8 (by omega)).trans rR
      have hfin := row_setRow_same (w := w8) (g := w.heap.size + 1 + 1) (c := (n64s r).toArray) (by rw [rR8]; simp) (by rw [rR8]; simp [hrl])
      have bw8 := bwr.trans (b8.mono (by omega))
      go_wp2_with fail
      (try simp only [Exit.inBlock, Exit.then])
      refine bodyPost_ret (results_1 rfl (resOk_row rfl ?_)) rfl ?_
      · rw [hfin]
        simp [hrl]
      refine ⟨by rw [hfin, HR.out], ?_⟩
      exact Below.setRow bw8 (by omega) _
end Go.Proofs.Ytohhiibgjcbpiaa
