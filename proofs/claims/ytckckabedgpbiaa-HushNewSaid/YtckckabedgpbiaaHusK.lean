/- Contracts of package hush: a tick. -/
import Derived.Test.YtckckabedgpbiaaHusT
set_option linter.unusedSimpArgs false
set_option linter.unusedVariables false
set_option maxRecDepth 4000
namespace Go.Proofs.Ytckckabedgpbiaa
open Go.RowKit
theorem findH_mem (b : HB) : ∀ l : List HB, b ∈ l → findH b.v b.ip l ≠ none
  | [], h => by cases h
  | c :: l, h => by
    unfold findH
    by_cases hc : c.is b.v b.ip = true
    · rw [if_pos hc]; simp
    · rw [if_neg hc]
      rcases List.mem_cons.1 h with e | e
      · subst e; exact absurd b.is_self hc
      · exact findH_mem b l e
theorem hTick_nil (w : World) : Calls Try.prog 22 #[.pointer none] w fun e w' => e = .returned (.tuple #[]) ∧ Below w.heap.size w w' := by
  go_enter Try.func22, Try.ntmps22
  go_wp2_with fail
  refine bodyPost_ret (results_none rfl _ _ _) rfl ?_
  exact ⟨rfl, Below.refl _ _⟩
set_option maxHeartbeats 1000000 in
theorem hTick_any (w : World) {A M : Nat} {time : Int} {m : List HB} (h : HushT w A M time m) (hAM : A ≠ M) (hd : DistH m) (hage : ∀ b ∈ m, 0 ≤ b.age ∧ b.age ≤ 1000000) :
    Calls Try.prog 22 #[.pointer (some ⟨A, 0, none⟩)] w fun e w' => e = .returned (.tuple #[]) ∧ BelowBut w.heap.size M w w' ∧ HushT w' A M time (tickH time m) := by
  have hr := h.row
  have hlt := h.lt
  have hMlt := h.ok.lt
  obtain ⟨o, hrun, hit⟩ := run_range map_hush h.ok
  obtain ⟨w0, hw0⟩ : ∃ x, w.alloc o = x := ⟨_, rfl⟩
  rw [hw0] at hrun hit
  have B0 : Below w.heap.size w w0 := by rw [← hw0]; exact Below.alloc (Below.refl _ _) (Nat.le_refl _) _
  have z0 : w0.heap.size = w.heap.size + 1 := by rw [← hw0]; simp
  have hM0 := mapOk_below B0 hMlt h.ok
  have hL0 : mapL w0 M = encH (progH time (fun _ => true) m) := by rw [mapL_below B0 hMlt, h.map, prog_start]
  have hr0 := (row_below B0 hlt).trans hr
  clear hw0 h
  go_enter Try.func22, Try.ntmps22
  go_wp2_with fail
  go_loopw [2] (fun _ wr => ∃ left, iterOk wr w.heap.size M left ∧ mapOk wr M ∧ mapL wr M = encH (progH time left m) ∧ row wr A = #[Value.int .i64 time, Value.map (some M)] ∧ BelowBut w.heap.size M w wr ∧ w.heap.size < wr.heap.size) (fun _ wr => leftN wr w.heap.size M)
  case atStart => exact ⟨fun _ => true, hit, hM0, hL0, hr0, BelowBut.of B0, by omega⟩
  case round =>
    clear hrun hit hM0 hL0 hr0
    obtain ⟨left, hit, hM, hL, hra, hbb, hz⟩ := hrel
    have hnd := dist_nodup _ (prog_dist time left m hd)
    rw [← hL] at hnd
    rcases run_nextM key_hush hit (by rw [hL]; exact okH_all _) hnd with ⟨hall, hrun⟩ | ⟨p, hp, hlp, w1, hrun, hT, hit1, hent⟩
    · rw [hL] at hall
      rw [prog_end time left m hall] at hL
      have HL := Lib.hid hL
      clear hL hall hnd
      go_wp2_with fail
      go_end0
      exact ⟨rfl, hbb, hra, hM, HL.out⟩
    · rw [hL] at hp
      obtain ⟨b, hb, rfl⟩ := prog_mem time left m p hp hlp
      dsimp only at hlp hrun hit1 hent
      have hab := hage b hb
      have hL1 : mapL w1 M = encH (progH time left m) := (mapL_of_block (hT.block M (Ne.symm hit.ne))).trans hL
      have hM1 := (mapOk_of_block (hT.block M (Ne.symm hit.ne))).2 hM
      have hra1 := (hT.row (Nat.ne_of_lt hlt)).trans hra
      have z1 := hT.size
      have hlq : leftN w1 w.heap.size M < leftN wr w.heap.size M := by
        rw [hit1.left_eq, hit.left_eq, hL1, hL]
        refine filter_lt (f := fun q : Value × Value => left q.1) (g := fun q => !sameA (hkV b.v b.ip) q.1) (x := (hkV b.v b.ip, hvV b.mac b.age)) hp hlp ?_
        dsimp only
        rw [sameH, b.is_self]
        rfl
      have hbb1 : BelowBut w.heap.size M w w1 := hbb.trans ⟨hT.os, hT.tape, hT.output, by omega, fun k hk hn => hT.block k (by omega)⟩
      obtain ⟨v, ip, mac, age⟩ := b
      unfold hkV hvV at hrun hent
      dsimp only at hlp hrun hit1 hent hab
      have HL1 := Lib.hid hL1
      have HLQ := Lib.hid hlq
      have HB := Lib.hid hb
      have HLP := Lib.hid hlp
      clear hL1 hlq hb hlp hp hnd hL hbb
      have HIT := Lib.hid hit1
      have hne := hit1.ne
      have hrl := hit1.lt
      clear hit1
      obtain ⟨w2, hw2⟩ : ∃ x, (w1.alloc (.cells #[Value.int .i64 v, Value.string ⟨ip.toArray⟩] 134)).alloc (.cells (u8v mac ++ [Value.int .i64 (age + 1)]).toArray 136) = x := ⟨_, rfl⟩
      have rX : row w2 wr.heap.size = #[Value.int .i64 v, Value.string ⟨ip.toArray⟩] := by rw [← hw2]; simp [go_sem, z1]
      have rY : row w2 (wr.heap.size + 1) = (u8v mac ++ [Value.int .i64 (age + 1)]).toArray := by rw [← hw2]; simp [go_sem, z1]
      have z2 : w2.heap.size = wr.heap.size + 2 := by rw [← hw2]; simp; omega
      have b12 : Below w1.heap.size w1 w2 := by rw [← hw2]; exact Below.alloc (Below.alloc (Below.refl _ _) (by omega) _) (by simp) _
      have rA2 := (row_below b12 (by omega)).trans hra1
      go_wp2_with fail
      clear hw2
      refine wp_region_beginKM 6 [(A, #[Value.int .i64 time, Value.map (some M)]), (wr.heap.size, #[Value.int .i64 v, Value.string ⟨ip.toArray⟩]), (wr.heap.size + 1, (u8v mac ++ [Value.int .i64 (age + 1)]).toArray)] M (encH (progH time left m)) rfl (by simp only [Rws]; (repeat (first | exact trivial | refine ⟨(by first | assumption | (simp [go_sem, *]; done)), (by first | omega | (simp; done) | (simp; omega)), ?_⟩))) (mapOk_below b12 (by omega) hM1) ((mapL_below b12 (by omega)).trans HL1.out) (fun hS => ?_)
      refine wpAnyK_take (i := 0) (v := ?_) (by simp only [List.getElem?_toArray, List.getElem?_cons_succ, List.getElem?_cons_zero]; rfl) (by kernel_rfl) (by kernel_rfl) (by kernel_rfl) (by kernel_rfl) (by first | exact fun _ _ _ h => h | exact fun _ _ _ h => by cases h.1) (MapS.grow _ _ _) (Or.inl ⟨by rfl, ?_⟩) hS ?_
      rotate_left
      · intro w' hS'
        obtain ⟨hS', hM', hL'⟩ := hS'
        simp only [Rws] at hS'
        go_simp
        refine ⟨?_, Below.refl _ _⟩
        rfl
      (try simp only [Act.put, List.setIfInBounds_toArray, List.set_cons_zero, List.set_cons_succ])
      refine wpAnyK_take (i := 1) (v := ?_) (by simp only [List.getElem?_toArray, List.getElem?_cons_succ, List.getElem?_cons_zero]; rfl) (by kernel_rfl) (by kernel_rfl) (by kernel_rfl) (by kernel_rfl) (by first | exact fun _ _ _ h => h | exact fun _ _ _ h => by cases h.1) (MapS.grow _ _ _) (Or.inl ⟨by rfl, ?_⟩) hS ?_
      rotate_left
      · intro w' hS'
        obtain ⟨hS', hM', hL'⟩ := hS'
        simp only [Rws] at hS'
        go_simp
        refine ⟨?_, Below.refl _ _⟩
        rfl
      (try simp only [Act.put, List.setIfInBounds_toArray, List.set_cons_zero, List.set_cons_succ])
      refine wpAnyK_take (i := 2) (v := ?_) (by simp only [List.getElem?_toArray, List.getElem?_cons_succ, List.getElem?_cons_zero]; rfl) (by kernel_rfl) (by kernel_rfl) (by kernel_rfl) (by kernel_rfl) (by first | exact fun _ _ _ h => h | exact fun _ _ _ h => by cases h.1) (MapS.grow _ _ _) (Or.inl ⟨by rfl, ?_⟩) hS ?_
      rotate_left
      · intro w' hS'
        obtain ⟨hS', hM', hL'⟩ := hS'
        simp only [Rws] at hS'
        go_simp
        refine ⟨?_, Below.refl _ _⟩
        rfl
      (try simp only [Act.put, List.setIfInBounds_toArray, List.set_cons_zero, List.set_cons_succ])
      refine wpAnyK_take (i := 3) (v := ?_) (by simp only [List.getElem?_toArray, List.getElem?_cons_succ, List.getElem?_cons_zero]; rfl) (by kernel_rfl) (by kernel_rfl) (by kernel_rfl) (by kernel_rfl) (by first | exact fun _ _ _ h => h | exact fun _ _ _ h => by cases h.1) (MapS.grow _ _ _) (Or.inl ⟨by rfl, ?_⟩) hS ?_
      rotate_left
      · intro w' hS'
        obtain ⟨hS', hM', hL'⟩ := hS'
        simp only [Rws] at hS'
        go_simp
        refine ⟨?_, Below.refl _ _⟩
        rfl
      (try simp only [Act.put, List.setIfInBounds_toArray, List.set_cons_zero, List.set_cons_succ])
      refine wpAnyK_take (i := 4) (v := ?_) (by simp only [List.getElem?_toArray, List.getElem?_cons_succ, List.getElem?_cons_zero]; rfl) (by kernel_rfl) (by kernel_rfl) (by kernel_rfl) (by kernel_rfl) (by first | exact fun _ _ _ h => h | exact fun _ _ _ h => by cases h.1) (MapS.grow _ _ _) (Or.inl ⟨by rfl, ?_⟩) hS ?_
      rotate_left
      · intro w' hS'
        obtain ⟨hS', hM', hL'⟩ := hS'
        simp only [Rws] at hS'
        go_simp
        refine ⟨?_, Below.refl _ _⟩
        rfl
      (try simp only [Act.put, List.setIfInBounds_toArray, List.set_cons_zero, List.set_cons_succ])
      refine wpAnyK_take (i := 5) (v := ?_) (by simp only [List.getElem?_toArray, List.getElem?_cons_succ, List.getElem?_cons_zero]; rfl) (by kernel_rfl) (by kernel_rfl) (by kernel_rfl) (by kernel_rfl) (by first | exact fun _ _ _ h => h | exact fun _ _ _ h => by cases h.1) (MapS.grow _ _ _) (Or.inl ⟨by rfl, ?_⟩) hS ?_
      rotate_left
      · intro w' hS'
        obtain ⟨hS', hM', hL'⟩ := hS'
        simp only [Rws] at hS'
        go_simp
        refine ⟨?_, Below.refl _ _⟩
        rfl
      (try simp only [Act.put, List.setIfInBounds_toArray, List.set_cons_zero, List.set_cons_succ])
      refine wpAnyK_store (k := 6) (by simp only [List.getElem?_toArray, List.getElem?_cons_succ, List.getElem?_cons_zero]; rfl) rfl rfl (by kernel_rfl) (fun w3 b3 => ?_)
      replace b3 := below_step (Below.drew (Below.refl _ _)) b3
      have b13 := below_step b12 b3
      have z3 := b13.size
      have z23 := b3.size
      have hM3 := mapOk_below b13 (by omega) hM1
      have hL3 := (mapL_below b13 (by omega)).trans HL1.out
      obtain ⟨w4, hrun4, hT4, hM4, hL4, hold4⟩ := run_put key_hush map_hush hM3 (okH v ip) (by rw [hL3]; exact okH_all _) (hvV mac (age + 1))
      have hin : lookV sameA (hkV v ip) (mapL w3 M) ≠ none := by
        rw [hL3, lookH]
        have := findH_mem ⟨v, ip, mac, age⟩ (progH time left m) (List.mem_filterMap.2 ⟨_, HB.out, by unfold progF; rw [if_pos HLP.out]⟩)
        intro e
        rw [Option.map_eq_none_iff] at e
        exact this e
      obtain ⟨hit4, hl4⟩ := (HIT.out.kept (b13.block M (by omega)) (b13.block _ (by omega))).put hT4 (hold4 hin)
      rw [hL3, show putV sameA (hkV v ip) (hvV mac (age + 1)) (encH (progH time left m)) = encH (putH ⟨v, ip, mac, age + 1⟩ (progH time left m)) from putH_enc ⟨v, ip, mac, age + 1⟩ _] at hL4
      have HL4 := Lib.hid hL4
      have HIT4 := Lib.hid hit4
      have hl4' : leftN w4 w.heap.size M < leftN wr w.heap.size M := by
        rw [hl4, leftN_kept (b13.block M (by omega)) (b13.block _ (by omega))]
        exact HLQ.out
      have HLQ4 := Lib.hid hl4'
      clear hL3 hL4 hit4 hl4 hin hold4 hl4'
      unfold hkV hvV at hrun4
      refine ⟨w4, ?_, trivial, fun hS => ?_⟩
      · go_simp
        try exact ⟨_, _, rfl, rfl⟩
      · refine wpAnyR_done (by kernel_rfl) (fun w5 b5 => ?_) _
        have z5 := b5.size
        have z4 := hT4.size
        have rA5 : row w5 A = #[Value.int .i64 time, Value.map (some M)] := by rw [row_below b5 (by omega), hT4.row hAM, row_below b13 (by omega), hra1]
        have rX5 : row w5 wr.heap.size = #[Value.int .i64 v, Value.string ⟨ip.toArray⟩] := by rw [row_below b5 (by omega), hT4.row (by omega), row_below b3 (by omega), rX]
        have rY5 : row w5 (wr.heap.size + 1) = (u8v mac ++ [Value.int .i64 (age + 1)]).toArray := by rw [row_below b5 (by omega), hT4.row (by omega), row_below b3 (by omega), rY]
        have hM5 := mapOk_below b5 (by omega) hM4
        have hL5 := (mapL_below b5 (by omega)).trans HL4.out
        have HL5 := Lib.hid hL5
        have hbb5 : BelowBut w.heap.size M w w5 := hbb1.trans ⟨by rw [b5.os, hT4.os, b13.os], by rw [b5.tape, hT4.tape, b13.tape], by rw [b5.output, hT4.output, b13.output], by omega, fun k hk hn => by rw [b5.block k (by omega), hT4.block k hn, b13.block k (by omega)]⟩
        have hit5 := HIT4.out.kept (b5.block M (by omega)) (b5.block w.heap.size (by omega))
        have hl5 : leftN w5 w.heap.size M < leftN wr w.heap.size M := by
          rw [leftN_kept (b5.block M (by omega)) (b5.block _ (by omega))]
          exact HLQ4.out
        have HIT5 := Lib.hid hit5
        have HLQ5 := Lib.hid hl5
        clear hL5 hrun4 hit5 hl5 b5 hS rX rY rA2 b12 b13 b3 hrun hent
        go_wp2_with fail
        refine wp_region_beginR [(A, #[Value.int .i64 time, Value.map (some M)]), (wr.heap.size + 1, (u8v mac ++ [Value.int .i64 (age + 1)]).toArray)] rfl (by simp only [Rws]; (repeat (first | exact trivial | refine ⟨(by first | assumption | (simp [go_sem, *]; done)), (by first | omega | (simp; done) | (simp; omega)), ?_⟩))) (fun hS => ?_)
        refine wpAnyR_take (i := 0) (v := ?_) (by simp only [List.getElem?_toArray, List.getElem?_cons_succ, List.getElem?_cons_zero]; rfl) (by kernel_rfl) (by kernel_rfl) (by kernel_rfl) (by first | exact fun _ _ _ h => h | exact fun _ _ _ h => by cases h.1) (Rws.grow _) (Or.inl ⟨by rfl, ?_⟩) hS ?_
        rotate_left
        · intro w' hS'
          simp only [Rws] at hS'
          go_simp
          refine ⟨?_, Below.refl _ _⟩
          rfl
        (try simp only [Act.put, List.setIfInBounds_toArray, List.set_cons_zero, List.set_cons_succ])
        refine wpAnyR_take (i := 1) (v := ?_) (by simp only [List.getElem?_toArray, List.getElem?_cons_succ, List.getElem?_cons_zero]; rfl) (by kernel_rfl) (by kernel_rfl) (by kernel_rfl) (by first | exact fun _ _ _ h => h | exact fun _ _ _ h => by cases h.1) (Rws.grow _) (Or.inl ⟨by rfl, ?_⟩) hS ?_
        rotate_left
        · intro w' hS'
          simp only [Rws] at hS'
          go_simp
          refine ⟨?_, Below.refl _ _⟩
          rfl
        (try simp only [Act.put, List.setIfInBounds_toArray, List.set_cons_zero, List.set_cons_succ])
        refine wpAnyR_take (i := 2) (v := ?_) (by simp only [List.getElem?_toArray, List.getElem?_cons_succ, List.getElem?_cons_zero]; rfl) (by kernel_rfl) (by kernel_rfl) (by kernel_rfl) (by first | exact fun _ _ _ h => h | exact fun _ _ _ h => by cases h.1) (Rws.grow _) (Or.inl ⟨by rfl, ?_⟩) hS ?_
        rotate_left
        · intro w' hS'
          simp only [Rws] at hS'
          go_simp
          refine ⟨?_, Below.refl _ _⟩
          rfl
        (try simp only [Act.put, List.setIfInBounds_toArray, List.set_cons_zero, List.set_cons_succ])
        refine wpAnyR_take (i := 3) (v := ?_) (by simp only [List.getElem?_toArray, List.getElem?_cons_succ, List.getElem?_cons_zero]; rfl) (by kernel_rfl) (by kernel_rfl) (by kernel_rfl) (by first | exact fun _ _ _ h => h | exact fun _ _ _ h => by cases h.1) (Rws.grow _) (Or.inl ⟨by rfl, ?_⟩) hS ?_
        rotate_left
        · intro w' hS'
          simp only [Rws] at hS'
          go_simp
          refine ⟨?_, Below.refl _ _⟩
          rfl
        (try simp only [Act.put, List.setIfInBounds_toArray, List.set_cons_zero, List.set_cons_succ])
        refine wpAnyR_take (i := 4) (v := ?_) (by simp only [List.getElem?_toArray, List.getElem?_cons_succ, List.getElem?_cons_zero]; rfl) (by kernel_rfl) (by kernel_rfl) (by kernel_rfl) (by first | exact fun _ _ _ h => h | exact fun _ _ _ h => by cases h.1) (Rws.grow _) (Or.inl ⟨by rfl, ?_⟩) hS ?_
        rotate_left
        · intro w' hS'
          simp only [Rws] at hS'
          go_simp
          refine ⟨?_, Below.refl _ _⟩
          rfl
        (try simp only [Act.put, List.setIfInBounds_toArray, List.set_cons_zero, List.set_cons_succ])
        refine wpAnyR_take (i := 5) (v := ?_) (by simp only [List.getElem?_toArray, List.getElem?_cons_succ, List.getElem?_cons_zero]; rfl) (by kernel_rfl) (by kernel_rfl) (by kernel_rfl) (by first | exact fun _ _ _ h => h | exact fun _ _ _ h => by cases h.1) (Rws.grow _) (Or.inl ⟨by rfl, ?_⟩) hS ?_
        rotate_left
        · intro w' hS'
          simp only [Rws] at hS'
          go_simp
          refine ⟨?_, Below.refl _ _⟩
          rfl
        (try simp only [Act.put, List.setIfInBounds_toArray, List.set_cons_zero, List.set_cons_succ])
        refine wpAnyR_take (i := 6) (v := ?_) (by simp only [List.getElem?_toArray, List.getElem?_cons_succ, List.getElem?_cons_zero]; rfl) (by kernel_rfl) (by kernel_rfl) (by kernel_rfl) (by first | exact fun _ _ _ h => h | exact fun _ _ _ h => by cases h.1) (Rws.grow _) (Or.inl ⟨by rfl, ?_⟩) hS ?_
        rotate_left
        · intro w' hS'
          simp only [Rws] at hS'
          go_simp
          refine ⟨?_, Below.refl _ _⟩
          rfl
        (try simp only [Act.put, List.setIfInBounds_toArray, List.set_cons_zero, List.set_cons_succ])
        refine wpAnyR_done (by kernel_rfl) (fun w6 b6 => ?_) _
        replace b6 : Below (w5).heap.size (w5) w6 := below_step (Below.drew (Below.refl _ _)) b6
        have z6 := b6.size
        have rA6 := (row_below b6 (by omega)).trans rA5
        have rX6 := (row_below b6 (by omega)).trans rX5
        have hM6 := mapOk_below b6 (by omega) hM5
        have hL6 := (mapL_below b6 (by omega)).trans HL5.out
        have HL6 := Lib.hid hL6
        have hit6 := HIT5.out.kept (b6.block M (by omega)) (b6.block w.heap.size (by omega))
        have hl6 : leftN w6 w.heap.size M < leftN wr w.heap.size M := by
          rw [leftN_kept (b6.block M (by omega)) (b6.block _ (by omega))]
          exact HLQ5.out
        have hbb6 : BelowBut w.heap.size M w w6 := hbb5.trans (BelowBut.of (b6.mono (by omega)))
        have HIT6 := Lib.hid hit6
        have HLQ6 := Lib.hid hl6
        clear hL6 hit6 hl6
        by_cases ht : time ≤ age + 1
        · go_wp2_with fail
          refine wp_region_beginR [(A, #[Value.int .i64 time, Value.map (some M)]), (wr.heap.size, #[Value.int .i64 v, Value.string ⟨ip.toArray⟩])] rfl (by simp only [Rws]; (repeat (first | exact trivial | refine ⟨(by first | assumption | (simp [go_sem, *]; done)), (by first | omega | (simp; done) | (simp; omega)), ?_⟩))) (fun hS => ?_)
          refine wpAnyR_take (i := 0) (v := ?_) (by simp only [List.getElem?_toArray, List.getElem?_cons_succ, List.getElem?_cons_zero]; rfl) (by kernel_rfl) (by kernel_rfl) (by kernel_rfl) (by first | exact fun _ _ _ h => h | exact fun _ _ _ h => by cases h.1) (Rws.grow _) (Or.inl ⟨by rfl, ?_⟩) hS ?_
          rotate_left
          · intro w' hS'
            simp only [Rws] at hS'
            go_simp
            refine ⟨?_, Below.refl _ _⟩
            rfl
          (try simp only [Act.put, List.setIfInBounds_toArray, List.set_cons_zero, List.set_cons_succ])
          refine wpAnyR_take (i := 1) (v := ?_) (by simp only [List.getElem?_toArray, List.getElem?_cons_succ, List.getElem?_cons_zero]; rfl) (by kernel_rfl) (by kernel_rfl) (by kernel_rfl) (by first | exact fun _ _ _ h => h | exact fun _ _ _ h => by cases h.1) (Rws.grow _) (Or.inl ⟨by rfl, ?_⟩) hS ?_
          rotate_left
          · intro w' hS'
            simp only [Rws] at hS'
            go_simp
            refine ⟨?_, Below.refl _ _⟩
            rfl
          (try simp only [Act.put, List.setIfInBounds_toArray, List.set_cons_zero, List.set_cons_succ])
          refine wpAnyR_take (i := 2) (v := ?_) (by simp only [List.getElem?_toArray, List.getElem?_cons_succ, List.getElem?_cons_zero]; rfl) (by kernel_rfl) (by kernel_rfl) (by kernel_rfl) (by first | exact fun _ _ _ h => h | exact fun _ _ _ h => by cases h.1) (Rws.grow _) (Or.inl ⟨by rfl, ?_⟩) hS ?_
          rotate_left
          · intro w' hS'
            simp only [Rws] at hS'
            go_simp
            refine ⟨?_, Below.refl _ _⟩
            rfl
          (try simp only [Act.put, List.setIfInBounds_toArray, List.set_cons_zero, List.set_cons_succ])
          refine wpAnyR_take (i := 3) (v := ?_) (by simp only [List.getElem?_toArray, List.getElem?_cons_succ, List.getElem?_cons_zero]; rfl) (by kernel_rfl) (by kernel_rfl) (by kernel_rfl) (by first | exact fun _ _ _ h => h | exact fun _ _ _ h => by cases h.1) (Rws.grow _) (Or.inl ⟨by rfl, ?_⟩) hS ?_
          rotate_left
          · intro w' hS'
            simp only [Rws] at hS'
            go_simp
            refine ⟨?_, Below.refl _ _⟩
            rfl
          (try simp only [Act.put, List.setIfInBounds_toArray, List.set_cons_zero, List.set_cons_succ])
          refine wpAnyR_take (i := 4) (v := ?_) (by simp only [List.getElem?_toArray, List.getElem?_cons_succ, List.getElem?_cons_zero]; rfl) (by kernel_rfl) (by kernel_rfl) (by kernel_rfl) (by first | exact fun _ _ _ h => h | exact fun _ _ _ h => by cases h.1) (Rws.grow _) (Or.inl ⟨by rfl, ?_⟩) hS ?_
          rotate_left
          · intro w' hS'
            simp only [Rws] at hS'
            go_simp
            refine ⟨?_, Below.refl _ _⟩
            rfl
          (try simp only [Act.put, List.setIfInBounds_toArray, List.set_cons_zero, List.set_cons_succ])
          refine wpAnyR_one (i := 5) (by simp only [List.getElem?_toArray, List.getElem?_cons_succ, List.getElem?_cons_zero]; rfl) rfl (by kernel_rfl) (fun w7 b7 => ?_)
          replace b7 := below_step (Below.drew (Below.refl _ _)) b7
          have z7 := b7.size
          have hM7 := mapOk_below b7 (by omega) hM6
          have hL7 := (mapL_below b7 (by omega)).trans HL6.out
          obtain ⟨w8, hrun8, hT8, hM8, hL8, hold8⟩ := run_del (ty := 0) key_hush map_hush hM7 (okH v ip) (by rw [hL7]; exact okH_all _)
          obtain ⟨hit8, hl8⟩ := (HIT6.out.kept (b7.block M (by omega)) (b7.block _ (by omega))).del hT8 hold8
          rw [hL7, delH_enc, prog_del time left m hd ⟨v, ip, mac, age⟩ HB.out HLP.out ht] at hL8
          have HL8 := Lib.hid hL8
          have HIT8 := Lib.hid hit8
          have hl8' : leftN w8 w.heap.size M < leftN wr w.heap.size M := by
            refine Nat.lt_of_le_of_lt hl8 ?_
            rw [leftN_kept (b7.block M (by omega)) (b7.block _ (by omega))]
            exact HLQ6.out
          have HLQ8 := Lib.hid hl8'
          clear hL7 hL8 hit8 hl8 hold8 hl8'
          unfold hkV at hrun8
          have z8 := hT8.size
          have rA8 : row w8 A = #[Value.int .i64 time, Value.map (some M)] := by rw [hT8.row hAM, row_below b7 (by omega), rA6]
          have rX8 : row w8 wr.heap.size = #[Value.int .i64 v, Value.string ⟨ip.toArray⟩] := by rw [hT8.row (by omega), row_below b7 (by omega), rX6]
          refine ⟨.value (.tuple #[]), .tuple #[], w8, ?_, rfl, ⟨rA8, by omega, rX8, by omega, trivial⟩, ?_⟩
          · go_simp
            try rfl
          · refine wpAnyR_done (by kernel_rfl) (fun w9 b9 => ?_) _
            have z9 := b9.size
            have rA9 : row w9 A = #[Value.int .i64 time, Value.map (some M)] := by rw [row_below b9 (by omega), hT8.row hAM, row_below b7 (by omega), rA6]
            have hM9 := mapOk_below b9 (by omega) hM8
            have hL9 := (mapL_below b9 (by omega)).trans HL8.out
            have HL9 := Lib.hid hL9
            have hbb9 : BelowBut w.heap.size M w w9 := hbb6.trans ⟨by rw [b9.os, hT8.os, b7.os], by rw [b9.tape, hT8.tape, b7.tape], by rw [b9.output, hT8.output, b7.output], by omega, fun k hk hn => by rw [b9.block k (by omega), hT8.block k hn, b7.block k (by omega)]⟩
            have hit9 := HIT8.out.kept (b9.block M (by omega)) (b9.block w.heap.size (by omega))
            have hl9 : leftN w9 w.heap.size M < leftN wr w.heap.size M := by
              rw [leftN_kept (b9.block M (by omega)) (b9.block _ (by omega))]
              exact HLQ8.out
            have HIT9 := Lib.hid hit9
            have HLQ9 := Lib.hid hl9
            clear hL9 hrun8 hit9 hl9 b9 hS
            go_wp2_with fail
            go_roundw
            case rel => exact ⟨_, HIT9.out, HL9.out, by omega⟩
            case measure => exact HLQ9.out
        · go_wp2_with fail
          go_roundw
          case rel => exact ⟨_, HIT6.out, hM6, by rw [HL6.out, prog_put time left m hd ⟨v, ip, mac, age⟩ HB.out HLP.out ht], rA6, hbb6, by omega⟩
          case measure => exact HLQ6.out
end Go.Proofs.Ytckckabedgpbiaa
