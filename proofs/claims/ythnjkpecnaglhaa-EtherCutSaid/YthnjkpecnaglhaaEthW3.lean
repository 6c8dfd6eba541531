/- The walk of the law EtherCut. -/
import Derived.Test.YthnjkpecnaglhaaEthL
set_option linter.unusedSimpArgs false
set_option linter.unusedVariables false
namespace Go.Proofs.Ythnjkpecnaglhaa
open Go.ChangeShapes Go.WideShapes Go.ChangeAt Go.RowKit
section
variable (dst src : Vector UInt8 6) (ty : Int) (body : List UInt8) (vlan prio : Int) (cut : Nat) (w : World)
set_option maxRecDepth 20000 in
set_option maxHeartbeats 2000000 in
theorem etherCut_bad (hr : rightB ty vlan prio body.length = false) :
    Calls Try.prog 13 #[.agg (ethV dst src ty body vlan prio).toArray, .int .u16 cut] w fun e W' => e = .returned (.bool true) ∧ Below w.heap.size w W' := by
  have HR := Lib.hid hr
  clear hr
  unfold ethV
  go_enter Try.func13, Try.ntmps13
  go_wp2_with fail
  refine (of08_any dst src ty body vlan prio _).mono ?_
  rintro e w2 ⟨rfl, hb2⟩
  have z2 := (hb2).size
  try simp at z2
  replace hb2 := below_of hb2 (show Below (w).heap.size w _ from by (repeat (first | exact Below.refl _ _ | refine Below.alloc ?_ (by first | (simp; done) | (simp; omega) | omega) _ | refine Below.drew ?_ | refine Below.setRow ?_ (by first | (simp; done) | (simp; omega) | omega) _ | refine Below.setCell ?_ (by first | (simp; done) | (simp; omega) | omega) _))) (by first | (simp; done) | (simp; omega) | omega)
  unfold ethV
  go_wp2_with fail
  refine (ethPrint_out dst src ty body vlan prio _ HR.out).mono ?_
  rintro e w3 ⟨rfl, hb3⟩
  have z3 := (hb3).size
  try simp at z3
  go_wp2_with fail
  refine (awake08_any _).mono ?_
  rintro e w4 ⟨rfl, hb4⟩
  have z4 := (hb4).size
  try simp at z4
  go_wp2_with fail
  refine (awake08_any _).mono ?_
  rintro e w5 ⟨rfl, hb5⟩
  go_wp2_with fail
  go_ret
  refine ⟨rfl, ?_⟩
  refine Below.trans ?_ (Below.mono hb5 (by first | (simp; done) | (simp; omega) | omega))
  refine Below.trans ?_ (Below.mono hb4 (by first | (simp; done) | (simp; omega) | omega))
  refine Below.trans ?_ (Below.mono hb3 (by first | (simp; done) | (simp; omega) | omega))
  exact hb2
set_option maxRecDepth 20000 in
set_option maxHeartbeats 2000000 in
theorem etherCut_good (hr : rightB ty vlan prio body.length = true) (hcut : cut ≤ 65535) :
    Calls Try.prog 13 #[.agg (ethV dst src ty body vlan prio).toArray, .int .u16 cut] w fun e W' => e = .returned (.bool true) ∧ Below w.heap.size w W' := by
  have hs := ethS_small dst src ty body vlan prio hr
  have hlen := ethS_len dst src ty body vlan prio hr
  have HC := Lib.hid (fun n => ethParse_cut dst src ty body vlan prio n hr)
  have Hpr : ∀ w, Calls Try.prog 24 #[.agg (ethV dst src ty body vlan prio).toArray] w _ := fun w => ethPrint_any dst src ty body vlan prio w hr
  obtain ⟨t, ht⟩ : ∃ t, ethS dst src ty body vlan prio = t := ⟨_, rfl⟩
  rw [ht] at Hpr hs hlen HC
  have HPR := Lib.hid Hpr
  clear Hpr ht
  have HR := Lib.hid hr
  clear hr
  obtain ⟨n, hn⟩ : ∃ n, cut % t.length = n := ⟨_, rfl⟩
  have hnl : n < t.length := by rw [← hn]; exact Nat.mod_lt _ (by omega)
  have HLEN := Lib.hid hlen
  clear hlen
  have ht0 : ¬ t.length = 0 := by omega
  have ht1 : (t.length : Int) ≤ 1518 := by omega
  have hn1 : (cut : Int) % (t.length : Int) = (n : Int) := by rw [← hn]; rfl
  have HN := Lib.hid hn
  clear hn
  unfold ethV
  go_enter Try.func13, Try.ntmps13
  go_wp2_with fail
  refine (of08_any dst src ty body vlan prio _).mono ?_
  rintro e w2 ⟨rfl, hb2⟩
  have z2 := (hb2).size
  try simp at z2
  have ra : row w2 (w.heap.size) = (u8v dst ++ (u8v src ++ [Value.int .i64 ty, .string ⟨body.toArray⟩, .int .i64 vlan, .int .i64 prio])).toArray := by rw [row_below hb2 (by first | (simp; done) | (simp; omega) | omega)]; simp [go_sem]; (try rfl)
  replace hb2 := below_of hb2 (show Below (w).heap.size w _ from by (repeat (first | exact Below.refl _ _ | refine Below.alloc ?_ (by first | (simp; done) | (simp; omega) | omega) _ | refine Below.drew ?_ | refine Below.setRow ?_ (by first | (simp; done) | (simp; omega) | omega) _ | refine Below.setCell ?_ (by first | (simp; done) | (simp; omega) | omega) _))) (by first | (simp; done) | (simp; omega) | omega)
  unfold ethV
  go_wp2_with fail
  refine (HPR.out _).mono ?_
  rintro e w3 ⟨rfl, hb3⟩
  have z3 := (hb3).size
  try simp at z3
  replace ra := (row_below hb3 (by omega)).trans ra
  go_wp2_with fail
  refine (awake08_any _).mono ?_
  rintro e w4 ⟨rfl, hb4⟩
  have z4 := (hb4).size
  try simp at z4
  replace ra := (row_below hb4 (by omega)).trans ra
  have q4 : w.heap.size < w4.heap.size := by omega
  go_wp2_with fail
  have hp := HC.out n (by omega)
  by_cases hv : 0 ≤ vlan
  · rw [if_pos hv] at hp
    have hlen := HLEN.out
    rw [if_pos hv] at hlen
    by_cases hh : n < 18
    · rw [if_pos hh] at hp
      have hh0 : (n : Int) < 18 := by omega
      clear hlen
      by_cases h0 : ty = 0
      · subst h0
        refine (ethParse_err _ 2 _ (by simp; omega) hp).mono ?_
        rintro e w5 ⟨rfl, hb5⟩
        have z5 := (hb5).size
        try simp at z5
        replace ra := (row_below hb5 (by omega)).trans ra
        have q5 : w.heap.size < w5.heap.size := by omega
        unfold ethV
        go_wp2_with fail
        go_ret
        refine ⟨by simp, ?_⟩
        (repeat (first | refine Below.alloc ?_ (by first | (simp; done) | (simp; omega) | omega) _ | refine Below.drew ?_ | refine Below.setRow ?_ (by first | (simp; done) | (simp; omega) | omega) _ | refine Below.setCell ?_ (by first | (simp; done) | (simp; omega) | omega) _))
        refine Below.trans ?_ (Below.mono hb5 (by first | (simp; done) | (simp; omega) | omega))
        refine Below.trans ?_ (Below.mono hb4 (by first | (simp; done) | (simp; omega) | omega))
        refine Below.trans ?_ (Below.mono hb3 (by first | (simp; done) | (simp; omega) | omega))
        exact hb2
      · refine (ethParse_err _ 2 _ (by simp; omega) hp).mono ?_
        rintro e w5 ⟨rfl, hb5⟩
        have z5 := (hb5).size
        try simp at z5
        replace ra := (row_below hb5 (by omega)).trans ra
        have q5 : w.heap.size < w5.heap.size := by omega
        unfold ethV
        go_wp2_with fail
        go_ret
        refine ⟨by simp, ?_⟩
        (repeat (first | refine Below.alloc ?_ (by first | (simp; done) | (simp; omega) | omega) _ | refine Below.drew ?_ | refine Below.setRow ?_ (by first | (simp; done) | (simp; omega) | omega) _ | refine Below.setCell ?_ (by first | (simp; done) | (simp; omega) | omega) _))
        refine Below.trans ?_ (Below.mono hb5 (by first | (simp; done) | (simp; omega) | omega))
        refine Below.trans ?_ (Below.mono hb4 (by first | (simp; done) | (simp; omega) | omega))
        refine Below.trans ?_ (Below.mono hb3 (by first | (simp; done) | (simp; omega) | omega))
        exact hb2
    · rw [if_neg hh] at hp
      by_cases h0 : ty = 0
      · rw [if_pos ⟨h0, by omega⟩] at hp
        subst h0
        refine (ethParse_err _ 2 _ (by simp; omega) hp).mono ?_
        rintro e w5 ⟨rfl, hb5⟩
        have z5 := (hb5).size
        try simp at z5
        replace ra := (row_below hb5 (by omega)).trans ra
        have q5 : w.heap.size < w5.heap.size := by omega
        unfold ethV
        go_wp2_with fail
        go_ret
        refine ⟨by simp, ?_⟩
        (repeat (first | refine Below.alloc ?_ (by first | (simp; done) | (simp; omega) | omega) _ | refine Below.drew ?_ | refine Below.setRow ?_ (by first | (simp; done) | (simp; omega) | omega) _ | refine Below.setCell ?_ (by first | (simp; done) | (simp; omega) | omega) _))
        refine Below.trans ?_ (Below.mono hb5 (by first | (simp; done) | (simp; omega) | omega))
        refine Below.trans ?_ (Below.mono hb4 (by first | (simp; done) | (simp; omega) | omega))
        refine Below.trans ?_ (Below.mono hb3 (by first | (simp; done) | (simp; omega) | omega))
        exact hb2
      · rw [if_neg (fun h => h0 h.1)] at hp
        obtain ⟨m, rfl⟩ : ∃ m, n = m + 18 := ⟨n - 18, by omega⟩
        rw [Nat.add_sub_cancel] at hp
        replace hn1 : (cut : Int) % (t.length : Int) = (m : Int) + 18 := by rw [hn1]; rfl
        have hmb : m ≤ body.length := by omega
        have hmb1 : (m : Int) ≤ body.length := by omega
        have hmb2 : (body.length : Int) ≤ 1518 := by omega
        have hh1 : ¬ (m : Int) + 18 < 18 := by omega
        have hmin : min m body.length = m := by omega
        have hty0 : (ty == 0) = false := by simp [h0]
        clear hlen
        refine (ethParse_ok _ _ _ (by simp; omega) hp).mono ?_
        rintro e w5 ⟨rfl, hb5⟩
        have z5 := (hb5).size
        try simp at z5
        replace ra := (row_below hb5 (by omega)).trans ra
        have q5 : w.heap.size < w5.heap.size := by omega
        unfold ethV
        go_wp2_with fail
        (try simp only [hn1])
        refine wp_region_beginS (S := Held (fun w' => row w' w.heap.size = (u8v dst ++ (u8v src ++ [Value.int .i64 ty, .string ⟨body.toArray⟩, .int .i64 vlan, .int .i64 prio])).toArray ∧ row w' w5.heap.size = (u8v dst ++ (u8v src ++ [Value.int .i64 ty, .string ⟨(body.take m).toArray⟩, .int .i64 vlan, .int .i64 prio])).toArray)) rfl ?_ (fun hS => ?_)
        · unfold Held
          simp [go_sem, *]
        refine wpAnyH_take (i := 0) (v := ?_) (by simp only [List.getElem?_toArray, List.getElem?_cons_succ, List.getElem?_cons_zero]; rfl) (by kernel_rfl) (by kernel_rfl) (by kernel_rfl) (by exact fun _ _ _ h => h) (Or.inl ⟨by rfl, ?_⟩) hS ?_
        rotate_left
        · intro w' hS'
          unfold Held at hS'
          go_simp
          rfl
        (try simp only [Act.put, List.setIfInBounds_toArray, List.set_cons_zero, List.set_cons_succ])
        refine wpAnyH_take (i := 1) (v := ?_) (by simp only [List.getElem?_toArray, List.getElem?_cons_succ, List.getElem?_cons_zero]; rfl) (by kernel_rfl) (by kernel_rfl) (by kernel_rfl) (by exact fun _ _ _ h => h) (Or.inl ⟨by rfl, ?_⟩) hS ?_
        rotate_left
        · intro w' hS'
          unfold Held at hS'
          go_simp
          rfl
        (try simp only [Act.put, List.setIfInBounds_toArray, List.set_cons_zero, List.set_cons_succ])
        refine wpAnyH_take (i := 2) (v := ?_) (by simp only [List.getElem?_toArray, List.getElem?_cons_succ, List.getElem?_cons_zero]; rfl) (by kernel_rfl) (by kernel_rfl) (by kernel_rfl) (by exact fun _ _ _ h => h) (Or.inl ⟨by rfl, ?_⟩) hS ?_
        rotate_left
        · intro w' hS'
          unfold Held at hS'
          go_simp
          rfl
        (try simp only [Act.put, List.setIfInBounds_toArray, List.set_cons_zero, List.set_cons_succ])
        refine wpAnyH_take (i := 3) (v := ?_) (by simp only [List.getElem?_toArray, List.getElem?_cons_succ, List.getElem?_cons_zero]; rfl) (by kernel_rfl) (by kernel_rfl) (by kernel_rfl) (by exact fun _ _ _ h => h) (Or.inl ⟨by rfl, ?_⟩) hS ?_
        rotate_left
        · intro w' hS'
          unfold Held at hS'
          go_simp
          rfl
        (try simp only [Act.put, List.setIfInBounds_toArray, List.set_cons_zero, List.set_cons_succ])
        refine wpAnyH_take (i := 4) (v := ?_) (by simp only [List.getElem?_toArray, List.getElem?_cons_succ, List.getElem?_cons_zero]; rfl) (by kernel_rfl) (by kernel_rfl) (by kernel_rfl) (by exact fun _ _ _ h => h) (Or.inl ⟨by rfl, ?_⟩) hS ?_
        rotate_left
        · intro w' hS'
          unfold Held at hS'
          go_simp
          rfl
        (try simp only [Act.put, List.setIfInBounds_toArray, List.set_cons_zero, List.set_cons_succ])
        refine wpAnyH_take (i := 5) (v := ?_) (by simp only [List.getElem?_toArray, List.getElem?_cons_succ, List.getElem?_cons_zero]; rfl) (by kernel_rfl) (by kernel_rfl) (by kernel_rfl) (by exact fun _ _ _ h => h) (Or.inl ⟨by rfl, ?_⟩) hS ?_
        rotate_left
        · intro w' hS'
          unfold Held at hS'
          go_simp
          rfl
        (try simp only [Act.put, List.setIfInBounds_toArray, List.set_cons_zero, List.set_cons_succ])
        refine wpAnyH_take (i := 6) (v := ?_) (by simp only [List.getElem?_toArray, List.getElem?_cons_succ, List.getElem?_cons_zero]; rfl) (by kernel_rfl) (by kernel_rfl) (by kernel_rfl) (by exact fun _ _ _ h => h) (Or.inl ⟨by rfl, ?_⟩) hS ?_
        rotate_left
        · intro w' hS'
          unfold Held at hS'
          go_simp
          rfl
        (try simp only [Act.put, List.setIfInBounds_toArray, List.set_cons_zero, List.set_cons_succ])
        refine wpAnyH_take (i := 7) (v := ?_) (by simp only [List.getElem?_toArray, List.getElem?_cons_succ, List.getElem?_cons_zero]; rfl) (by kernel_rfl) (by kernel_rfl) (by kernel_rfl) (by exact fun _ _ _ h => h) (Or.inl ⟨by rfl, ?_⟩) hS ?_
        rotate_left
        · intro w' hS'
          unfold Held at hS'
          go_simp
          rfl
        (try simp only [Act.put, List.setIfInBounds_toArray, List.set_cons_zero, List.set_cons_succ])
        refine wpAnyH_take (i := 8) (v := ?_) (by simp only [List.getElem?_toArray, List.getElem?_cons_succ, List.getElem?_cons_zero]; rfl) (by kernel_rfl) (by kernel_rfl) (by kernel_rfl) (by exact fun _ _ _ h => h) (Or.inl ⟨by rfl, ?_⟩) hS ?_
        rotate_left
        · intro w' hS'
          unfold Held at hS'
          go_simp
          rfl
        (try simp only [Act.put, List.setIfInBounds_toArray, List.set_cons_zero, List.set_cons_succ])
        refine wpAnyH_take (i := 9) (v := ?_) (by simp only [List.getElem?_toArray, List.getElem?_cons_succ, List.getElem?_cons_zero]; rfl) (by kernel_rfl) (by kernel_rfl) (by kernel_rfl) (by exact fun _ _ _ h => h) (Or.inl ⟨by rfl, ?_⟩) hS ?_
        rotate_left
        · intro w' hS'
          unfold Held at hS'
          go_simp
          rfl
        (try simp only [Act.put, List.setIfInBounds_toArray, List.set_cons_zero, List.set_cons_succ])
        refine wpAnyH_take (i := 10) (v := ?_) (by simp only [List.getElem?_toArray, List.getElem?_cons_succ, List.getElem?_cons_zero]; rfl) (by kernel_rfl) (by kernel_rfl) (by kernel_rfl) (by exact fun _ _ _ h => h) (Or.inl ⟨by rfl, ?_⟩) hS ?_
        rotate_left
        · intro w' hS'
          unfold Held at hS'
          go_simp
          rfl
        (try simp only [Act.put, List.setIfInBounds_toArray, List.set_cons_zero, List.set_cons_succ])
        refine wpAnyH_take (i := 11) (v := ?_) (by simp only [List.getElem?_toArray, List.getElem?_cons_succ, List.getElem?_cons_zero]; rfl) (by kernel_rfl) (by kernel_rfl) (by kernel_rfl) (by exact fun _ _ _ h => h) (Or.inl ⟨by rfl, ?_⟩) hS ?_
        rotate_left
        · intro w' hS'
          unfold Held at hS'
          go_simp
          rfl
        (try simp only [Act.put, List.setIfInBounds_toArray, List.set_cons_zero, List.set_cons_succ])
        rw [wraps_i64 (m : Int) (by omega) (by omega)]
        refine wpAnyH_take (i := 12) (v := ?_) (by simp only [List.getElem?_toArray, List.getElem?_cons_succ, List.getElem?_cons_zero]; rfl) (by kernel_rfl) (by kernel_rfl) (by kernel_rfl) (by exact fun _ _ _ h => h) (Or.inl ⟨by rfl, ?_⟩) hS ?_
        rotate_left
        · intro w' hS'
          unfold Held at hS'
          go_simp
          rfl
        (try simp only [Act.put, List.setIfInBounds_toArray, List.set_cons_zero, List.set_cons_succ])
        refine wpAnyH_take (i := 13) (v := ?_) (by simp only [List.getElem?_toArray, List.getElem?_cons_succ, List.getElem?_cons_zero]; rfl) (by kernel_rfl) (by kernel_rfl) (by kernel_rfl) (by exact fun _ _ _ h => h) (Or.inl ⟨by rfl, ?_⟩) hS ?_
        rotate_left
        · intro w' hS'
          unfold Held at hS'
          go_simp
          rfl
        (try simp only [Act.put, List.setIfInBounds_toArray, List.set_cons_zero, List.set_cons_succ])
        refine wpAnyH_take (i := 14) (v := ?_) (by simp only [List.getElem?_toArray, List.getElem?_cons_succ, List.getElem?_cons_zero]; rfl) (by kernel_rfl) (by kernel_rfl) (by kernel_rfl) (by exact fun _ _ _ h => h) (Or.inl ⟨by rfl, ?_⟩) hS ?_
        rotate_left
        · intro w' hS'
          unfold Held at hS'
          go_simp
          rfl
        (try simp only [Act.put, List.setIfInBounds_toArray, List.set_cons_zero, List.set_cons_succ])
        refine wpAnyH_take (i := 15) (v := ?_) (by simp only [List.getElem?_toArray, List.getElem?_cons_succ, List.getElem?_cons_zero]; rfl) (by kernel_rfl) (by kernel_rfl) (by kernel_rfl) (by exact fun _ _ _ h => h) (Or.inl ⟨by rfl, ?_⟩) hS ?_
        rotate_left
        · intro w' hS'
          unfold Held at hS'
          go_simp
          rfl
        (try simp only [Act.put, List.setIfInBounds_toArray, List.set_cons_zero, List.set_cons_succ])
        refine wpAnyH_take (i := 16) (v := ?_) (by simp only [List.getElem?_toArray, List.getElem?_cons_succ, List.getElem?_cons_zero]; rfl) (by kernel_rfl) (by kernel_rfl) (by kernel_rfl) (by exact fun _ _ _ h => h) (Or.inl ⟨by rfl, ?_⟩) hS ?_
        rotate_left
        · intro w' hS'
          unfold Held at hS'
          go_simp
          rfl
        (try simp only [Act.put, List.setIfInBounds_toArray, List.set_cons_zero, List.set_cons_succ])
        refine wpAnyH_take (i := 17) (v := ?_) (by simp only [List.getElem?_toArray, List.getElem?_cons_succ, List.getElem?_cons_zero]; rfl) (by kernel_rfl) (by kernel_rfl) (by kernel_rfl) (by exact fun _ _ _ h => h) (Or.inl ⟨by rfl, ?_⟩) hS ?_
        rotate_left
        · intro w' hS'
          unfold Held at hS'
          go_simp
          rfl
        (try simp only [Act.put, List.setIfInBounds_toArray, List.set_cons_zero, List.set_cons_succ])
        refine wpAnyH_take (i := 18) (v := ?_) (by simp only [List.getElem?_toArray, List.getElem?_cons_succ, List.getElem?_cons_zero]; rfl) (by kernel_rfl) (by kernel_rfl) (by kernel_rfl) (by exact fun _ _ _ h => h) (Or.inl ⟨by rfl, ?_⟩) hS ?_
        rotate_left
        · intro w' hS'
          unfold Held at hS'
          go_simp
          rfl
        (try simp only [Act.put, List.setIfInBounds_toArray, List.set_cons_zero, List.set_cons_succ])
        refine wpAnyH_take (i := 19) (v := ?_) (by simp only [List.getElem?_toArray, List.getElem?_cons_succ, List.getElem?_cons_zero]; rfl) (by kernel_rfl) (by kernel_rfl) (by kernel_rfl) (by exact fun _ _ _ h => h) (Or.inl ⟨by rfl, ?_⟩) hS ?_
        rotate_left
        · intro w' hS'
          unfold Held at hS'
          go_simp
          rfl
        (try simp only [Act.put, List.setIfInBounds_toArray, List.set_cons_zero, List.set_cons_succ])
        refine wpAnyH_take (i := 20) (v := ?_) (by simp only [List.getElem?_toArray, List.getElem?_cons_succ, List.getElem?_cons_zero]; rfl) (by kernel_rfl) (by kernel_rfl) (by kernel_rfl) (by exact fun _ _ _ h => h) (Or.inl ⟨by rfl, ?_⟩) hS ?_
        rotate_left
        · intro w' hS'
          unfold Held at hS'
          go_simp
          rfl
        (try simp only [Act.put, List.setIfInBounds_toArray, List.set_cons_zero, List.set_cons_succ])
        refine wpAnyH_take (i := 21) (v := ?_) (by simp only [List.getElem?_toArray, List.getElem?_cons_succ, List.getElem?_cons_zero]; rfl) (by kernel_rfl) (by kernel_rfl) (by kernel_rfl) (by exact fun _ _ _ h => h) (Or.inl ⟨by rfl, ?_⟩) hS ?_
        rotate_left
        · intro w' hS'
          unfold Held at hS'
          go_simp
          rfl
        (try simp only [Act.put, List.setIfInBounds_toArray, List.set_cons_zero, List.set_cons_succ])
        refine wpAnyH_take (i := 22) (v := ?_) (by simp only [List.getElem?_toArray, List.getElem?_cons_succ, List.getElem?_cons_zero]; rfl) (by kernel_rfl) (by kernel_rfl) (by kernel_rfl) (by exact fun _ _ _ h => h) (Or.inl ⟨by rfl, ?_⟩) hS ?_
        rotate_left
        · intro w' hS'
          unfold Held at hS'
          go_simp
          rfl
        (try simp only [Act.put, List.setIfInBounds_toArray, List.set_cons_zero, List.set_cons_succ])
        refine wpAnyH_take (i := 23) (v := ?_) (by simp only [List.getElem?_toArray, List.getElem?_cons_succ, List.getElem?_cons_zero]; rfl) (by kernel_rfl) (by kernel_rfl) (by kernel_rfl) (by exact fun _ _ _ h => h) (Or.inl ⟨by rfl, ?_⟩) hS ?_
        rotate_left
        · intro w' hS'
          unfold Held at hS'
          go_simp
          rfl
        (try simp only [Act.put, List.setIfInBounds_toArray, List.set_cons_zero, List.set_cons_succ])
        refine wpAnyH_take (i := 24) (v := ?_) (by simp only [List.getElem?_toArray, List.getElem?_cons_succ, List.getElem?_cons_zero]; rfl) (by kernel_rfl) (by kernel_rfl) (by kernel_rfl) (by exact fun _ _ _ h => h) (Or.inl ⟨by rfl, ?_⟩) hS ?_
        rotate_left
        · intro w' hS'
          unfold Held at hS'
          go_simp
          rfl
        (try simp only [Act.put, List.setIfInBounds_toArray, List.set_cons_zero, List.set_cons_succ])
        refine wpAnyH_done (by kernel_rfl) ?_ _
        go_wp2_with fail
        go_ret
        refine ⟨by simp, ?_⟩
        (repeat (first | refine Below.alloc ?_ (by first | (simp; done) | (simp; omega) | omega) _ | refine Below.drew ?_ | refine Below.setRow ?_ (by first | (simp; done) | (simp; omega) | omega) _ | refine Below.setCell ?_ (by first | (simp; done) | (simp; omega) | omega) _))
        refine Below.trans ?_ (Below.mono hb5 (by first | (simp; done) | (simp; omega) | omega))
        refine Below.trans ?_ (Below.mono hb4 (by first | (simp; done) | (simp; omega) | omega))
        refine Below.trans ?_ (Below.mono hb3 (by first | (simp; done) | (simp; omega) | omega))
        exact hb2
  · have hr := HR.out
    simp [rightB] at hr
    have hv1 : vlan = -1 := by omega
    have hp1 : prio = 0 := by omega
    rw [if_neg hv] at hp
    have hlen := HLEN.out
    rw [if_neg hv] at hlen
    clear hr
    subst hv1
    subst hp1
    by_cases hh : n < 14
    · rw [if_pos hh] at hp
      have hh0 : (n : Int) < 14 := by omega
      clear hlen
      by_cases h0 : ty = 0
      · subst h0
        refine (ethParse_err _ 2 _ (by simp; omega) hp).mono ?_
        rintro e w5 ⟨rfl, hb5⟩
        have z5 := (hb5).size
        try simp at z5
        replace ra := (row_below hb5 (by omega)).trans ra
        have q5 : w.heap.size < w5.heap.size := by omega
        unfold ethV
        go_wp2_with fail
        go_ret
        refine ⟨by simp, ?_⟩
        (repeat (first | refine Below.alloc ?_ (by first | (simp; done) | (simp; omega) | omega) _ | refine Below.drew ?_ | refine Below.setRow ?_ (by first | (simp; done) | (simp; omega) | omega) _ | refine Below.setCell ?_ (by first | (simp; done) | (simp; omega) | omega) _))
        refine Below.trans ?_ (Below.mono hb5 (by first | (simp; done) | (simp; omega) | omega))
        refine Below.trans ?_ (Below.mono hb4 (by first | (simp; done) | (simp; omega) | omega))
        refine Below.trans ?_ (Below.mono hb3 (by first | (simp; done) | (simp; omega) | omega))
        exact hb2
      · refine (ethParse_err _ 2 _ (by simp; omega) hp).mono ?_
        rintro e w5 ⟨rfl, hb5⟩
        have z5 := (hb5).size
        try simp at z5
        replace ra := (row_below hb5 (by omega)).trans ra
        have q5 : w.heap.size < w5.heap.size := by omega
        unfold ethV
        go_wp2_with fail
        go_ret
        refine ⟨by simp, ?_⟩
        (repeat (first | refine Below.alloc ?_ (by first | (simp; done) | (simp; omega) | omega) _ | refine Below.drew ?_ | refine Below.setRow ?_ (by first | (simp; done) | (simp; omega) | omega) _ | refine Below.setCell ?_ (by first | (simp; done) | (simp; omega) | omega) _))
        refine Below.trans ?_ (Below.mono hb5 (by first | (simp; done) | (simp; omega) | omega))
        refine Below.trans ?_ (Below.mono hb4 (by first | (simp; done) | (simp; omega) | omega))
        refine Below.trans ?_ (Below.mono hb3 (by first | (simp; done) | (simp; omega) | omega))
        exact hb2
    · rw [if_neg hh] at hp
      by_cases h0 : ty = 0
      · rw [if_pos ⟨h0, by omega⟩] at hp
        subst h0
        refine (ethParse_err _ 2 _ (by simp; omega) hp).mono ?_
        rintro e w5 ⟨rfl, hb5⟩
        have z5 := (hb5).size
        try simp at z5
        replace ra := (row_below hb5 (by omega)).trans ra
        have q5 : w.heap.size < w5.heap.size := by omega
        unfold ethV
        go_wp2_with fail
        go_ret
        refine ⟨by simp, ?_⟩
        (repeat (first | refine Below.alloc ?_ (by first | (simp; done) | (simp; omega) | omega) _ | refine Below.drew ?_ | refine Below.setRow ?_ (by first | (simp; done) | (simp; omega) | omega) _ | refine Below.setCell ?_ (by first | (simp; done) | (simp; omega) | omega) _))
        refine Below.trans ?_ (Below.mono hb5 (by first | (simp; done) | (simp; omega) | omega))
        refine Below.trans ?_ (Below.mono hb4 (by first | (simp; done) | (simp; omega) | omega))
        refine Below.trans ?_ (Below.mono hb3 (by first | (simp; done) | (simp; omega) | omega))
        exact hb2
      · rw [if_neg (fun h => h0 h.1)] at hp
        obtain ⟨m, rfl⟩ : ∃ m, n = m + 14 := ⟨n - 14, by omega⟩
        rw [Nat.add_sub_cancel] at hp
        replace hn1 : (cut : Int) % (t.length : Int) = (m : Int) + 14 := by rw [hn1]; rfl
        have hmb : m ≤ body.length := by omega
        have hmb1 : (m : Int) ≤ body.length := by omega
        have hmb2 : (body.length : Int) ≤ 1518 := by omega
        have hh1 : ¬ (m : Int) + 14 < 14 := by omega
        have hmin : min m body.length = m := by omega
        have hty0 : (ty == 0) = false := by simp [h0]
        clear hlen
        refine (ethParse_ok _ _ _ (by simp; omega) hp).mono ?_
        rintro e w5 ⟨rfl, hb5⟩
        have z5 := (hb5).size
        try simp at z5
        replace ra := (row_below hb5 (by omega)).trans ra
        have q5 : w.heap.size < w5.heap.size := by omega
        unfold ethV
        go_wp2_with fail
        (try simp only [hn1])
        refine wp_region_beginS (S := Held (fun w' => row w' w.heap.size = (u8v dst ++ (u8v src ++ [Value.int .i64 ty, .string ⟨body.toArray⟩, .int .i64 (-1), .int .i64 0])).toArray ∧ row w' w5.heap.size = (u8v dst ++ (u8v src ++ [Value.int .i64 ty, .string ⟨(body.take m).toArray⟩, .int .i64 (-1), .int .i64 0])).toArray)) rfl ?_ (fun hS => ?_)
        · unfold Held
          simp [go_sem, *]
        refine wpAnyH_take (i := 0) (v := ?_) (by simp only [List.getElem?_toArray, List.getElem?_cons_succ, List.getElem?_cons_zero]; rfl) (by kernel_rfl) (by kernel_rfl) (by kernel_rfl) (by exact fun _ _ _ h => h) (Or.inl ⟨by rfl, ?_⟩) hS ?_
        rotate_left
        · intro w' hS'
          unfold Held at hS'
          go_simp
          rfl
        (try simp only [Act.put, List.setIfInBounds_toArray, List.set_cons_zero, List.set_cons_succ])
        refine wpAnyH_take (i := 1) (v := ?_) (by simp only [List.getElem?_toArray, List.getElem?_cons_succ, List.getElem?_cons_zero]; rfl) (by kernel_rfl) (by kernel_rfl) (by kernel_rfl) (by exact fun _ _ _ h => h) (Or.inl ⟨by rfl, ?_⟩) hS ?_
        rotate_left
        · intro w' hS'
          unfold Held at hS'
          go_simp
          rfl
        (try simp only [Act.put, List.setIfInBounds_toArray, List.set_cons_zero, List.set_cons_succ])
        refine wpAnyH_take (i := 2) (v := ?_) (by simp only [List.getElem?_toArray, List.getElem?_cons_succ, List.getElem?_cons_zero]; rfl) (by kernel_rfl) (by kernel_rfl) (by kernel_rfl) (by exact fun _ _ _ h => h) (Or.inl ⟨by rfl, ?_⟩) hS ?_
        rotate_left
        · intro w' hS'
          unfold Held at hS'
          go_simp
          rfl
        (try simp only [Act.put, List.setIfInBounds_toArray, List.set_cons_zero, List.set_cons_succ])
        refine wpAnyH_take (i := 3) (v := ?_) (by simp only [List.getElem?_toArray, List.getElem?_cons_succ, List.getElem?_cons_zero]; rfl) (by kernel_rfl) (by kernel_rfl) (by kernel_rfl) (by exact fun _ _ _ h => h) (Or.inl ⟨by rfl, ?_⟩) hS ?_
        rotate_left
        · intro w' hS'
          unfold Held at hS'
          go_simp
          rfl
        (try simp only [Act.put, List.setIfInBounds_toArray, List.set_cons_zero, List.set_cons_succ])
        refine wpAnyH_take (i := 4) (v := ?_) (by simp only [List.getElem?_toArray, List.getElem?_cons_succ, List.getElem?_cons_zero]; rfl) (by kernel_rfl) (by kernel_rfl) (by kernel_rfl) (by exact fun _ _ _ h => h) (Or.inl ⟨by rfl, ?_⟩) hS ?_
        rotate_left
        · intro w' hS'
          unfold Held at hS'
          go_simp
          rfl
        (try simp only [Act.put, List.setIfInBounds_toArray, List.set_cons_zero, List.set_cons_succ])
        refine wpAnyH_take (i := 5) (v := ?_) (by simp only [List.getElem?_toArray, List.getElem?_cons_succ, List.getElem?_cons_zero]; rfl) (by kernel_rfl) (by kernel_rfl) (by kernel_rfl) (by exact fun _ _ _ h => h) (Or.inl ⟨by rfl, ?_⟩) hS ?_
        rotate_left
        · intro w' hS'
          unfold Held at hS'
          go_simp
          rfl
        (try simp only [Act.put, List.setIfInBounds_toArray, List.set_cons_zero, List.set_cons_succ])
        refine wpAnyH_take (i := 6) (v := ?_) (by simp only [List.getElem?_toArray, List.getElem?_cons_succ, List.getElem?_cons_zero]; rfl) (by kernel_rfl) (by kernel_rfl) (by kernel_rfl) (by exact fun _ _ _ h => h) (Or.inl ⟨by rfl, ?_⟩) hS ?_
        rotate_left
        · intro w' hS'
          unfold Held at hS'
          go_simp
          rfl
        (try simp only [Act.put, List.setIfInBounds_toArray, List.set_cons_zero, List.set_cons_succ])
        refine wpAnyH_take (i := 7) (v := ?_) (by simp only [List.getElem?_toArray, List.getElem?_cons_succ, List.getElem?_cons_zero]; rfl) (by kernel_rfl) (by kernel_rfl) (by kernel_rfl) (by exact fun _ _ _ h => h) (Or.inl ⟨by rfl, ?_⟩) hS ?_
        rotate_left
        · intro w' hS'
          unfold Held at hS'
          go_simp
          rfl
        (try simp only [Act.put, List.setIfInBounds_toArray, List.set_cons_zero, List.set_cons_succ])
        refine wpAnyH_take (i := 8) (v := ?_) (by simp only [List.getElem?_toArray, List.getElem?_cons_succ, List.getElem?_cons_zero]; rfl) (by kernel_rfl) (by kernel_rfl) (by kernel_rfl) (by exact fun _ _ _ h => h) (Or.inl ⟨by rfl, ?_⟩) hS ?_
        rotate_left
        · intro w' hS'
          unfold Held at hS'
          go_simp
          rfl
        (try simp only [Act.put, List.setIfInBounds_toArray, List.set_cons_zero, List.set_cons_succ])
        refine wpAnyH_take (i := 9) (v := ?_) (by simp only [List.getElem?_toArray, List.getElem?_cons_succ, List.getElem?_cons_zero]; rfl) (by kernel_rfl) (by kernel_rfl) (by kernel_rfl) (by exact fun _ _ _ h => h) (Or.inl ⟨by rfl, ?_⟩) hS ?_
        rotate_left
        · intro w' hS'
          unfold Held at hS'
          go_simp
          rfl
        (try simp only [Act.put, List.setIfInBounds_toArray, List.set_cons_zero, List.set_cons_succ])
        refine wpAnyH_take (i := 10) (v := ?_) (by simp only [List.getElem?_toArray, List.getElem?_cons_succ, List.getElem?_cons_zero]; rfl) (by kernel_rfl) (by kernel_rfl) (by kernel_rfl) (by exact fun _ _ _ h => h) (Or.inl ⟨by rfl, ?_⟩) hS ?_
        rotate_left
        · intro w' hS'
          unfold Held at hS'
          go_simp
          rfl
        (try simp only [Act.put, List.setIfInBounds_toArray, List.set_cons_zero, List.set_cons_succ])
        refine wpAnyH_take (i := 11) (v := ?_) (by simp only [List.getElem?_toArray, List.getElem?_cons_succ, List.getElem?_cons_zero]; rfl) (by kernel_rfl) (by kernel_rfl) (by kernel_rfl) (by exact fun _ _ _ h => h) (Or.inl ⟨by rfl, ?_⟩) hS ?_
        rotate_left
        · intro w' hS'
          unfold Held at hS'
          go_simp
          rfl
        (try simp only [Act.put, List.setIfInBounds_toArray, List.set_cons_zero, List.set_cons_succ])
        rw [wraps_i64 (m : Int) (by omega) (by omega)]
        refine wpAnyH_take (i := 12) (v := ?_) (by simp only [List.getElem?_toArray, List.getElem?_cons_succ, List.getElem?_cons_zero]; rfl) (by kernel_rfl) (by kernel_rfl) (by kernel_rfl) (by exact fun _ _ _ h => h) (Or.inl ⟨by rfl, ?_⟩) hS ?_
        rotate_left
        · intro w' hS'
          unfold Held at hS'
          go_simp
          rfl
        (try simp only [Act.put, List.setIfInBounds_toArray, List.set_cons_zero, List.set_cons_succ])
        refine wpAnyH_take (i := 13) (v := ?_) (by simp only [List.getElem?_toArray, List.getElem?_cons_succ, List.getElem?_cons_zero]; rfl) (by kernel_rfl) (by kernel_rfl) (by kernel_rfl) (by exact fun _ _ _ h => h) (Or.inl ⟨by rfl, ?_⟩) hS ?_
        rotate_left
        · intro w' hS'
          unfold Held at hS'
          go_simp
          rfl
        (try simp only [Act.put, List.setIfInBounds_toArray, List.set_cons_zero, List.set_cons_succ])
        refine wpAnyH_take (i := 14) (v := ?_) (by simp only [List.getElem?_toArray, List.getElem?_cons_succ, List.getElem?_cons_zero]; rfl) (by kernel_rfl) (by kernel_rfl) (by kernel_rfl) (by exact fun _ _ _ h => h) (Or.inl ⟨by rfl, ?_⟩) hS ?_
        rotate_left
        · intro w' hS'
          unfold Held at hS'
          go_simp
          rfl
        (try simp only [Act.put, List.setIfInBounds_toArray, List.set_cons_zero, List.set_cons_succ])
        refine wpAnyH_take (i := 15) (v := ?_) (by simp only [List.getElem?_toArray, List.getElem?_cons_succ, List.getElem?_cons_zero]; rfl) (by kernel_rfl) (by kernel_rfl) (by kernel_rfl) (by exact fun _ _ _ h => h) (Or.inl ⟨by rfl, ?_⟩) hS ?_
        rotate_left
        · intro w' hS'
          unfold Held at hS'
          go_simp
          rfl
        (try simp only [Act.put, List.setIfInBounds_toArray, List.set_cons_zero, List.set_cons_succ])
        refine wpAnyH_take (i := 16) (v := ?_) (by simp only [List.getElem?_toArray, List.getElem?_cons_succ, List.getElem?_cons_zero]; rfl) (by kernel_rfl) (by kernel_rfl) (by kernel_rfl) (by exact fun _ _ _ h => h) (Or.inl ⟨by rfl, ?_⟩) hS ?_
        rotate_left
        · intro w' hS'
          unfold Held at hS'
          go_simp
          rfl
        (try simp only [Act.put, List.setIfInBounds_toArray, List.set_cons_zero, List.set_cons_succ])
        refine wpAnyH_take (i := 17) (v := ?_) (by simp only [List.getElem?_toArray, List.getElem?_cons_succ, List.getElem?_cons_zero]; rfl) (by kernel_rfl) (by kernel_rfl) (by kernel_rfl) (by exact fun _ _ _ h => h) (Or.inl ⟨by rfl, ?_⟩) hS ?_
        rotate_left
        · intro w' hS'
          unfold Held at hS'
          go_simp
          rfl
        (try simp only [Act.put, List.setIfInBounds_toArray, List.set_cons_zero, List.set_cons_succ])
        refine wpAnyH_take (i := 18) (v := ?_) (by simp only [List.getElem?_toArray, List.getElem?_cons_succ, List.getElem?_cons_zero]; rfl) (by kernel_rfl) (by kernel_rfl) (by kernel_rfl) (by exact fun _ _ _ h => h) (Or.inl ⟨by rfl, ?_⟩) hS ?_
        rotate_left
        · intro w' hS'
          unfold Held at hS'
          go_simp
          rfl
        (try simp only [Act.put, List.setIfInBounds_toArray, List.set_cons_zero, List.set_cons_succ])
        refine wpAnyH_take (i := 19) (v := ?_) (by simp only [List.getElem?_toArray, List.getElem?_cons_succ, List.getElem?_cons_zero]; rfl) (by kernel_rfl) (by kernel_rfl) (by kernel_rfl) (by exact fun _ _ _ h => h) (Or.inl ⟨by rfl, ?_⟩) hS ?_
        rotate_left
        · intro w' hS'
          unfold Held at hS'
          go_simp
          rfl
        (try simp only [Act.put, List.setIfInBounds_toArray, List.set_cons_zero, List.set_cons_succ])
        refine wpAnyH_take (i := 20) (v := ?_) (by simp only [List.getElem?_toArray, List.getElem?_cons_succ, List.getElem?_cons_zero]; rfl) (by kernel_rfl) (by kernel_rfl) (by kernel_rfl) (by exact fun _ _ _ h => h) (Or.inl ⟨by rfl, ?_⟩) hS ?_
        rotate_left
        · intro w' hS'
          unfold Held at hS'
          go_simp
          rfl
        (try simp only [Act.put, List.setIfInBounds_toArray, List.set_cons_zero, List.set_cons_succ])
        refine wpAnyH_take (i := 21) (v := ?_) (by simp only [List.getElem?_toArray, List.getElem?_cons_succ, List.getElem?_cons_zero]; rfl) (by kernel_rfl) (by kernel_rfl) (by kernel_rfl) (by exact fun _ _ _ h => h) (Or.inl ⟨by rfl, ?_⟩) hS ?_
        rotate_left
        · intro w' hS'
          unfold Held at hS'
          go_simp
          rfl
        (try simp only [Act.put, List.setIfInBounds_toArray, List.set_cons_zero, List.set_cons_succ])
        refine wpAnyH_take (i := 22) (v := ?_) (by simp only [List.getElem?_toArray, List.getElem?_cons_succ, List.getElem?_cons_zero]; rfl) (by kernel_rfl) (by kernel_rfl) (by kernel_rfl) (by exact fun _ _ _ h => h) (Or.inl ⟨by rfl, ?_⟩) hS ?_
        rotate_left
        · intro w' hS'
          unfold Held at hS'
          go_simp
          rfl
        (try simp only [Act.put, List.setIfInBounds_toArray, List.set_cons_zero, List.set_cons_succ])
        refine wpAnyH_take (i := 23) (v := ?_) (by simp only [List.getElem?_toArray, List.getElem?_cons_succ, List.getElem?_cons_zero]; rfl) (by kernel_rfl) (by kernel_rfl) (by kernel_rfl) (by exact fun _ _ _ h => h) (Or.inl ⟨by rfl, ?_⟩) hS ?_
        rotate_left
        · intro w' hS'
          unfold Held at hS'
          go_simp
          rfl
        (try simp only [Act.put, List.setIfInBounds_toArray, List.set_cons_zero, List.set_cons_succ])
        refine wpAnyH_take (i := 24) (v := ?_) (by simp only [List.getElem?_toArray, List.getElem?_cons_succ, List.getElem?_cons_zero]; rfl) (by kernel_rfl) (by kernel_rfl) (by kernel_rfl) (by exact fun _ _ _ h => h) (Or.inl ⟨by rfl, ?_⟩) hS ?_
        rotate_left
        · intro w' hS'
          unfold Held at hS'
          go_simp
          rfl
        (try simp only [Act.put, List.setIfInBounds_toArray, List.set_cons_zero, List.set_cons_succ])
        refine wpAnyH_done (by kernel_rfl) ?_ _
        go_wp2_with fail
        go_ret
        refine ⟨by simp, ?_⟩
        (repeat (first | refine Below.alloc ?_ (by first | (simp; done) | (simp; omega) | omega) _ | refine Below.drew ?_ | refine Below.setRow ?_ (by first | (simp; done) | (simp; omega) | omega) _ | refine Below.setCell ?_ (by first | (simp; done) | (simp; omega) | omega) _))
        refine Below.trans ?_ (Below.mono hb5 (by first | (simp; done) | (simp; omega) | omega))
        refine Below.trans ?_ (Below.mono hb4 (by first | (simp; done) | (simp; omega) | omega))
        refine Below.trans ?_ (Below.mono hb3 (by first | (simp; done) | (simp; omega) | omega))
        exact hb2
end
theorem etherCut_walk (W : World) (base : Nat) (args : Array Value) (hlen : args.size = Try.f13.params.size) (hval : ∀ (j : Nat) t v, Try.f13.params[j]? = some t → args[j]? = some v → Value.okWide Try.prog W .any base t v) :
    Calls Try.prog 13 args W fun e W' => e = .returned (.bool true) ∧ Below W.heap.size W W' := by
  obtain ⟨l⟩ := args
  match l, hlen with
  | [v0, v1], _ =>
  have k0 := hval 0 64 v0 rfl rfl
  have k1 := hval 1 72 v1 rfl rfl
  obtain ⟨dst, src, ty, body, vlan, prio, rfl, hv, hm⟩ := open_eth k0
  obtain ⟨cut, rfl, hc⟩ := open_num Try.underlying72 k1
  simp [IntKind.has, IntKind.min, IntKind.max, IntKind.bits, IntKind.signed] at hc
  obtain ⟨n, rfl⟩ : ∃ n : Nat, cut = n := ⟨cut.toNat, by omega⟩
  cases hr : rightB ty vlan prio body.length with
  | false => exact etherCut_bad dst src ty body vlan prio n W hr
  | true => exact etherCut_good dst src ty body vlan prio n W hr (by omega)
end Go.Proofs.Ythnjkpecnaglhaa
