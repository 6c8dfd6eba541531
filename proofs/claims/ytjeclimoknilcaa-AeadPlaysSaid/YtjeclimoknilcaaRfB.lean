/- Contracts of the reference of chapter 3: a block. -/
import Derived.Test.YtjeclimoknilcaaRfP
set_option linter.unusedSimpArgs false
set_option linter.unusedVariables false
namespace Go.Proofs.Ytjeclimoknilcaa
open Go.RowKit
attribute [local irreducible] wordI upTo
set_option maxRecDepth 20000 in
set_option maxHeartbeats 2000000 in
theorem blockR_any (k : List UInt8) (count : Int) (nonce : List UInt8) (w : World) (hk : k.length = 32) (hn : nonce.length = 12) :
    Calls Try.prog 24 #[.agg (u8s k).toArray, .int .u32 count, .string ⟨nonce.toArray⟩] w fun e w' => e = .returned (.string ⟨(streamL k count nonce).toArray⟩) ∧ Below w.heap.size w w' := by
  obtain ⟨t, ht⟩ : ∃ t, beginL ++ k = t := ⟨_, rfl⟩
  have htl : t.length = 48 := by rw [← ht]; simp [beginL, hk]
  have HT := Lib.hid ht
  go_enter Try.func24, Try.ntmps24
  go_wp2_with fail
  rw [show (101 :: 120 :: 112 :: 97 :: 110 :: 100 :: 32 :: 51 :: 50 :: 45 :: 98 :: 121 :: 116 :: 101 :: 32 :: 107 :: k : List UInt8) = t from HT.out]
  clear ht
  go_loopw [9] (fun i wr => ∃ m : Nat, m ≤ 12 ∧ i = .int .i64 m ∧ row wr (w.heap.size + 1) = (u32s (upTo (firstF t) m (List.replicate 16 0))).toArray ∧ w.heap.size + 1 < wr.heap.size ∧ Below w.heap.size w wr) (fun i _ => 12 - (intOf i).toNat)
  case atStart =>
    refine ⟨0, by omega, rfl, ?_, by simp, (by (repeat (first | exact Below.refl _ _ | refine Below.alloc ?_ (by first | (simp; done) | (simp; omega) | omega) _ | refine Below.drew ?_ | refine Below.setRow ?_ (by first | (simp; done) | (simp; omega) | omega) _ | refine Below.setCell ?_ (by first | (simp; done) | (simp; omega) | omega) _)))⟩
    rw [upTo, u32s_zeros]
    simp [go_sem]
  case round =>
    obtain ⟨m, hm, rfl, hV, hz, hbel⟩ := hrel
    obtain ⟨L, hL⟩ : ∃ L, upTo (firstF t) m (List.replicate 16 0) = L := ⟨_, rfl⟩
    have hLl : L.length = 16 := by rw [← hL, upTo_len (firstF_length _)]; simp
    rw [hL] at hV
    have HL := Lib.hid hL
    clear hL
    by_cases hlt : m < 12
    · have h1 : (m : Int) < 12 := by omega
      obtain ⟨q, hq⟩ : ∃ q, 4 * m = q := ⟨_, rfl⟩
      obtain ⟨q1, hq1⟩ : ∃ x, q + 1 = x := ⟨_, rfl⟩
      obtain ⟨q2, hq2⟩ : ∃ x, q + 2 = x := ⟨_, rfl⟩
      obtain ⟨q3, hq3⟩ : ∃ x, q + 3 = x := ⟨_, rfl⟩
      have f0 : IntKind.i64.wrap (4 * (m : Int)) = (q : Int) := by rw [wraps_i64 _ (by omega) (by omega)]; omega
      have f1 : IntKind.i64.wrap ((q : Int) + 1) = (q1 : Int) := by rw [wraps_i64 _ (by omega) (by omega)]; omega
      have f2 : IntKind.i64.wrap ((q : Int) + 2) = (q2 : Int) := by rw [wraps_i64 _ (by omega) (by omega)]; omega
      have f3 : IntKind.i64.wrap ((q : Int) + 3) = (q3 : Int) := by rw [wraps_i64 _ (by omega) (by omega)]; omega
      have i0 : (q : Int) < 48 := by omega
      have i1 : (q1 : Int) < 48 := by omega
      have i2 : (q2 : Int) < 48 := by omega
      have i3 : (q3 : Int) < 48 := by omega
      have j0 : q < t.length := by omega
      have j1 : q1 < t.length := by omega
      have j2 : q2 < t.length := by omega
      have j3 : q3 < t.length := by omega
      have HQ := Lib.hid hq
      have HQ1 := Lib.hid hq1
      have HQ2 := Lib.hid hq2
      have HQ3 := Lib.hid hq3
      clear hq hq1 hq2 hq3
      have h3 : m < L.length := by omega
      have h4 : m < 16 := by omega
      have h5 : (m : Int) < 16 := by omega
      go_wp2_with fail
      refine wp_region_beginR [] rfl trivial (fun hS => ?_)
      refine wpAnyR_take (i := 0) (v := ?_) (by simp only [List.getElem?_toArray, List.getElem?_cons_succ, List.getElem?_cons_zero]; rfl) (by kernel_rfl) (by kernel_rfl) (by kernel_rfl) (by first | exact fun _ _ _ h => h | exact fun _ _ _ h => by cases h.1) (Rws.grow _) (Or.inl ⟨by rfl, ?_⟩) hS ?_
      rotate_left
      · intro w' hS'
        simp only [Rws] at hS'
        go_simp
        refine ⟨?_, Below.refl _ _⟩
        rfl
      (try simp only [Act.put, List.setIfInBounds_toArray, List.set_cons_zero, List.set_cons_succ])
      refine wpAnyR_take (i := 1) (v := ?_) (by simp only [List.getElem?_toArray, List.getElem?_cons_succ, List.getElem?_cons_zero]; rfl) (by kernel_rfl) (by kernel_rfl) (by kernel_rfl) (by first | exact fun _ _ _ h => h | exact fun _ _ _ h => by cases h.1) (Rws.grow _) (Or.inl ⟨by rfl, ?_⟩) hS ?_
      rotate_left
      · intro w' hS'
        simp only [Rws] at hS'
        go_simp
        refine ⟨?_, Below.refl _ _⟩
        rfl
      (try simp only [Act.put, List.setIfInBounds_toArray, List.set_cons_zero, List.set_cons_succ])
      refine wpAnyR_take (i := 2) (v := ?_) (by simp only [List.getElem?_toArray, List.getElem?_cons_succ, List.getElem?_cons_zero]; rfl) (by kernel_rfl) (by kernel_rfl) (by kernel_rfl) (by first | exact fun _ _ _ h => h | exact fun _ _ _ h => by cases h.1) (Rws.grow _) (Or.inl ⟨by rfl, ?_⟩) hS ?_
      rotate_left
      · intro w' hS'
        simp only [Rws] at hS'
        go_simp
        refine ⟨?_, Below.refl _ _⟩
        rfl
      (try simp only [Act.put, List.setIfInBounds_toArray, List.set_cons_zero, List.set_cons_succ])
      refine wpAnyR_take (i := 3) (v := ?_) (by simp only [List.getElem?_toArray, List.getElem?_cons_succ, List.getElem?_cons_zero]; rfl) (by kernel_rfl) (by kernel_rfl) (by kernel_rfl) (by first | exact fun _ _ _ h => h | exact fun _ _ _ h => by cases h.1) (Rws.grow _) (Or.inl ⟨by rfl, ?_⟩) hS ?_
      rotate_left
      · intro w' hS'
        simp only [Rws] at hS'
        go_simp
        refine ⟨?_, Below.refl _ _⟩
        rfl
      (try simp only [Act.put, List.setIfInBounds_toArray, List.set_cons_zero, List.set_cons_succ])
      refine wpAnyR_take (i := 4) (v := ?_) (by simp only [List.getElem?_toArray, List.getElem?_cons_succ, List.getElem?_cons_zero]; rfl) (by kernel_rfl) (by kernel_rfl) (by kernel_rfl) (by first | exact fun _ _ _ h => h | exact fun _ _ _ h => by cases h.1) (Rws.grow _) (Or.inl ⟨by rfl, ?_⟩) hS ?_
      rotate_left
      · intro w' hS'
        simp only [Rws] at hS'
        go_simp
        refine ⟨?_, Below.refl _ _⟩
        rfl
      (try simp only [Act.put, List.setIfInBounds_toArray, List.set_cons_zero, List.set_cons_succ])
      refine wpAnyR_take (i := 5) (v := ?_) (by simp only [List.getElem?_toArray, List.getElem?_cons_succ, List.getElem?_cons_zero]; rfl) (by kernel_rfl) (by kernel_rfl) (by kernel_rfl) (by first | exact fun _ _ _ h => h | exact fun _ _ _ h => by cases h.1) (Rws.grow _) (Or.inl ⟨by rfl, ?_⟩) hS ?_
      rotate_left
      · intro w' hS'
        simp only [Rws] at hS'
        go_simp
        refine ⟨?_, Below.refl _ _⟩
        rfl
      (try simp only [Act.put, List.setIfInBounds_toArray, List.set_cons_zero, List.set_cons_succ])
      refine wpAnyR_take (i := 6) (v := ?_) (by simp only [List.getElem?_toArray, List.getElem?_cons_succ, List.getElem?_cons_zero]; rfl) (by kernel_rfl) (by kernel_rfl) (by kernel_rfl) (by first | exact fun _ _ _ h => h | exact fun _ _ _ h => by cases h.1) (Rws.grow _) (Or.inl ⟨by rfl, ?_⟩) hS ?_
      rotate_left
      · intro w' hS'
        simp only [Rws] at hS'
        go_simp
        refine ⟨?_, Below.refl _ _⟩
        rfl
      (try simp only [Act.put, List.setIfInBounds_toArray, List.set_cons_zero, List.set_cons_succ])
      refine wpAnyR_take (i := 7) (v := ?_) (by simp only [List.getElem?_toArray, List.getElem?_cons_succ, List.getElem?_cons_zero]; rfl) (by kernel_rfl) (by kernel_rfl) (by kernel_rfl) (by first | exact fun _ _ _ h => h | exact fun _ _ _ h => by cases h.1) (Rws.grow _) (Or.inl ⟨by rfl, ?_⟩) hS ?_
      rotate_left
      · intro w' hS'
        simp only [Rws] at hS'
        go_simp
        refine ⟨?_, Below.refl _ _⟩
        rfl
      (try simp only [Act.put, List.setIfInBounds_toArray, List.set_cons_zero, List.set_cons_succ])
      refine wpAnyR_take (i := 8) (v := ?_) (by simp only [List.getElem?_toArray, List.getElem?_cons_succ, List.getElem?_cons_zero]; rfl) (by kernel_rfl) (by kernel_rfl) (by kernel_rfl) (by first | exact fun _ _ _ h => h | exact fun _ _ _ h => by cases h.1) (Rws.grow _) (Or.inl ⟨by rfl, ?_⟩) hS ?_
      rotate_left
      · intro w' hS'
        simp only [Rws] at hS'
        go_simp
        refine ⟨?_, Below.refl _ _⟩
        rfl
      (try simp only [Act.put, List.setIfInBounds_toArray, List.set_cons_zero, List.set_cons_succ])
      refine wpAnyR_take (i := 9) (v := ?_) (by simp only [List.getElem?_toArray, List.getElem?_cons_succ, List.getElem?_cons_zero]; rfl) (by kernel_rfl) (by kernel_rfl) (by kernel_rfl) (by first | exact fun _ _ _ h => h | exact fun _ _ _ h => by cases h.1) (Rws.grow _) (Or.inl ⟨by rfl, ?_⟩) hS ?_
      rotate_left
      · intro w' hS'
        simp only [Rws] at hS'
        go_simp
        refine ⟨?_, Below.refl _ _⟩
        rfl
      (try simp only [Act.put, List.setIfInBounds_toArray, List.set_cons_zero, List.set_cons_succ])
      refine wpAnyR_take (i := 10) (v := ?_) (by simp only [List.getElem?_toArray, List.getElem?_cons_succ, List.getElem?_cons_zero]; rfl) (by kernel_rfl) (by kernel_rfl) (by kernel_rfl) (by first | exact fun _ _ _ h => h | exact fun _ _ _ h => by cases h.1) (Rws.grow _) (Or.inl ⟨by rfl, ?_⟩) hS ?_
      rotate_left
      · intro w' hS'
        simp only [Rws] at hS'
        go_simp
        refine ⟨?_, Below.refl _ _⟩
        rfl
      (try simp only [Act.put, List.setIfInBounds_toArray, List.set_cons_zero, List.set_cons_succ])
      refine wpAnyR_take (i := 11) (v := ?_) (by simp only [List.getElem?_toArray, List.getElem?_cons_succ, List.getElem?_cons_zero]; rfl) (by kernel_rfl) (by kernel_rfl) (by kernel_rfl) (by first | exact fun _ _ _ h => h | exact fun _ _ _ h => by cases h.1) (Rws.grow _) (Or.inl ⟨by rfl, ?_⟩) hS ?_
      rotate_left
      · intro w' hS'
        simp only [Rws] at hS'
        go_simp
        refine ⟨?_, Below.refl _ _⟩
        rfl
      (try simp only [Act.put, List.setIfInBounds_toArray, List.set_cons_zero, List.set_cons_succ])
      refine wpAnyR_take (i := 12) (v := ?_) (by simp only [List.getElem?_toArray, List.getElem?_cons_succ, List.getElem?_cons_zero]; rfl) (by kernel_rfl) (by kernel_rfl) (by kernel_rfl) (by first | exact fun _ _ _ h => h | exact fun _ _ _ h => by cases h.1) (Rws.grow _) (Or.inl ⟨by rfl, ?_⟩) hS ?_
      rotate_left
      · intro w' hS'
        simp only [Rws] at hS'
        go_simp
        refine ⟨?_, Below.refl _ _⟩
        rfl
      (try simp only [Act.put, List.setIfInBounds_toArray, List.set_cons_zero, List.set_cons_succ])
      refine wpAnyR_take (i := 13) (v := ?_) (by simp only [List.getElem?_toArray, List.getElem?_cons_succ, List.getElem?_cons_zero]; rfl) (by kernel_rfl) (by kernel_rfl) (by kernel_rfl) (by first | exact fun _ _ _ h => h | exact fun _ _ _ h => by cases h.1) (Rws.grow _) (Or.inl ⟨by rfl, ?_⟩) hS ?_
      rotate_left
      · intro w' hS'
        simp only [Rws] at hS'
        go_simp
        refine ⟨?_, Below.refl _ _⟩
        rfl
      (try simp only [Act.put, List.setIfInBounds_toArray, List.set_cons_zero, List.set_cons_succ])
      refine wpAnyR_take (i := 14) (v := ?_) (by simp only [List.getElem?_toArray, List.getElem?_cons_succ, List.getElem?_cons_zero]; rfl) (by kernel_rfl) (by kernel_rfl) (by kernel_rfl) (by first | exact fun _ _ _ h => h | exact fun _ _ _ h => by cases h.1) (Rws.grow _) (Or.inl ⟨by rfl, ?_⟩) hS ?_
      rotate_left
      · intro w' hS'
        simp only [Rws] at hS'
        go_simp
        refine ⟨?_, Below.refl _ _⟩
        rfl
      (try simp only [Act.put, List.setIfInBounds_toArray, List.set_cons_zero, List.set_cons_succ])
      refine wpAnyR_take (i := 15) (v := ?_) (by simp only [List.getElem?_toArray, List.getElem?_cons_succ, List.getElem?_cons_zero]; rfl) (by kernel_rfl) (by kernel_rfl) (by kernel_rfl) (by first | exact fun _ _ _ h => h | exact fun _ _ _ h => by cases h.1) (Rws.grow _) (Or.inl ⟨by rfl, ?_⟩) hS ?_
      rotate_left
      · intro w' hS'
        simp only [Rws] at hS'
        go_simp
        refine ⟨?_, Below.refl _ _⟩
        rfl
      (try simp only [Act.put, List.setIfInBounds_toArray, List.set_cons_zero, List.set_cons_succ])
      refine wpAnyR_take (i := 16) (v := ?_) (by simp only [List.getElem?_toArray, List.getElem?_cons_succ, List.getElem?_cons_zero]; rfl) (by kernel_rfl) (by kernel_rfl) (by kernel_rfl) (by first | exact fun _ _ _ h => h | exact fun _ _ _ h => by cases h.1) (Rws.grow _) (Or.inl ⟨by rfl, ?_⟩) hS ?_
      rotate_left
      · intro w' hS'
        simp only [Rws] at hS'
        go_simp
        refine ⟨?_, Below.refl _ _⟩
        rfl
      (try simp only [Act.put, List.setIfInBounds_toArray, List.set_cons_zero, List.set_cons_succ])
      refine wpAnyR_take (i := 17) (v := ?_) (by simp only [List.getElem?_toArray, List.getElem?_cons_succ, List.getElem?_cons_zero]; rfl) (by kernel_rfl) (by kernel_rfl) (by kernel_rfl) (by first | exact fun _ _ _ h => h | exact fun _ _ _ h => by cases h.1) (Rws.grow _) (Or.inl ⟨by rfl, ?_⟩) hS ?_
      rotate_left
      · intro w' hS'
        simp only [Rws] at hS'
        go_simp
        refine ⟨?_, Below.refl _ _⟩
        rfl
      (try simp only [Act.put, List.setIfInBounds_toArray, List.set_cons_zero, List.set_cons_succ])
      refine wpAnyR_take (i := 18) (v := ?_) (by simp only [List.getElem?_toArray, List.getElem?_cons_succ, List.getElem?_cons_zero]; rfl) (by kernel_rfl) (by kernel_rfl) (by kernel_rfl) (by first | exact fun _ _ _ h => h | exact fun _ _ _ h => by cases h.1) (Rws.grow _) (Or.inl ⟨by rfl, ?_⟩) hS ?_
      rotate_left
      · intro w' hS'
        simp only [Rws] at hS'
        go_simp
        refine ⟨?_, Below.refl _ _⟩
        rfl
      (try simp only [Act.put, List.setIfInBounds_toArray, List.set_cons_zero, List.set_cons_succ])
      refine wpAnyR_take (i := 19) (v := ?_) (by simp only [List.getElem?_toArray, List.getElem?_cons_succ, List.getElem?_cons_zero]; rfl) (by kernel_rfl) (by kernel_rfl) (by kernel_rfl) (by first | exact fun _ _ _ h => h | exact fun _ _ _ h => by cases h.1) (Rws.grow _) (Or.inl ⟨by rfl, ?_⟩) hS ?_
      rotate_left
      · intro w' hS'
        simp only [Rws] at hS'
        go_simp
        refine ⟨?_, Below.refl _ _⟩
        rfl
      (try simp only [Act.put, List.setIfInBounds_toArray, List.set_cons_zero, List.set_cons_succ])
      refine wpAnyR_take (i := 20) (v := ?_) (by simp only [List.getElem?_toArray, List.getElem?_cons_succ, List.getElem?_cons_zero]; rfl) (by kernel_rfl) (by kernel_rfl) (by kernel_rfl) (by first | exact fun _ _ _ h => h | exact fun _ _ _ h => by cases h.1) (Rws.grow _) (Or.inl ⟨by rfl, ?_⟩) hS ?_
      rotate_left
      · intro w' hS'
        simp only [Rws] at hS'
        go_simp
        refine ⟨?_, Below.refl _ _⟩
        rfl
      (try simp only [Act.put, List.setIfInBounds_toArray, List.set_cons_zero, List.set_cons_succ])
      refine wpAnyR_take (i := 21) (v := ?_) (by simp only [List.getElem?_toArray, List.getElem?_cons_succ, List.getElem?_cons_zero]; rfl) (by kernel_rfl) (by kernel_rfl) (by kernel_rfl) (by first | exact fun _ _ _ h => h | exact fun _ _ _ h => by cases h.1) (Rws.grow _) (Or.inl ⟨by rfl, ?_⟩) hS ?_
      rotate_left
      · intro w' hS'
        simp only [Rws] at hS'
        go_simp
        refine ⟨?_, Below.refl _ _⟩
        rfl
      (try simp only [Act.put, List.setIfInBounds_toArray, List.set_cons_zero, List.set_cons_succ])
      refine wpAnyR_take (i := 22) (v := ?_) (by simp only [List.getElem?_toArray, List.getElem?_cons_succ, List.getElem?_cons_zero]; rfl) (by kernel_rfl) (by kernel_rfl) (by kernel_rfl) (by first | exact fun _ _ _ h => h | exact fun _ _ _ h => by cases h.1) (Rws.grow _) (Or.inl ⟨by rfl, ?_⟩) hS ?_
      rotate_left
      · intro w' hS'
        simp only [Rws] at hS'
        go_simp
        refine ⟨?_, Below.refl _ _⟩
        rfl
      (try simp only [Act.put, List.setIfInBounds_toArray, List.set_cons_zero, List.set_cons_succ])
      refine wpAnyR_take (i := 23) (v := ?_) (by simp only [List.getElem?_toArray, List.getElem?_cons_succ, List.getElem?_cons_zero]; rfl) (by kernel_rfl) (by kernel_rfl) (by kernel_rfl) (by first | exact fun _ _ _ h => h | exact fun _ _ _ h => by cases h.1) (Rws.grow _) (Or.inl ⟨by rfl, ?_⟩) hS ?_
      rotate_left
      · intro w' hS'
        simp only [Rws] at hS'
        go_simp
        refine ⟨?_, Below.refl _ _⟩
        rfl
      (try simp only [Act.put, List.setIfInBounds_toArray, List.set_cons_zero, List.set_cons_succ])
      refine wpAnyR_take (i := 24) (v := ?_) (by simp only [List.getElem?_toArray, List.getElem?_cons_succ, List.getElem?_cons_zero]; rfl) (by kernel_rfl) (by kernel_rfl) (by kernel_rfl) (by first | exact fun _ _ _ h => h | exact fun _ _ _ h => by cases h.1) (Rws.grow _) (Or.inl ⟨by rfl, ?_⟩) hS ?_
      rotate_left
      · intro w' hS'
        simp only [Rws] at hS'
        go_simp
        refine ⟨?_, Below.refl _ _⟩
        rfl
      (try simp only [Act.put, List.setIfInBounds_toArray, List.set_cons_zero, List.set_cons_succ])
      refine wpAnyR_take (i := 25) (v := ?_) (by simp only [List.getElem?_toArray, List.getElem?_cons_succ, List.getElem?_cons_zero]; rfl) (by kernel_rfl) (by kernel_rfl) (by kernel_rfl) (by first | exact fun _ _ _ h => h | exact fun _ _ _ h => by cases h.1) (Rws.grow _) (Or.inl ⟨by rfl, ?_⟩) hS ?_
      rotate_left
      · intro w' hS'
        simp only [Rws] at hS'
        go_simp
        refine ⟨?_, Below.refl _ _⟩
        rfl
      (try simp only [Act.put, List.setIfInBounds_toArray, List.set_cons_zero, List.set_cons_succ])
      refine wpAnyR_take (i := 26) (v := ?_) (by simp only [List.getElem?_toArray, List.getElem?_cons_succ, List.getElem?_cons_zero]; rfl) (by kernel_rfl) (by kernel_rfl) (by kernel_rfl) (by first | exact fun _ _ _ h => h | exact fun _ _ _ h => by cases h.1) (Rws.grow _) (Or.inl ⟨by rfl, ?_⟩) hS ?_
      rotate_left
      · intro w' hS'
        simp only [Rws] at hS'
        go_simp
        refine ⟨?_, Below.refl _ _⟩
        rfl
      (try simp only [Act.put, List.setIfInBounds_toArray, List.set_cons_zero, List.set_cons_succ])
      refine wpAnyR_take (i := 27) (v := ?_) (by simp only [List.getElem?_toArray, List.getElem?_cons_succ, List.getElem?_cons_zero]; rfl) (by kernel_rfl) (by kernel_rfl) (by kernel_rfl) (by first | exact fun _ _ _ h => h | exact fun _ _ _ h => by cases h.1) (Rws.grow _) (Or.inl ⟨by rfl, ?_⟩) hS ?_
      rotate_left
      · intro w' hS'
        simp only [Rws] at hS'
        go_simp
        refine ⟨?_, Below.refl _ _⟩
        rfl
      (try simp only [Act.put, List.setIfInBounds_toArray, List.set_cons_zero, List.set_cons_succ])
      refine wpAnyR_take (i := 28) (v := ?_) (by simp only [List.getElem?_toArray, List.getElem?_cons_succ, List.getElem?_cons_zero]; rfl) (by kernel_rfl) (by kernel_rfl) (by kernel_rfl) (by first | exact fun _ _ _ h => h | exact fun _ _ _ h => by cases h.1) (Rws.grow _) (Or.inl ⟨by rfl, ?_⟩) hS ?_
      rotate_left
      · intro w' hS'
        simp only [Rws] at hS'
        go_simp
        refine ⟨?_, Below.refl _ _⟩
        rfl
      (try simp only [Act.put, List.setIfInBounds_toArray, List.set_cons_zero, List.set_cons_succ])
      refine wpAnyR_take (i := 29) (v := ?_) (by simp only [List.getElem?_toArray, List.getElem?_cons_succ, List.getElem?_cons_zero]; rfl) (by kernel_rfl) (by kernel_rfl) (by kernel_rfl) (by first | exact fun _ _ _ h => h | exact fun _ _ _ h => by cases h.1) (Rws.grow _) (Or.inl ⟨by rfl, ?_⟩) hS ?_
      rotate_left
      · intro w' hS'
        simp only [Rws] at hS'
        go_simp
        refine ⟨?_, Below.refl _ _⟩
        rfl
      (try simp only [Act.put, List.setIfInBounds_toArray, List.set_cons_zero, List.set_cons_succ])
      refine wpAnyR_take (i := 30) (v := ?_) (by simp only [List.getElem?_toArray, List.getElem?_cons_succ, List.getElem?_cons_zero]; rfl) (by kernel_rfl) (by kernel_rfl) (by kernel_rfl) (by first | exact fun _ _ _ h => h | exact fun _ _ _ h => by cases h.1) (Rws.grow _) (Or.inl ⟨by rfl, ?_⟩) hS ?_
      rotate_left
      · intro w' hS'
        simp only [Rws] at hS'
        go_simp
        refine ⟨?_, Below.refl _ _⟩
        rfl
      (try simp only [Act.put, List.setIfInBounds_toArray, List.set_cons_zero, List.set_cons_succ])
      obtain ⟨x, hx⟩ : ∃ x, refW t[q] t[q1] t[q2] t[q3] = x := ⟨_, rfl⟩
      have hx2 := hx
      unfold refW at hx2
      rw [hx2]
      clear hx2
      have hVd : row wr.drew (w.heap.size + 1) = (u32s L).toArray := hV
      refine wpAnyR_store (i := 31) (b := w.heap.size + 1) (c := (u32s (L.set m x)).toArray) (by simp only [List.getElem?_toArray, List.getElem?_cons_succ, List.getElem?_cons_zero]; rfl) rfl rfl (by kernel_rfl) (by simp; (try omega)) hS (by rw [hVd]; simp; (try omega)) (fun w1 hr => by rw [hVd] at hr; go_simp; (try rfl)) (fun u hu ru hS => ?_)
      refine wpAnyR_done (by kernel_rfl) (fun w2 h2 => ?_) _
      have zu : wr.heap.size ≤ u.heap.size := hu.size
      have z2 := h2.size
      simp at z2
      have r2 : row w2 (w.heap.size + 1) = (u32s (L.set m x)).toArray := by
        rw [row_below h2 (by simp; omega)]
        exact row_setRow_same (by rw [ru, hVd]; simp; omega) (by rw [ru, hVd]; simp)
      have b2 : Below w.heap.size w w2 := Below.trans (Below.setRow (Below.trans hbel ((below_step (Below.drew (Below.refl _ _)) hu).mono (by omega))) (by omega) _) (h2.mono (by simp; omega))
      clear hu h2 ru hVd hS
      go_wp2_with fail
      go_roundw
      case rel =>
        refine ⟨m + 1, by omega, rfl, ?_, by omega, b2⟩
        rw [upTo, HL.out, firstF, r2, ← refW_word t m (by omega)]
        have := HQ.out
        subst this
        have := HQ1.out
        subst this
        have := HQ2.out
        subst this
        have := HQ3.out
        subst this
        rw [← hx]
      case measure => simp [intOf]; omega
    · obtain rfl : m = 12 := by omega
      rw [show ((12 : Nat) : Int) = 12 from rfl]
      have h12 : 12 < L.length := by omega
      have V1 := row_setRow_same (w := wr) (g := w.heap.size + 1) (c := (u32s (L.set 12 count)).toArray) (by rw [hV]; simp; omega) (by rw [hV]; simp)
      go_wp2_with fail
      obtain ⟨f, hf⟩ : ∃ f, L.set 12 count = f := ⟨_, rfl⟩
      have hfl : f.length = 16 := by rw [← hf]; simpa using hLl
      rw [hf] at V1 ⊢
      have e0 : f = (upTo (firstF (beginL ++ k)) 12 (List.replicate 16 0)).set 12 count := by rw [← hf, HT.out, HL.out]
      have E0 := Lib.hid e0
      obtain ⟨w1, hw1⟩ : ∃ v, wr.setRow (w.heap.size + 1) (u32s f).toArray = v := ⟨_, rfl⟩
      have b1 : Below w.heap.size w w1 := by rw [← hw1]; exact Below.setRow hbel (by omega) _
      have z1 : w.heap.size + 1 < w1.heap.size := by rw [← hw1]; simpa using hz
      rw [hw1] at V1 ⊢
      clear hw1 e0 hf hV hbel hz hm
      go_loopw [10] (fun i wq => ∃ m : Nat, m ≤ 3 ∧ i = .int .i64 m ∧ row wq (w.heap.size + 1) = (u32s (upTo (nonF nonce) m f)).toArray ∧ w.heap.size + 1 < wq.heap.size ∧ Below w.heap.size w wq) (fun i _ => 3 - (intOf i).toNat)
      case atStart =>
        refine ⟨0, by omega, rfl, ?_, z1, b1⟩
        rw [upTo]
        exact V1
      case round =>
        clear V1 z1 b1 h12 HL hLl hlt L
        obtain ⟨m, hm, rfl, hV, hz, hbel⟩ := hrel
        obtain ⟨L, hL⟩ : ∃ L, upTo (nonF nonce) m f = L := ⟨_, rfl⟩
        have hLl : L.length = 16 := by rw [← hL, upTo_len (nonF_length _)]; exact hfl
        rw [hL] at hV
        have HL := Lib.hid hL
        clear hL
        by_cases hlt : m < 3
        · have h1 : (m : Int) < 3 := by omega
          have h3 : 13 + m < L.length := by omega
          have h4 : 13 + m < 16 := by omega
          obtain ⟨r, hr⟩ : ∃ r, 13 + m = r := ⟨_, rfl⟩
          have h5 : (r : Int) < 16 := by omega
          have fr : IntKind.i64.wrap (13 + (m : Int)) = (r : Int) := by rw [wraps_i64 _ (by omega) (by omega)]; omega
          rw [hr] at h3 h4
          have HR := Lib.hid hr
          obtain ⟨q, hq⟩ : ∃ q, 4 * m = q := ⟨_, rfl⟩
          obtain ⟨q1, hq1⟩ : ∃ x, q + 1 = x := ⟨_, rfl⟩
          obtain ⟨q2, hq2⟩ : ∃ x, q + 2 = x := ⟨_, rfl⟩
          obtain ⟨q3, hq3⟩ : ∃ x, q + 3 = x := ⟨_, rfl⟩
          have f0 : IntKind.i64.wrap (4 * (m : Int)) = (q : Int) := by rw [wraps_i64 _ (by omega) (by omega)]; omega
          have f1 : IntKind.i64.wrap ((q : Int) + 1) = (q1 : Int) := by rw [wraps_i64 _ (by omega) (by omega)]; omega
          have f2 : IntKind.i64.wrap ((q : Int) + 2) = (q2 : Int) := by rw [wraps_i64 _ (by omega) (by omega)]; omega
          have f3 : IntKind.i64.wrap ((q : Int) + 3) = (q3 : Int) := by rw [wraps_i64 _ (by omega) (by omega)]; omega
          have i0 : (q : Int) < 12 := by omega
          have i1 : (q1 : Int) < 12 := by omega
          have i2 : (q2 : Int) < 12 := by omega
          have i3 : (q3 : Int) < 12 := by omega
          have j0 : q < nonce.length := by omega
          have j1 : q1 < nonce.length := by omega
          have j2 : q2 < nonce.length := by omega
          have j3 : q3 < nonce.length := by omega
          have HQ := Lib.hid hq
          have HQ1 := Lib.hid hq1
          have HQ2 := Lib.hid hq2
          have HQ3 := Lib.hid hq3
          clear hq hq1 hq2 hq3 hr
          go_wp2_with fail
          refine wp_region_beginR [] rfl trivial (fun hS => ?_)
          refine wpAnyR_take (i := 0) (v := ?_) (by simp only [List.getElem?_toArray, List.getElem?_cons_succ, List.getElem?_cons_zero]; rfl) (by kernel_rfl) (by kernel_rfl) (by kernel_rfl) (by first | exact fun _ _ _ h => h | exact fun _ _ _ h => by cases h.1) (Rws.grow _) (Or.inl ⟨by rfl, ?_⟩) hS ?_
          rotate_left
          · intro w' hS'
            simp only [Rws] at hS'
            go_simp
            refine ⟨?_, Below.refl _ _⟩
            rfl
          (try simp only [Act.put, List.setIfInBounds_toArray, List.set_cons_zero, List.set_cons_succ])
          refine wpAnyR_take (i := 1) (v := ?_) (by simp only [List.getElem?_toArray, List.getElem?_cons_succ, List.getElem?_cons_zero]; rfl) (by kernel_rfl) (by kernel_rfl) (by kernel_rfl) (by first | exact fun _ _ _ h => h | exact fun _ _ _ h => by cases h.1) (Rws.grow _) (Or.inl ⟨by rfl, ?_⟩) hS ?_
          rotate_left
          · intro w' hS'
            simp only [Rws] at hS'
            go_simp
            refine ⟨?_, Below.refl _ _⟩
            rfl
          (try simp only [Act.put, List.setIfInBounds_toArray, List.set_cons_zero, List.set_cons_succ])
          refine wpAnyR_take (i := 2) (v := ?_) (by simp only [List.getElem?_toArray, List.getElem?_cons_succ, List.getElem?_cons_zero]; rfl) (by kernel_rfl) (by kernel_rfl) (by kernel_rfl) (by first | exact fun _ _ _ h => h | exact fun _ _ _ h => by cases h.1) (Rws.grow _) (Or.inl ⟨by rfl, ?_⟩) hS ?_
          rotate_left
          · intro w' hS'
            simp only [Rws] at hS'
            go_simp
            refine ⟨?_, Below.refl _ _⟩
            rfl
          (try simp only [Act.put, List.setIfInBounds_toArray, List.set_cons_zero, List.set_cons_succ])
          refine wpAnyR_take (i := 3) (v := ?_) (by simp only [List.getElem?_toArray, List.getElem?_cons_succ, List.getElem?_cons_zero]; rfl) (by kernel_rfl) (by kernel_rfl) (by kernel_rfl) (by first | exact fun _ _ _ h => h | exact fun _ _ _ h => by cases h.1) (Rws.grow _) (Or.inl ⟨by rfl, ?_⟩) hS ?_
          rotate_left
          · intro w' hS'
            simp only [Rws] at hS'
            go_simp
            refine ⟨?_, Below.refl _ _⟩
            rfl
          (try simp only [Act.put, List.setIfInBounds_toArray, List.set_cons_zero, List.set_cons_succ])
          refine wpAnyR_take (i := 4) (v := ?_) (by simp only [List.getElem?_toArray, List.getElem?_cons_succ, List.getElem?_cons_zero]; rfl) (by kernel_rfl) (by kernel_rfl) (by kernel_rfl) (by first | exact fun _ _ _ h => h | exact fun _ _ _ h => by cases h.1) (Rws.grow _) (Or.inl ⟨by rfl, ?_⟩) hS ?_
          rotate_left
          · intro w' hS'
            simp only [Rws] at hS'
            go_simp
            refine ⟨?_, Below.refl _ _⟩
            rfl
          (try simp only [Act.put, List.setIfInBounds_toArray, List.set_cons_zero, List.set_cons_succ])
          refine wpAnyR_take (i := 5) (v := ?_) (by simp only [List.getElem?_toArray, List.getElem?_cons_succ, List.getElem?_cons_zero]; rfl) (by kernel_rfl) (by kernel_rfl) (by kernel_rfl) (by first | exact fun _ _ _ h => h | exact fun _ _ _ h => by cases h.1) (Rws.grow _) (Or.inl ⟨by rfl, ?_⟩) hS ?_
          rotate_left
          · intro w' hS'
            simp only [Rws] at hS'
            go_simp
            refine ⟨?_, Below.refl _ _⟩
            rfl
          (try simp only [Act.put, List.setIfInBounds_toArray, List.set_cons_zero, List.set_cons_succ])
          refine wpAnyR_take (i := 6) (v := ?_) (by simp only [List.getElem?_toArray, List.getElem?_cons_succ, List.getElem?_cons_zero]; rfl) (by kernel_rfl) (by kernel_rfl) (by kernel_rfl) (by first | exact fun _ _ _ h => h | exact fun _ _ _ h => by cases h.1) (Rws.grow _) (Or.inl ⟨by rfl, ?_⟩) hS ?_
          rotate_left
          · intro w' hS'
            simp only [Rws] at hS'
            go_simp
            refine ⟨?_, Below.refl _ _⟩
            rfl
          (try simp only [Act.put, List.setIfInBounds_toArray, List.set_cons_zero, List.set_cons_succ])
          refine wpAnyR_take (i := 7) (v := ?_) (by simp only [List.getElem?_toArray, List.getElem?_cons_succ, List.getElem?_cons_zero]; rfl) (by kernel_rfl) (by kernel_rfl) (by kernel_rfl) (by first | exact fun _ _ _ h => h | exact fun _ _ _ h => by cases h.1) (Rws.grow _) (Or.inl ⟨by rfl, ?_⟩) hS ?_
          rotate_left
          · intro w' hS'
            simp only [Rws] at hS'
            go_simp
            refine ⟨?_, Below.refl _ _⟩
            rfl
          (try simp only [Act.put, List.setIfInBounds_toArray, List.set_cons_zero, List.set_cons_succ])
          refine wpAnyR_take (i := 8) (v := ?_) (by simp only [List.getElem?_toArray, List.getElem?_cons_succ, List.getElem?_cons_zero]; rfl) (by kernel_rfl) (by kernel_rfl) (by kernel_rfl) (by first | exact fun _ _ _ h => h | exact fun _ _ _ h => by cases h.1) (Rws.grow _) (Or.inl ⟨by rfl, ?_⟩) hS ?_
          rotate_left
          · intro w' hS'
            simp only [Rws] at hS'
            go_simp
            refine ⟨?_, Below.refl _ _⟩
            rfl
          (try simp only [Act.put, List.setIfInBounds_toArray, List.set_cons_zero, List.set_cons_succ])
          refine wpAnyR_take (i := 9) (v := ?_) (by simp only [List.getElem?_toArray, List.getElem?_cons_succ, List.getElem?_cons_zero]; rfl) (by kernel_rfl) (by kernel_rfl) (by kernel_rfl) (by first | exact fun _ _ _ h => h | exact fun _ _ _ h => by cases h.1) (Rws.grow _) (Or.inl ⟨by rfl, ?_⟩) hS ?_
          rotate_left
          · intro w' hS'
            simp only [Rws] at hS'
            go_simp
            refine ⟨?_, Below.refl _ _⟩
            rfl
          (try simp only [Act.put, List.setIfInBounds_toArray, List.set_cons_zero, List.set_cons_succ])
          refine wpAnyR_take (i := 10) (v := ?_) (by simp only [List.getElem?_toArray, List.getElem?_cons_succ, List.getElem?_cons_zero]; rfl) (by kernel_rfl) (by kernel_rfl) (by kernel_rfl) (by first | exact fun _ _ _ h => h | exact fun _ _ _ h => by cases h.1) (Rws.grow _) (Or.inl ⟨by rfl, ?_⟩) hS ?_
          rotate_left
          · intro w' hS'
            simp only [Rws] at hS'
            go_simp
            refine ⟨?_, Below.refl _ _⟩
            rfl
          (try simp only [Act.put, List.setIfInBounds_toArray, List.set_cons_zero, List.set_cons_succ])
          refine wpAnyR_take (i := 11) (v := ?_) (by simp only [List.getElem?_toArray, List.getElem?_cons_succ, List.getElem?_cons_zero]; rfl) (by kernel_rfl) (by kernel_rfl) (by kernel_rfl) (by first | exact fun _ _ _ h => h | exact fun _ _ _ h => by cases h.1) (Rws.grow _) (Or.inl ⟨by rfl, ?_⟩) hS ?_
          rotate_left
          · intro w' hS'
            simp only [Rws] at hS'
            go_simp
            refine ⟨?_, Below.refl _ _⟩
            rfl
          (try simp only [Act.put, List.setIfInBounds_toArray, List.set_cons_zero, List.set_cons_succ])
          refine wpAnyR_take (i := 12) (v := ?_) (by simp only [List.getElem?_toArray, List.getElem?_cons_succ, List.getElem?_cons_zero]; rfl) (by kernel_rfl) (by kernel_rfl) (by kernel_rfl) (by first | exact fun _ _ _ h => h | exact fun _ _ _ h => by cases h.1) (Rws.grow _) (Or.inl ⟨by rfl, ?_⟩) hS ?_
          rotate_left
          · intro w' hS'
            simp only [Rws] at hS'
            go_simp
            refine ⟨?_, Below.refl _ _⟩
            rfl
          (try simp only [Act.put, List.setIfInBounds_toArray, List.set_cons_zero, List.set_cons_succ])
          refine wpAnyR_take (i := 13) (v := ?_) (by simp only [List.getElem?_toArray, List.getElem?_cons_succ, List.getElem?_cons_zero]; rfl) (by kernel_rfl) (by kernel_rfl) (by kernel_rfl) (by first | exact fun _ _ _ h => h | exact fun _ _ _ h => by cases h.1) (Rws.grow _) (Or.inl ⟨by rfl, ?_⟩) hS ?_
          rotate_left
          · intro w' hS'
            simp only [Rws] at hS'
            go_simp
            refine ⟨?_, Below.refl _ _⟩
            rfl
          (try simp only [Act.put, List.setIfInBounds_toArray, List.set_cons_zero, List.set_cons_succ])
          refine wpAnyR_take (i := 14) (v := ?_) (by simp only [List.getElem?_toArray, List.getElem?_cons_succ, List.getElem?_cons_zero]; rfl) (by kernel_rfl) (by kernel_rfl) (by kernel_rfl) (by first | exact fun _ _ _ h => h | exact fun _ _ _ h => by cases h.1) (Rws.grow _) (Or.inl ⟨by rfl, ?_⟩) hS ?_
          rotate_left
          · intro w' hS'
            simp only [Rws] at hS'
            go_simp
            refine ⟨?_, Below.refl _ _⟩
            rfl
          (try simp only [Act.put, List.setIfInBounds_toArray, List.set_cons_zero, List.set_cons_succ])
          refine wpAnyR_take (i := 15) (v := ?_) (by simp only [List.getElem?_toArray, List.getElem?_cons_succ, List.getElem?_cons_zero]; rfl) (by kernel_rfl) (by kernel_rfl) (by kernel_rfl) (by first | exact fun _ _ _ h => h | exact fun _ _ _ h => by cases h.1) (Rws.grow _) (Or.inl ⟨by rfl, ?_⟩) hS ?_
          rotate_left
          · intro w' hS'
            simp only [Rws] at hS'
            go_simp
            refine ⟨?_, Below.refl _ _⟩
            rfl
          (try simp only [Act.put, List.setIfInBounds_toArray, List.set_cons_zero, List.set_cons_succ])
          refine wpAnyR_take (i := 16) (v := ?_) (by simp only [List.getElem?_toArray, List.getElem?_cons_succ, List.getElem?_cons_zero]; rfl) (by kernel_rfl) (by kernel_rfl) (by kernel_rfl) (by first | exact fun _ _ _ h => h | exact fun _ _ _ h => by cases h.1) (Rws.grow _) (Or.inl ⟨by rfl, ?_⟩) hS ?_
          rotate_left
          · intro w' hS'
            simp only [Rws] at hS'
            go_simp
            refine ⟨?_, Below.refl _ _⟩
            rfl
          (try simp only [Act.put, List.setIfInBounds_toArray, List.set_cons_zero, List.set_cons_succ])
          refine wpAnyR_take (i := 17) (v := ?_) (by simp only [List.getElem?_toArray, List.getElem?_cons_succ, List.getElem?_cons_zero]; rfl) (by kernel_rfl) (by kernel_rfl) (by kernel_rfl) (by first | exact fun _ _ _ h => h | exact fun _ _ _ h => by cases h.1) (Rws.grow _) (Or.inl ⟨by rfl, ?_⟩) hS ?_
          rotate_left
          · intro w' hS'
            simp only [Rws] at hS'
            go_simp
            refine ⟨?_, Below.refl _ _⟩
            rfl
          (try simp only [Act.put, List.setIfInBounds_toArray, List.set_cons_zero, List.set_cons_succ])
          refine wpAnyR_take (i := 18) (v := ?_) (by simp only [List.getElem?_toArray, List.getElem?_cons_succ, List.getElem?_cons_zero]; rfl) (by kernel_rfl) (by kernel_rfl) (by kernel_rfl) (by first | exact fun _ _ _ h => h | exact fun _ _ _ h => by cases h.1) (Rws.grow _) (Or.inl ⟨by rfl, ?_⟩) hS ?_
          rotate_left
          · intro w' hS'
            simp only [Rws] at hS'
            go_simp
            refine ⟨?_, Below.refl _ _⟩
            rfl
          (try simp only [Act.put, List.setIfInBounds_toArray, List.set_cons_zero, List.set_cons_succ])
          refine wpAnyR_take (i := 19) (v := ?_) (by simp only [List.getElem?_toArray, List.getElem?_cons_succ, List.getElem?_cons_zero]; rfl) (by kernel_rfl) (by kernel_rfl) (by kernel_rfl) (by first | exact fun _ _ _ h => h | exact fun _ _ _ h => by cases h.1) (Rws.grow _) (Or.inl ⟨by rfl, ?_⟩) hS ?_
          rotate_left
          · intro w' hS'
            simp only [Rws] at hS'
            go_simp
            refine ⟨?_, Below.refl _ _⟩
            rfl
          (try simp only [Act.put, List.setIfInBounds_toArray, List.set_cons_zero, List.set_cons_succ])
          refine wpAnyR_take (i := 20) (v := ?_) (by simp only [List.getElem?_toArray, List.getElem?_cons_succ, List.getElem?_cons_zero]; rfl) (by kernel_rfl) (by kernel_rfl) (by kernel_rfl) (by first | exact fun _ _ _ h => h | exact fun _ _ _ h => by cases h.1) (Rws.grow _) (Or.inl ⟨by rfl, ?_⟩) hS ?_
          rotate_left
          · intro w' hS'
            simp only [Rws] at hS'
            go_simp
            refine ⟨?_, Below.refl _ _⟩
            rfl
          (try simp only [Act.put, List.setIfInBounds_toArray, List.set_cons_zero, List.set_cons_succ])
          refine wpAnyR_take (i := 21) (v := ?_) (by simp only [List.getElem?_toArray, List.getElem?_cons_succ, List.getElem?_cons_zero]; rfl) (by kernel_rfl) (by kernel_rfl) (by kernel_rfl) (by first | exact fun _ _ _ h => h | exact fun _ _ _ h => by cases h.1) (Rws.grow _) (Or.inl ⟨by rfl, ?_⟩) hS ?_
          rotate_left
          · intro w' hS'
            simp only [Rws] at hS'
            go_simp
            refine ⟨?_, Below.refl _ _⟩
            rfl
          (try simp only [Act.put, List.setIfInBounds_toArray, List.set_cons_zero, List.set_cons_succ])
          refine wpAnyR_take (i := 22) (v := ?_) (by simp only [List.getElem?_toArray, List.getElem?_cons_succ, List.getElem?_cons_zero]; rfl) (by kernel_rfl) (by kernel_rfl) (by kernel_rfl) (by first | exact fun _ _ _ h => h | exact fun _ _ _ h => by cases h.1) (Rws.grow _) (Or.inl ⟨by rfl, ?_⟩) hS ?_
          rotate_left
          · intro w' hS'
            simp only [Rws] at hS'
            go_simp
            refine ⟨?_, Below.refl _ _⟩
            rfl
          (try simp only [Act.put, List.setIfInBounds_toArray, List.set_cons_zero, List.set_cons_succ])
          refine wpAnyR_take (i := 23) (v := ?_) (by simp only [List.getElem?_toArray, List.getElem?_cons_succ, List.getElem?_cons_zero]; rfl) (by kernel_rfl) (by kernel_rfl) (by kernel_rfl) (by first | exact fun _ _ _ h => h | exact fun _ _ _ h => by cases h.1) (Rws.grow _) (Or.inl ⟨by rfl, ?_⟩) hS ?_
          rotate_left
          · intro w' hS'
            simp only [Rws] at hS'
            go_simp
            refine ⟨?_, Below.refl _ _⟩
            rfl
          (try simp only [Act.put, List.setIfInBounds_toArray, List.set_cons_zero, List.set_cons_succ])
          refine wpAnyR_take (i := 24) (v := ?_) (by simp only [List.getElem?_toArray, List.getElem?_cons_succ, List.getElem?_cons_zero]; rfl) (by kernel_rfl) (by kernel_rfl) (by kernel_rfl) (by first | exact fun _ _ _ h => h | exact fun _ _ _ h => by cases h.1) (Rws.grow _) (Or.inl ⟨by rfl, ?_⟩) hS ?_
          rotate_left
          · intro w' hS'
            simp only [Rws] at hS'
            go_simp
            refine ⟨?_, Below.refl _ _⟩
            rfl
          (try simp only [Act.put, List.setIfInBounds_toArray, List.set_cons_zero, List.set_cons_succ])
          refine wpAnyR_take (i := 25) (v := ?_) (by simp only [List.getElem?_toArray, List.getElem?_cons_succ, List.getElem?_cons_zero]; rfl) (by kernel_rfl) (by kernel_rfl) (by kernel_rfl) (by first | exact fun _ _ _ h => h | exact fun _ _ _ h => by cases h.1) (Rws.grow _) (Or.inl ⟨by rfl, ?_⟩) hS ?_
          rotate_left
          · intro w' hS'
            simp only [Rws] at hS'
            go_simp
            refine ⟨?_, Below.refl _ _⟩
            rfl
          (try simp only [Act.put, List.setIfInBounds_toArray, List.set_cons_zero, List.set_cons_succ])
          refine wpAnyR_take (i := 26) (v := ?_) (by simp only [List.getElem?_toArray, List.getElem?_cons_succ, List.getElem?_cons_zero]; rfl) (by kernel_rfl) (by kernel_rfl) (by kernel_rfl) (by first | exact fun _ _ _ h => h | exact fun _ _ _ h => by cases h.1) (Rws.grow _) (Or.inl ⟨by rfl, ?_⟩) hS ?_
          rotate_left
          · intro w' hS'
            simp only [Rws] at hS'
            go_simp
            refine ⟨?_, Below.refl _ _⟩
            rfl
          (try simp only [Act.put, List.setIfInBounds_toArray, List.set_cons_zero, List.set_cons_succ])
          refine wpAnyR_take (i := 27) (v := ?_) (by simp only [List.getElem?_toArray, List.getElem?_cons_succ, List.getElem?_cons_zero]; rfl) (by kernel_rfl) (by kernel_rfl) (by kernel_rfl) (by first | exact fun _ _ _ h => h | exact fun _ _ _ h => by cases h.1) (Rws.grow _) (Or.inl ⟨by rfl, ?_⟩) hS ?_
          rotate_left
          · intro w' hS'
            simp only [Rws] at hS'
            go_simp
            refine ⟨?_, Below.refl _ _⟩
            rfl
          (try simp only [Act.put, List.setIfInBounds_toArray, List.set_cons_zero, List.set_cons_succ])
          refine wpAnyR_take (i := 28) (v := ?_) (by simp only [List.getElem?_toArray, List.getElem?_cons_succ, List.getElem?_cons_zero]; rfl) (by kernel_rfl) (by kernel_rfl) (by kernel_rfl) (by first | exact fun _ _ _ h => h | exact fun _ _ _ h => by cases h.1) (Rws.grow _) (Or.inl ⟨by rfl, ?_⟩) hS ?_
          rotate_left
          · intro w' hS'
            simp only [Rws] at hS'
            go_simp
            refine ⟨?_, Below.refl _ _⟩
            rfl
          (try simp only [Act.put, List.setIfInBounds_toArray, List.set_cons_zero, List.set_cons_succ])
          refine wpAnyR_take (i := 29) (v := ?_) (by simp only [List.getElem?_toArray, List.getElem?_cons_succ, List.getElem?_cons_zero]; rfl) (by kernel_rfl) (by kernel_rfl) (by kernel_rfl) (by first | exact fun _ _ _ h => h | exact fun _ _ _ h => by cases h.1) (Rws.grow _) (Or.inl ⟨by rfl, ?_⟩) hS ?_
          rotate_left
          · intro w' hS'
            simp only [Rws] at hS'
            go_simp
            refine ⟨?_, Below.refl _ _⟩
            rfl
          (try simp only [Act.put, List.setIfInBounds_toArray, List.set_cons_zero, List.set_cons_succ])
          refine wpAnyR_take (i := 30) (v := ?_) (by simp only [List.getElem?_toArray, List.getElem?_cons_succ, List.getElem?_cons_zero]; rfl) (by kernel_rfl) (by kernel_rfl) (by kernel_rfl) (by first | exact fun _ _ _ h => h | exact fun _ _ _ h => by cases h.1) (Rws.grow _) (Or.inl ⟨by rfl, ?_⟩) hS ?_
          rotate_left
          · intro w' hS'
            simp only [Rws] at hS'
            go_simp
            refine ⟨?_, Below.refl _ _⟩
            rfl
          (try simp only [Act.put, List.setIfInBounds_toArray, List.set_cons_zero, List.set_cons_succ])
          refine wpAnyR_take (i := 31) (v := ?_) (by simp only [List.getElem?_toArray, List.getElem?_cons_succ, List.getElem?_cons_zero]; rfl) (by kernel_rfl) (by kernel_rfl) (by kernel_rfl) (by first | exact fun _ _ _ h => h | exact fun _ _ _ h => by cases h.1) (Rws.grow _) (Or.inl ⟨by rfl, ?_⟩) hS ?_
          rotate_left
          · intro w' hS'
            simp only [Rws] at hS'
            go_simp
            refine ⟨?_, Below.refl _ _⟩
            rfl
          (try simp only [Act.put, List.setIfInBounds_toArray, List.set_cons_zero, List.set_cons_succ])
          obtain ⟨x, hx⟩ : ∃ x, refW nonce[q] nonce[q1] nonce[q2] nonce[q3] = x := ⟨_, rfl⟩
          have hx2 := hx
          unfold refW at hx2
          rw [hx2]
          clear hx2
          have hVd : row wr.drew (w.heap.size + 1) = (u32s L).toArray := hV
          refine wpAnyR_store (i := 32) (b := w.heap.size + 1) (c := (u32s (L.set r x)).toArray) (by simp only [List.getElem?_toArray, List.getElem?_cons_succ, List.getElem?_cons_zero]; rfl) rfl rfl (by kernel_rfl) (by simp; (try omega)) hS (by rw [hVd]; simp; (try omega)) (fun w1 hr => by rw [hVd] at hr; go_simp; (try rfl)) (fun u hu ru hS => ?_)
          refine wpAnyR_done (by kernel_rfl) (fun w2 h2 => ?_) _
          have zu : wr.heap.size ≤ u.heap.size := hu.size
          have z2 := h2.size
          simp at z2
          have r2 : row w2 (w.heap.size + 1) = (u32s (L.set r x)).toArray := by
            rw [row_below h2 (by simp; omega)]
            exact row_setRow_same (by rw [ru, hVd]; simp; omega) (by rw [ru, hVd]; simp)
          have b2 : Below w.heap.size w w2 := Below.trans (Below.setRow (Below.trans hbel ((below_step (Below.drew (Below.refl _ _)) hu).mono (by omega))) (by omega) _) (h2.mono (by simp; omega))
          clear hu h2 ru hVd hS
          go_wp2_with fail
          go_roundw
          case rel =>
            refine ⟨m + 1, by omega, rfl, ?_, by omega, b2⟩
            rw [upTo, HL.out, nonF, r2, ← refW_word nonce m (by omega), HR.out]
            have := HQ.out
            subst this
            have := HQ1.out
            subst this
            have := HQ2.out
            subst this
            have := HQ3.out
            subst this
            rw [← hx]
          case measure => simp [intOf]; omega
        · obtain rfl : m = 3 := by omega
          rw [show ((3 : Nat) : Int) = 3 from rfl]
          go_wp2_with fail
          have eL : L = firstL k count nonce := by rw [← begR_eq k count nonce hk, begR, ← E0.out]; exact HL.out.symm
          obtain ⟨X, hX⟩ : ∃ X, wr.heap.size = X := ⟨_, rfl⟩
          obtain ⟨w3, hw3⟩ : ∃ v, wr.alloc (.cells (u32s L).toArray 69) = v := ⟨_, rfl⟩
          have rX3 : row w3 X = (u32s L).toArray := by rw [← hw3, ← hX]; exact row_alloc_at _ _ _ (by simp)
          have rV3 : row w3 (w.heap.size + 1) = (u32s L).toArray := by rw [← hw3, row_alloc_past _ _ (by omega)]; exact hV
          have z3 : X < w3.heap.size := by rw [← hw3, ← hX]; simp
          have b3 : Below w.heap.size w w3 := by rw [← hw3]; exact Below.alloc hbel (by omega) _
          have zX : w.heap.size + 1 < X := by rw [← hX]; exact hz
          rw [hw3, hX]
          clear hw3 hX hV hz hbel hm hlt E0 hfl
          clear HL
          obtain ⟨g, hf⟩ : ∃ f, L = f := ⟨_, rfl⟩
          rw [hf] at rX3 rV3 eL hLl ⊢
          clear hf L
          have EL := Lib.hid eL
          clear eL
          go_loopw [12] (fun i wq => ∃ m : Nat, m ≤ 10 ∧ i = .int .i64 m ∧ row wq X = (u32s (upTo eightF m g)).toArray ∧ row wq (w.heap.size + 1) = (u32s g).toArray ∧ X < wq.heap.size ∧ Below w.heap.size w wq) (fun i _ => 10 - (intOf i).toNat)
          case atStart =>
            refine ⟨0, by omega, rfl, ?_, rV3, z3, b3⟩
            rw [upTo]
            exact rX3
          case round =>
            clear rX3 rV3 z3 b3
            obtain ⟨n, hn2, rfl, rX0, rV0, zv0, bv0⟩ := hrel
            obtain ⟨m0, hL⟩ : ∃ L, upTo eightF n g = L := ⟨_, rfl⟩
            have nm0 : m0.length = 16 := by rw [← hL, upTo_len eightF_length]; exact hLl
            rw [hL] at rX0
            have HL := Lib.hid hL
            clear hL
            by_cases hlt : n < 10
            · have h1 : (n : Int) < 10 := by omega
              go_wp2_with fail
              refine (quarterR_any m0 0 4 8 12 _ nm0 (by decide) (by decide) (by decide) (by decide)).mono ?_
              rintro e t1 ⟨rfl, c1⟩
              have zt := c1.size
              obtain ⟨m1, em1⟩ : ∃ x, quarL m0 0 4 8 12 = x := ⟨_, rfl⟩
              have nm1 : m1.length = 16 := by rw [← em1, quarL_length]; exact nm0
              rw [em1]
              have EM1 := Lib.hid em1
              clear em1
              have rt : row t1 X = (u32s m0).toArray := (row_below c1 (by omega)).trans rX0
              have rX1 := row_setRow_same (w := t1) (g := X) (c := (u32s m1).toArray) (by rw [rt]; simp [nm0]) (by rw [rt]; simp [nm0, nm1])
              have rV1 : row (t1.setRow X (u32s m1).toArray) (w.heap.size + 1) = (u32s g).toArray := by rw [row_setRow_other _ _ _ (by omega), row_below c1 (by omega)]; exact rV0
              have zv1 : X < (t1.setRow X (u32s m1).toArray).heap.size := by simp; omega
              have bv1 : Below w.heap.size w (t1.setRow X (u32s m1).toArray) := Below.setRow (Below.trans bv0 (c1.mono (by omega))) (by omega) _
              clear c1 zv0 bv0 rX0 rV0
              go_wp2_with fail
              obtain ⟨v1, hv1⟩ : ∃ v, t1.setRow X (u32s m1).toArray = v := ⟨_, rfl⟩
              rw [hv1] at rX1 rV1 zv1 bv1 ⊢
              clear hv1 rt zt
              refine (quarterR_any m1 1 5 9 13 _ nm1 (by decide) (by decide) (by decide) (by decide)).mono ?_
              rintro e t2 ⟨rfl, c2⟩
              have zt := c2.size
              obtain ⟨m2, em2⟩ : ∃ x, quarL m1 1 5 9 13 = x := ⟨_, rfl⟩
              have nm2 : m2.length = 16 := by rw [← em2, quarL_length]; exact nm1
              rw [em2]
              have EM2 := Lib.hid em2
              clear em2
              have rt : row t2 X = (u32s m1).toArray := (row_below c2 (by omega)).trans rX1
              have rX2 := row_setRow_same (w := t2) (g := X) (c := (u32s m2).toArray) (by rw [rt]; simp [nm1]) (by rw [rt]; simp [nm1, nm2])
              have rV2 : row (t2.setRow X (u32s m2).toArray) (w.heap.size + 1) = (u32s g).toArray := by rw [row_setRow_other _ _ _ (by omega), row_below c2 (by omega)]; exact rV1
              have zv2 : X < (t2.setRow X (u32s m2).toArray).heap.size := by simp; omega
              have bv2 : Below w.heap.size w (t2.setRow X (u32s m2).toArray) := Below.setRow (Below.trans bv1 (c2.mono (by omega))) (by omega) _
              clear c2 zv1 bv1 rX1 rV1
              go_wp2_with fail
              obtain ⟨v2, hv2⟩ : ∃ v, t2.setRow X (u32s m2).toArray = v := ⟨_, rfl⟩
              rw [hv2] at rX2 rV2 zv2 bv2 ⊢
              clear hv2 rt zt
              refine (quarterR_any m2 2 6 10 14 _ nm2 (by decide) (by decide) (by decide) (by decide)).mono ?_
              rintro e t3 ⟨rfl, c3⟩
              have zt := c3.size
              obtain ⟨m3, em3⟩ : ∃ x, quarL m2 2 6 10 14 = x := ⟨_, rfl⟩
              have nm3 : m3.length = 16 := by rw [← em3, quarL_length]; exact nm2
              rw [em3]
              have EM3 := Lib.hid em3
              clear em3
              have rt : row t3 X = (u32s m2).toArray := (row_below c3 (by omega)).trans rX2
              have rX3 := row_setRow_same (w := t3) (g := X) (c := (u32s m3).toArray) (by rw [rt]; simp [nm2]) (by rw [rt]; simp [nm2, nm3])
              have rV3 : row (t3.setRow X (u32s m3).toArray) (w.heap.size + 1) = (u32s g).toArray := by rw [row_setRow_other _ _ _ (by omega), row_below c3 (by omega)]; exact rV2
              have zv3 : X < (t3.setRow X (u32s m3).toArray).heap.size := by simp; omega
              have bv3 : Below w.heap.size w (t3.setRow X (u32s m3).toArray) := Below.setRow (Below.trans bv2 (c3.mono (by omega))) (by omega) _
              clear c3 zv2 bv2 rX2 rV2
              go_wp2_with fail
              obtain ⟨v3, hv3⟩ : ∃ v, t3.setRow X (u32s m3).toArray = v := ⟨_, rfl⟩
              rw [hv3] at rX3 rV3 zv3 bv3 ⊢
              clear hv3 rt zt
              refine (quarterR_any m3 3 7 11 15 _ nm3 (by decide) (by decide) (by decide) (by decide)).mono ?_
              rintro e t4 ⟨rfl, c4⟩
              have zt := c4.size
              obtain ⟨m4, em4⟩ : ∃ x, quarL m3 3 7 11 15 = x := ⟨_, rfl⟩
              have nm4 : m4.length = 16 := by rw [← em4, quarL_length]; exact nm3
              rw [em4]
              have EM4 := Lib.hid em4
              clear em4
              have rt : row t4 X = (u32s m3).toArray := (row_below c4 (by omega)).trans rX3
              have rX4 := row_setRow_same (w := t4) (g := X) (c := (u32s m4).toArray) (by rw [rt]; simp [nm3]) (by rw [rt]; simp [nm3, nm4])
              have rV4 : row (t4.setRow X (u32s m4).toArray) (w.heap.size + 1) = (u32s g).toArray := by rw [row_setRow_other _ _ _ (by omega), row_below c4 (by omega)]; exact rV3
              have zv4 : X < (t4.setRow X (u32s m4).toArray).heap.size := by simp; omega
              have bv4 : Below w.heap.size w (t4.setRow X (u32s m4).toArray) := Below.setRow (Below.trans bv3 (c4.mono (by omega))) (by omega) _
              clear c4 zv3 bv3 rX3 rV3
              go_wp2_with fail
              obtain ⟨v4, hv4⟩ : ∃ v, t4.setRow X (u32s m4).toArray = v := ⟨_, rfl⟩
              rw [hv4] at rX4 rV4 zv4 bv4 ⊢
              clear hv4 rt zt
              refine (quarterR_any m4 0 5 10 15 _ nm4 (by decide) (by decide) (by decide) (by decide)).mono ?_
              rintro e t5 ⟨rfl, c5⟩
              have zt := c5.size
              obtain ⟨m5, em5⟩ : ∃ x, quarL m4 0 5 10 15 = x := ⟨_, rfl⟩
              have nm5 : m5.length = 16 := by rw [← em5, quarL_length]; exact nm4
              rw [em5]
              have EM5 := Lib.hid em5
              clear em5
              have rt : row t5 X = (u32s m4).toArray := (row_below c5 (by omega)).trans rX4
              have rX5 := row_setRow_same (w := t5) (g := X) (c := (u32s m5).toArray) (by rw [rt]; simp [nm4]) (by rw [rt]; simp [nm4, nm5])
              have rV5 : row (t5.setRow X (u32s m5).toArray) (w.heap.size + 1) = (u32s g).toArray := by rw [row_setRow_other _ _ _ (by omega), row_below c5 (by omega)]; exact rV4
              have zv5 : X < (t5.setRow X (u32s m5).toArray).heap.size := by simp; omega
              have bv5 : Below w.heap.size w (t5.setRow X (u32s m5).toArray) := Below.setRow (Below.trans bv4 (c5.mono (by omega))) (by omega) _
              clear c5 zv4 bv4 rX4 rV4
              go_wp2_with fail
              obtain ⟨v5, hv5⟩ : ∃ v, t5.setRow X (u32s m5).toArray = v := ⟨_, rfl⟩
              rw [hv5] at rX5 rV5 zv5 bv5 ⊢
              clear hv5 rt zt
              refine (quarterR_any m5 1 6 11 12 _ nm5 (by decide) (by decide) (by decide) (by decide)).mono ?_
              rintro e t6 ⟨rfl, c6⟩
              have zt := c6.size
              obtain ⟨m6, em6⟩ : ∃ x, quarL m5 1 6 11 12 = x := ⟨_, rfl⟩
              have nm6 : m6.length = 16 := by rw [← em6, quarL_length]; exact nm5
              rw [em6]
              have EM6 := Lib.hid em6
              clear em6
              have rt : row t6 X = (u32s m5).toArray := (row_below c6 (by omega)).trans rX5
              have rX6 := row_setRow_same (w := t6) (g := X) (c := (u32s m6).toArray) (by rw [rt]; simp [nm5]) (by rw [rt]; simp [nm5, nm6])
              have rV6 : row (t6.setRow X (u32s m6).toArray) (w.heap.size + 1) = (u32s g).toArray := by rw [row_setRow_other _ _ _ (by omega), row_below c6 (by omega)]; exact rV5
              have zv6 : X < (t6.setRow X (u32s m6).toArray).heap.size := by simp; omega
              have bv6 : Below w.heap.size w (t6.setRow X (u32s m6).toArray) := Below.setRow (Below.trans bv5 (c6.mono (by omega))) (by omega) _
              clear c6 zv5 bv5 rX5 rV5
              go_wp2_with fail
              obtain ⟨v6, hv6⟩ : ∃ v, t6.setRow X (u32s m6).toArray = v := ⟨_, rfl⟩
              rw [hv6] at rX6 rV6 zv6 bv6 ⊢
              clear hv6 rt zt
              refine (quarterR_any m6 2 7 8 13 _ nm6 (by decide) (by decide) (by decide) (by decide)).mono ?_
              rintro e t7 ⟨rfl, c7⟩
              have zt := c7.size
              obtain ⟨m7, em7⟩ : ∃ x, quarL m6 2 7 8 13 = x := ⟨_, rfl⟩
              have nm7 : m7.length = 16 := by rw [← em7, quarL_length]; exact nm6
              rw [em7]
              have EM7 := Lib.hid em7
              clear em7
              have rt : row t7 X = (u32s m6).toArray := (row_below c7 (by omega)).trans rX6
              have rX7 := row_setRow_same (w := t7) (g := X) (c := (u32s m7).toArray) (by rw [rt]; simp [nm6]) (by rw [rt]; simp [nm6, nm7])
              have rV7 : row (t7.setRow X (u32s m7).toArray) (w.heap.size + 1) = (u32s g).toArray := by rw [row_setRow_other _ _ _ (by omega), row_below c7 (by omega)]; exact rV6
              have zv7 : X < (t7.setRow X (u32s m7).toArray).heap.size := by simp; omega
              have bv7 : Below w.heap.size w (t7.setRow X (u32s m7).toArray) := Below.setRow (Below.trans bv6 (c7.mono (by omega))) (by omega) _
              clear c7 zv6 bv6 rX6 rV6
              go_wp2_with fail
              obtain ⟨v7, hv7⟩ : ∃ v, t7.setRow X (u32s m7).toArray = v := ⟨_, rfl⟩
              rw [hv7] at rX7 rV7 zv7 bv7 ⊢
              clear hv7 rt zt
              refine (quarterR_any m7 3 4 9 14 _ nm7 (by decide) (by decide) (by decide) (by decide)).mono ?_
              rintro e t8 ⟨rfl, c8⟩
              have zt := c8.size
              obtain ⟨m8, em8⟩ : ∃ x, quarL m7 3 4 9 14 = x := ⟨_, rfl⟩
              have nm8 : m8.length = 16 := by rw [← em8, quarL_length]; exact nm7
              rw [em8]
              have EM8 := Lib.hid em8
              clear em8
              have rt : row t8 X = (u32s m7).toArray := (row_below c8 (by omega)).trans rX7
              have rX8 := row_setRow_same (w := t8) (g := X) (c := (u32s m8).toArray) (by rw [rt]; simp [nm7]) (by rw [rt]; simp [nm7, nm8])
              have rV8 : row (t8.setRow X (u32s m8).toArray) (w.heap.size + 1) = (u32s g).toArray := by rw [row_setRow_other _ _ _ (by omega), row_below c8 (by omega)]; exact rV7
              have zv8 : X < (t8.setRow X (u32s m8).toArray).heap.size := by simp; omega
              have bv8 : Below w.heap.size w (t8.setRow X (u32s m8).toArray) := Below.setRow (Below.trans bv7 (c8.mono (by omega))) (by omega) _
              clear c8 zv7 bv7 rX7 rV7
              go_wp2_with fail
              obtain ⟨v8, hv8⟩ : ∃ v, t8.setRow X (u32s m8).toArray = v := ⟨_, rfl⟩
              rw [hv8] at rX8 rV8 zv8 bv8 ⊢
              clear hv8 rt zt
              go_roundw
              case rel =>
                refine ⟨n + 1, by omega, rfl, ?_, rV8, zv8, bv8⟩
                rw [upTo, HL.out, eightF, eightL, EM1.out, EM2.out, EM3.out, EM4.out, EM5.out, EM6.out, EM7.out, EM8.out]
                exact rX8
              case measure => simp [intOf]; omega
            · obtain rfl : n = 10 := by omega
              rw [show ((10 : Nat) : Int) = 10 from rfl]
              go_wp2_with fail
              have zb := bv0.size
              obtain ⟨w5, hw5⟩ : ∃ v, wr = v := ⟨_, rfl⟩
              rw [hw5] at rX0 rV0 zv0 bv0 zb ⊢
              clear hw5
              obtain ⟨B, hB⟩ : ∃ B, w5.heap.size = B := ⟨_, rfl⟩
              rw [hB] at zv0 zb
              obtain ⟨S, hS⟩ : ∃ S, streamW g = S := ⟨_, rfl⟩
              have hSg : ∀ i, i < 16 → S.getD i 0 = (m0.getD i 0 + g.getD i 0) % 4294967296 := by
                intro i hi
                rw [← hS, streamW, ← eightF_twenty _ _ hLl, HL.out]
                exact addF_get g 16 m0 i (by omega) hi
              have HS := Lib.hid hS
              have HG := Lib.hid hSg
              clear hS hSg
              go_loopw [13, 14] (fun v i wq => ∃ n : Nat, n ≤ 16 ∧ i = .int .i64 n ∧ wq.ownsRow B 5 1 v (4 * n) (u8s (bytesW S (4 * n))) ∧ Below B w5 wq) (fun _ i _ => 16 - (intOf i).toNat)
              case atStart => exact ⟨0, by omega, rfl, World.ownsRow_nil _ _ _ _, Below.refl _ _⟩
              case round =>
                obtain ⟨n, hn16, rfl, hown, hbel⟩ := hrel
                by_cases hlt : n < 16
                · have h1 : (n : Int) < 16 := by omega
                  have k1 : n < m0.length := by omega
                  have k2 : n < g.length := by omega
                  have q1 : X < wr.heap.size := by have := hbel.size; omega
                  have q2 : w.heap.size + 1 < wr.heap.size := by omega
                  have rX1 : row wr X = (u32s m0).toArray := (row_below hbel (by omega)).trans rX0
                  have rV1 : row wr (w.heap.size + 1) = (u32s g).toArray := (row_below hbel (by omega)).trans rV0
                  have es : IntKind.u32.wrap (m0[n] + g[n]) = S.getD n 0 := by rw [HG.out n hlt, IntKind.wrap_u32, getD_elemI _ _ k1, getD_elemI _ _ k2]
                  obtain ⟨s, hs⟩ : ∃ s, S.getD n 0 = s := ⟨_, rfl⟩
                  rw [hs] at es
                  have sb : 0 ≤ s ∧ s < 4294967296 := by rw [← es, IntKind.wrap_u32]; omega
                  have HSn := Lib.hid hs
                  have HE := Lib.hid es
                  clear hs es
                  go_wp2_with fail
                  refine wp_region_beginR [(X, (u32s m0).toArray), (w.heap.size + 1, (u32s g).toArray)] rfl (by simp only [Rws]; (repeat (first | exact trivial | refine ⟨(by first | assumption | (simp [go_sem, *]; done)), (by first | omega | (simp; done) | (simp; omega)), ?_⟩))) (fun hS => ?_)
                  refine wpAnyR_take (i := 0) (v := ?_) (by simp only [List.getElem?_toArray, List.getElem?_cons_succ, List.getElem?_cons_zero]; rfl) (by kernel_rfl) (by kernel_rfl) (by kernel_rfl) (by first | exact fun _ _ _ h => h | exact fun _ _ _ h => by cases h.1) (Rws.grow _) (Or.inl ⟨by rfl, ?_⟩) hS ?_
                  rotate_left
                  · intro w' hS'
                    simp only [Rws] at hS'
                    go_simp
                    refine ⟨?_, Below.refl _ _⟩
                    rfl
                  (try simp only [Act.put, List.setIfInBounds_toArray, List.set_cons_zero, List.set_cons_succ])
                  refine wpAnyR_take (i := 1) (v := ?_) (by simp only [List.getElem?_toArray, List.getElem?_cons_succ, List.getElem?_cons_zero]; rfl) (by kernel_rfl) (by kernel_rfl) (by kernel_rfl) (by first | exact fun _ _ _ h => h | exact fun _ _ _ h => by cases h.1) (Rws.grow _) (Or.inl ⟨by rfl, ?_⟩) hS ?_
                  rotate_left
                  · intro w' hS'
                    simp only [Rws] at hS'
                    go_simp
                    refine ⟨?_, Below.refl _ _⟩
                    rfl
                  (try simp only [Act.put, List.setIfInBounds_toArray, List.set_cons_zero, List.set_cons_succ])
                  refine wpAnyR_take (i := 2) (v := ?_) (by simp only [List.getElem?_toArray, List.getElem?_cons_succ, List.getElem?_cons_zero]; rfl) (by kernel_rfl) (by kernel_rfl) (by kernel_rfl) (by first | exact fun _ _ _ h => h | exact fun _ _ _ h => by cases h.1) (Rws.grow _) (Or.inl ⟨by rfl, ?_⟩) hS ?_
                  rotate_left
                  · intro w' hS'
                    simp only [Rws] at hS'
                    go_simp
                    refine ⟨?_, Below.refl _ _⟩
                    rfl
                  (try simp only [Act.put, List.setIfInBounds_toArray, List.set_cons_zero, List.set_cons_succ])
                  refine wpAnyR_take (i := 3) (v := ?_) (by simp only [List.getElem?_toArray, List.getElem?_cons_succ, List.getElem?_cons_zero]; rfl) (by kernel_rfl) (by kernel_rfl) (by kernel_rfl) (by first | exact fun _ _ _ h => h | exact fun _ _ _ h => by cases h.1) (Rws.grow _) (Or.inl ⟨by rfl, ?_⟩) hS ?_
                  rotate_left
                  · intro w' hS'
                    simp only [Rws] at hS'
                    go_simp
                    refine ⟨?_, Below.refl _ _⟩
                    rfl
                  (try simp only [Act.put, List.setIfInBounds_toArray, List.set_cons_zero, List.set_cons_succ])
                  refine wpAnyR_take (i := 4) (v := ?_) (by simp only [List.getElem?_toArray, List.getElem?_cons_succ, List.getElem?_cons_zero]; rfl) (by kernel_rfl) (by kernel_rfl) (by kernel_rfl) (by first | exact fun _ _ _ h => h | exact fun _ _ _ h => by cases h.1) (Rws.grow _) (Or.inl ⟨by rfl, ?_⟩) hS ?_
                  rotate_left
                  · intro w' hS'
                    simp only [Rws] at hS'
                    go_simp
                    refine ⟨?_, Below.refl _ _⟩
                    rfl
                  (try simp only [Act.put, List.setIfInBounds_toArray, List.set_cons_zero, List.set_cons_succ])
                  refine wpAnyR_take (i := 5) (v := ?_) (by simp only [List.getElem?_toArray, List.getElem?_cons_succ, List.getElem?_cons_zero]; rfl) (by kernel_rfl) (by kernel_rfl) (by kernel_rfl) (by first | exact fun _ _ _ h => h | exact fun _ _ _ h => by cases h.1) (Rws.grow _) (Or.inl ⟨by rfl, ?_⟩) hS ?_
                  rotate_left
                  · intro w' hS'
                    simp only [Rws] at hS'
                    go_simp
                    refine ⟨?_, Below.refl _ _⟩
                    rfl
                  (try simp only [Act.put, List.setIfInBounds_toArray, List.set_cons_zero, List.set_cons_succ])
                  refine wpAnyR_take (i := 6) (v := ?_) (by simp only [List.getElem?_toArray, List.getElem?_cons_succ, List.getElem?_cons_zero]; rfl) (by kernel_rfl) (by kernel_rfl) (by kernel_rfl) (by first | exact fun _ _ _ h => h | exact fun _ _ _ h => by cases h.1) (Rws.grow _) (Or.inl ⟨by rfl, ?_⟩) hS ?_
                  rotate_left
                  · intro w' hS'
                    simp only [Rws] at hS'
                    go_simp
                    refine ⟨?_, Below.refl _ _⟩
                    rfl
                  (try simp only [Act.put, List.setIfInBounds_toArray, List.set_cons_zero, List.set_cons_succ])
                  rw [HE.out]
                  refine wpAnyR_take (i := 7) (v := ?_) (by simp only [List.getElem?_toArray, List.getElem?_cons_succ, List.getElem?_cons_zero]; rfl) (by kernel_rfl) (by kernel_rfl) (by kernel_rfl) (by first | exact fun _ _ _ h => h | exact fun _ _ _ h => by cases h.1) (Rws.grow _) (Or.inl ⟨by rfl, ?_⟩) hS ?_
                  rotate_left
                  · intro w' hS'
                    simp only [Rws] at hS'
                    go_simp
                    refine ⟨?_, Below.refl _ _⟩
                    rfl
                  (try simp only [Act.put, List.setIfInBounds_toArray, List.set_cons_zero, List.set_cons_succ])
                  refine wpAnyR_done (by kernel_rfl) (fun w6 b6 => ?_) _
                  replace b6 : Below (wr).heap.size (wr) w6 := below_step (Below.drew (Below.refl _ _)) b6
                  have z6 : B ≤ wr.heap.size := by have := hbel.size; omega
                  have b7 : Below B w5 w6 := hbel.trans (b6.mono z6)
                  have hown6 : w6.ownsRow B 5 1 u13 (4 * n) (u8s (bytesW S (4 * n))) := ownsRow_belowR hown b6
                  go_wp2_with fail
                  go_loopw [13, 15, 16] (fun v x j wq => ∃ m : Nat, m ≤ 4 ∧ j = .int .i64 m ∧ x = .int .u32 (s / 2 ^ (8 * m)) ∧ wq.ownsRow B 5 1 v (4 * n + m) (u8s (bytesW S (4 * n + m))) ∧ Below B w5 wq) (fun _ _ j _ => 4 - (intOf j).toNat)
                  case atStart => exact ⟨0, by omega, rfl, by simp, hown6, b7⟩
                  case round =>
                    clear b7 hown6 b6 hown hbel
                    obtain ⟨m, hm4, rfl, rfl, hown, hbel⟩ := hrel
                    by_cases hlt2 : m < 4
                    · have h1 : (m : Int) < 4 := by omega
                      obtain ⟨y, hy⟩ : ∃ y, s / 2 ^ (8 * m) = y := ⟨_, rfl⟩
                      have y0 : 0 ≤ y := by rw [← hy]; exact Int.ediv_nonneg sb.1 (Int.le_of_lt (Int.pow_pos (by decide)))
                      have y1 : y < 4294967296 := by
                        rw [← hy]
                        refine Int.lt_of_le_of_lt ?_ sb.2
                        exact Int.ediv_le_self _ sb.1
                      have hbt : y % 256 = ((byteW S (4 * n + m)).toNat : Int) := by
                        rw [byteW, show (4 * n + m) / 4 = n by omega, show (4 * n + m) % 4 = m by omega, HSn.out, hy, byteI_toNat]
                      have hys : s / 2 ^ (8 * (m + 1)) = y / 256 := by
                        rw [← hy, show 8 * (m + 1) = 8 * m + 8 by omega, Int.pow_add, ← Int.ediv_ediv_of_nonneg (Int.le_of_lt (Int.pow_pos (by decide)))]
                        rfl
                      rw [hy]
                      have HB := Lib.hid hbt
                      have HY := Lib.hid hys
                      have hsz := hbel.size
                      clear hbt hys hy
                      go_wp2_with (at_builtin; refine wpList_append_u8 rfl rfl inferInstance B _ (4 * n + m) _ rfl hown _ (byteW S (4 * n + m)) rfl HB.out (by omega) (by omega) ?_)
                      intro v' w2 hown2 hb2
                      go_wp2_with fail
                      go_roundw
                      case rel => exact ⟨m + 1, by omega, rfl, by rw [HY.out], by rw [← Nat.add_assoc, bytesW_succ, u8s_append]; exact hown2, hbel.trans hb2⟩
                      case measure => simp [intOf]; omega
                    · obtain rfl : m = 4 := by omega
                      rw [show ((4 : Nat) : Int) = 4 from rfl]
                      go_wp2_with fail
                      go_roundw
                      case rel => exact ⟨n + 1, by omega, rfl, by rw [show 4 * (n + 1) = 4 * n + 4 by omega]; exact hown, hbel⟩
                      case measure => simp [intOf]; omega
                · obtain rfl : n = 16 := by omega
                  rw [show ((16 : Nat) : Int) = 16 from rfl]
                  have hc := convS_own (P := Try.prog) (src := 34) (dst := 9) hown
                  rw [show 4 * 16 = 64 from rfl, bytesW_out] at hc
                  have e9 : outL S = streamL k count nonce := by rw [streamL, ← EL.out, HS.out]
                  rw [e9] at hc
                  go_wp2_with fail
                  go_ret
                  exact ⟨rfl, Below.trans bv0 (hbel.mono (by omega))⟩
end Go.Proofs.Ytjeclimoknilcaa
