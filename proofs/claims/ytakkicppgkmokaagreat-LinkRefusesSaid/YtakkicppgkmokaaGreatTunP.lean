/- Contracts of package tun: datagrams, printed. -/
import Derived.Test.YtakkicppgkmokaaGreatTun
set_option linter.unusedSimpArgs false
set_option linter.unusedVariables false
set_option maxRecDepth 4000
namespace Go.Proofs.YtakkicppgkmokaaGreat
open Go.RowKit
section
variable (w : World)
/-- eight bytes of a number -/
def eightL (n : Nat) : List UInt8 := bytesN (n / 4294967296) 4 ++ bytesN (n % 4294967296) 4
theorem eightL_length (n : Nat) : (eightL n).length = 8 := by simp [eightL]
theorem tofN_eightL (n : Nat) (h : n < 18446744073709551616) : tofN (eightL n) = n := by
  unfold tofN eightL
  rw [List.take_left' (by simp), List.drop_left' (by simp), numN_bytesN, numN_bytesN]
  simp only [show (256 : Nat) ^ 4 = 4294967296 from rfl]
  omega
theorem and_64 (n : Nat) (h : n < 18446744073709551616) : bits .and .u64 (n : Int) 4294967295 = (n : Int) % 4294967296 := by
  unfold bits
  simp only
  have e : (4294967295 : Int) = ((4294967295 : Nat) : Int) := rfl
  rw [e, BitVec.ofInt_natCast, BitVec.ofInt_natCast, IntKind.wrap_u64]
  simp only [BitVec.toNat_and, BitVec.toNat_ofNat, show IntKind.u64.bits = 64 from rfl]
  rw [Nat.mod_eq_of_lt (show n < 2 ^ 64 by omega), Nat.mod_eq_of_lt (show 4294967295 < 2 ^ 64 by omega), show (4294967295 : Nat) = 2 ^ 32 - 1 by rfl, Nat.and_two_pow_sub_one_eq_mod]
  omega
set_option maxRecDepth 20000 in
set_option maxHeartbeats 1000000 in
theorem eight_any (n : Nat) (h : n < 18446744073709551616) : Calls Tryz.prog 77 #[.int .u64 (n : Int)] w fun e w' => e = .returned (.string ⟨(eightL n).toArray⟩) ∧ Below w.heap.size w w' := by
  have q1 : (0 : Int) ≤ (n : Int) / 4294967296 := by omega
  have q2 : (n : Int) / 4294967296 ≤ 4294967295 := by omega
  have q3 : (0 : Int) ≤ (n : Int) % 4294967296 := by omega
  have q4 : (n : Int) % 4294967296 ≤ 4294967295 := by omega
  have H1 := fun w => four_any ((n : Int) / 4294967296) w q1 q2
  have H2 := fun w => four_any ((n : Int) % 4294967296) w q3 q4
  have e1 : ((n : Int) / 4294967296).toNat = n / 4294967296 := by omega
  have e2 : ((n : Int) % 4294967296).toNat = n % 4294967296 := by omega
  rw [e1] at H1
  rw [e2] at H2
  have K1 := Lib.hid H1
  have K2 := Lib.hid H2
  have l1 : (bytesN (n / 4294967296) 4).length = 4 := by simp
  have l2 : (bytesN (n % 4294967296) 4).length = 4 := by simp
  unfold eightL
  obtain ⟨x, hx⟩ : ∃ x, bytesN (n / 4294967296) 4 = x := ⟨_, rfl⟩
  obtain ⟨y, hy⟩ : ∃ x, bytesN (n % 4294967296) 4 = x := ⟨_, rfl⟩
  rw [hx] at K1 l1 ⊢
  rw [hy] at K2 l2 ⊢
  have ha : bits .and .u64 (n : Int) 4294967295 = (n : Int) % 4294967296 := and_64 n h
  have hl3 : ¬ 9223372036854775807 < x.length + y.length := by omega
  clear hx hy H1 H2 e1 e2 h
  go_enter Tryz.func77, Tryz.ntmps77
  go_wp2_with fail
  refine (K1.out _).mono ?_
  rintro e w1 ⟨rfl, b1⟩
  have z1 := b1.size
  go_wp2_with fail
  refine (K2.out _).mono ?_
  rintro e w2 ⟨rfl, b2⟩
  go_wp2_with fail
  go_ret
  exact ⟨rfl, b1.trans (b2.mono (by omega))⟩
set_option maxRecDepth 20000 in
set_option maxHeartbeats 1000000 in
theorem tunPrint12 (k : Int) (hk : k = 1 ∨ k = 2) (l : List UInt8) (hl : l.length = 48) : Calls Tryz.prog 50 #[.agg #[.int .i64 k, .int .u64 0, .string ⟨l.toArray⟩]] w fun e w' => e = .returned (.tuple #[.string ⟨(byteI k :: l).toArray⟩, .int .i64 0]) ∧ Below w.heap.size w w' := by
  have hlI : (l.length : Int) = 48 := by omega
  have hl3 : ¬ 9223372036854775807 < 1 + l.length := by omega
  rcases hk with rfl | rfl
  · go_enter Tryz.func50, Tryz.ntmps50
    go_wp2_with fail
    go_ret2
    exact ⟨rfl, (by (repeat (first | exact Below.refl _ _ | refine Below.alloc ?_ (by first | (simp; done) | (simp; omega) | omega) _ | refine Below.drew ?_ | refine Below.setRow ?_ (by first | (simp; done) | (simp; omega) | omega) _ | refine Below.setCell ?_ (by first | (simp; done) | (simp; omega) | omega) _)))⟩
  · go_enter Tryz.func50, Tryz.ntmps50
    go_wp2_with fail
    go_ret2
    exact ⟨rfl, (by (repeat (first | exact Below.refl _ _ | refine Below.alloc ?_ (by first | (simp; done) | (simp; omega) | omega) _ | refine Below.drew ?_ | refine Below.setRow ?_ (by first | (simp; done) | (simp; omega) | omega) _ | refine Below.setCell ?_ (by first | (simp; done) | (simp; omega) | omega) _)))⟩
set_option maxRecDepth 20000 in
set_option maxHeartbeats 1000000 in
theorem tunPrint3 (n : Nat) (hn : n < 18446744073709551616) (l : List UInt8) (hl : 16 ≤ l.length) (hl2 : l.length ≤ 100000) : Calls Tryz.prog 50 #[.agg #[.int .i64 3, .int .u64 (n : Int), .string ⟨l.toArray⟩]] w fun e w' => e = .returned (.tuple #[.string ⟨(3 :: (eightL n ++ l)).toArray⟩, .int .i64 0]) ∧ Below w.heap.size w w' := by
  have hlI : (16 : Int) ≤ (l.length : Int) := by omega
  have HE := Lib.hid (fun w => eight_any w n hn)
  have hel := eightL_length n
  obtain ⟨x, hx⟩ : ∃ x, eightL n = x := ⟨_, rfl⟩
  rw [hx] at HE hel ⊢
  clear hx
  have hl3 : ¬ 9223372036854775807 < 1 + x.length := by omega
  have hl4 : ¬ 9223372036854775807 < 1 + x.length + l.length := by omega
  have hl5 : ¬ 9223372036854775807 < 1 + (x.length + l.length) := by omega
  have hl6 : ¬ 9223372036854775807 < x.length + 1 + l.length := by omega
  have hl7 : ¬ 9223372036854775807 < x.length + l.length + 1 := by omega
  have hl8 : ¬ 9223372036854775807 < x.length + 1 := by omega
  have hl9 : ¬ 9223372036854775807 < 9 + l.length := by omega
  go_enter Tryz.func50, Tryz.ntmps50
  obtain ⟨W, hW⟩ : ∃ v, (w.alloc (.cells #[.int .i64 3, .int .u64 (n : Int), .string ⟨l.toArray⟩] 68)).alloc (.cells #[.int .u8 3] 5) = v := ⟨_, rfl⟩
  have rG : row W w.heap.size = #[.int .i64 3, .int .u64 (n : Int), .string ⟨l.toArray⟩] := by rw [← hW]; simp [go_sem]
  have rH : row W (w.heap.size + 1) = #[.int .u8 3] := by rw [← hW]; simp [go_sem]
  have zW : W.heap.size = w.heap.size + 2 := by rw [← hW]; simp
  have bW : Below w.heap.size w W := by
    rw [← hW]
    (repeat (first | exact Below.refl _ _ | refine Below.alloc ?_ (by first | (simp; done) | (simp; omega) | omega) _ | refine Below.drew ?_ | refine Below.setRow ?_ (by first | (simp; done) | (simp; omega) | omega) _ | refine Below.setCell ?_ (by first | (simp; done) | (simp; omega) | omega) _))
  go_wp2_with fail
  clear hW
  refine wp_region_beginR [(w.heap.size, #[.int .i64 3, .int .u64 (n : Int), .string ⟨l.toArray⟩])] rfl (by simp only [Rws]; (repeat (first | exact trivial | refine ⟨(by first | assumption | (simp [go_sem, *]; done)), (by first | omega | (simp; done) | (simp; omega)), ?_⟩))) (fun hS => ?_)
  refine wpAnyR_take (i := 0) (v := ?_) (by simp only [List.getElem?_toArray, List.getElem?_cons_succ, List.getElem?_cons_zero]; rfl) (by kernel_rfl) (by kernel_rfl) (by kernel_rfl) (by first | exact fun _ _ _ h => h | exact fun _ _ _ h => by cases h.1) (Rws.grow _) (Or.inl ⟨by rfl, ?_⟩) hS ?_
  rotate_left
  · intro w' hS'
    simp only [Rws] at hS'
    go_simp
    refine ⟨?_, Below.refl _ _⟩
    rfl
  (try simp only [Act.put, List.setIfInBounds_toArray, List.set_cons_zero, List.set_cons_succ])
  refine wpAnyR_take (i := 1) (v := ?_) (by simp only [List.getElem?_toArray, List.getElem?_cons_succ, List.getElem?_cons_zero]; rfl) (by kernel_rfl) (by kernel_rfl) (by kernel_rfl) (by first | exact fun _ _ _ h => h | exact fun _ _ _ h => by cases h.1) (Rws.grow _) (Or.inl ⟨by rfl, ?_⟩) hS ?_
  rotate_left
  · intro w' hS'
    simp only [Rws] at hS'
    go_simp
    refine ⟨?_, Below.refl _ _⟩
    rfl
  (try simp only [Act.put, List.setIfInBounds_toArray, List.set_cons_zero, List.set_cons_succ])
  refine wpAnyR_take (i := 2) (v := ?_) (by simp only [List.getElem?_toArray, List.getElem?_cons_succ, List.getElem?_cons_zero]; rfl) (by kernel_rfl) (by kernel_rfl) (by kernel_rfl) (by first | exact fun _ _ _ h => h | exact fun _ _ _ h => by cases h.1) (Rws.grow _) (Or.inl ⟨by rfl, ?_⟩) hS ?_
  rotate_left
  · intro w' hS'
    simp only [Rws] at hS'
    go_simp
    refine ⟨?_, Below.refl _ _⟩
    rfl
  (try simp only [Act.put, List.setIfInBounds_toArray, List.set_cons_zero, List.set_cons_succ])
  refine wpAnyR_take (i := 5) (v := ?_) (by simp only [List.getElem?_toArray, List.getElem?_cons_succ, List.getElem?_cons_zero]; rfl) (by kernel_rfl) (by kernel_rfl) (by kernel_rfl) (by first | exact fun _ _ _ h => h | exact fun _ _ _ h => by cases h.1) (Rws.grow _) (Or.inl ⟨by rfl, ?_⟩) hS ?_
  rotate_left
  · intro w' hS'
    simp only [Rws] at hS'
    go_simp
    refine ⟨?_, Below.refl _ _⟩
    rfl
  (try simp only [Act.put, List.setIfInBounds_toArray, List.set_cons_zero, List.set_cons_succ])
  refine wpAnyR_take (i := 6) (v := ?_) (by simp only [List.getElem?_toArray, List.getElem?_cons_succ, List.getElem?_cons_zero]; rfl) (by kernel_rfl) (by kernel_rfl) (by kernel_rfl) (by first | exact fun _ _ _ h => h | exact fun _ _ _ h => by cases h.1) (Rws.grow _) (Or.inl ⟨by rfl, ?_⟩) hS ?_
  rotate_left
  · intro w' hS'
    simp only [Rws] at hS'
    go_simp
    refine ⟨?_, Below.refl _ _⟩
    rfl
  (try simp only [Act.put, List.setIfInBounds_toArray, List.set_cons_zero, List.set_cons_succ])
  refine wpAnyR_take (i := 3) (v := ?_) (by simp only [List.getElem?_toArray, List.getElem?_cons_succ, List.getElem?_cons_zero]; rfl) (by kernel_rfl) (by kernel_rfl) (by kernel_rfl) (by first | exact fun _ _ _ h => h | exact fun _ _ _ h => by cases h.1) (Rws.grow _) (Or.inl ⟨by rfl, ?_⟩) hS ?_
  rotate_left
  · intro w' hS'
    simp only [Rws] at hS'
    go_simp
    with_reducible refine (HE.out _).mono ?_
    rintro e w'' ⟨rfl, hb⟩
    refine ⟨_, rfl, ?_, hb⟩
    rfl
  (try simp only [Act.put, List.setIfInBounds_toArray, List.set_cons_zero, List.set_cons_succ])
  refine wpAnyR_take (i := 4) (v := ?_) (by simp only [List.getElem?_toArray, List.getElem?_cons_succ, List.getElem?_cons_zero]; rfl) (by kernel_rfl) (by kernel_rfl) (by kernel_rfl) (by first | exact fun _ _ _ h => h | exact fun _ _ _ h => by cases h.1) (Rws.grow _) (Or.inl ⟨by rfl, ?_⟩) hS ?_
  rotate_left
  · intro w' hS'
    simp only [Rws] at hS'
    go_simp
    refine ⟨?_, Below.refl _ _⟩
    rfl
  (try simp only [Act.put, List.setIfInBounds_toArray, List.set_cons_zero, List.set_cons_succ])
  refine wpAnyR_take (i := 7) (v := ?_) (by simp only [List.getElem?_toArray, List.getElem?_cons_succ, List.getElem?_cons_zero]; rfl) (by kernel_rfl) (by kernel_rfl) (by kernel_rfl) (by first | exact fun _ _ _ h => h | exact fun _ _ _ h => by cases h.1) (Rws.grow _) (Or.inl ⟨by rfl, ?_⟩) hS ?_
  rotate_left
  · intro w' hS'
    simp only [Rws] at hS'
    go_simp
    refine ⟨?_, Below.refl _ _⟩
    rfl
  (try simp only [Act.put, List.setIfInBounds_toArray, List.set_cons_zero, List.set_cons_succ])
  refine wpAnyR_take (i := 8) (v := ?_) (by simp only [List.getElem?_toArray, List.getElem?_cons_succ, List.getElem?_cons_zero]; rfl) (by kernel_rfl) (by kernel_rfl) (by kernel_rfl) (by first | exact fun _ _ _ h => h | exact fun _ _ _ h => by cases h.1) (Rws.grow _) (Or.inl ⟨by rfl, ?_⟩) hS ?_
  rotate_left
  · intro w' hS'
    simp only [Rws] at hS'
    go_simp
    refine ⟨?_, Below.refl _ _⟩
    rfl
  (try simp only [Act.put, List.setIfInBounds_toArray, List.set_cons_zero, List.set_cons_succ])
  refine wpAnyR_take (i := 9) (v := ?_) (by simp only [List.getElem?_toArray, List.getElem?_cons_succ, List.getElem?_cons_zero]; rfl) (by kernel_rfl) (by kernel_rfl) (by kernel_rfl) (by first | exact fun _ _ _ h => h | exact fun _ _ _ h => by cases h.1) (Rws.grow _) (Or.inl ⟨by rfl, ?_⟩) hS ?_
  rotate_left
  · intro w' hS'
    simp only [Rws] at hS'
    go_simp
    refine ⟨?_, Below.refl _ _⟩
    rfl
  (try simp only [Act.put, List.setIfInBounds_toArray, List.set_cons_zero, List.set_cons_succ])
  refine wpAnyR_done (by kernel_rfl) (fun wN hN => ?_) _
  replace hN : Below (W).heap.size (W) wN := below_step (Below.drew (Below.refl _ _)) hN
  go_wp2_with fail
  go_ret2
  exact ⟨by first | rfl | simp, bW.trans (hN.mono (by omega))⟩
end
end Go.Proofs.YtakkicppgkmokaaGreat
