/- Contracts of package ether: what takes bytes off a reader, and what panics. -/
import Derived.Test.YtckckabedgpbiaaEth0
import Derived.Deep.RegionHeld3
import Derived.Recover
set_option linter.unusedSimpArgs false
set_option linter.unusedVariables false
set_option maxRecDepth 4000
namespace Go.Proofs.Ytckckabedgpbiaa
open Go.RowKit
/-- a panic with an error's number -/
def errP (n : Int) : List PanicEntry := [{ v := .iface 26 (.int .i64 n), recovered := false }]
set_option maxHeartbeats 1000000 in
theorem rtake_ok (R n : Nat) (l : List UInt8) (w : World) (hR : row w R = #[.string ⟨l.toArray⟩]) (hn : n ≤ l.length) (hl : l.length ≤ 1000000) :
    Calls Try.prog 98 #[.pointer (some ⟨R, 0, none⟩), .int .i64 n] w fun e w' => e = .returned (.string ⟨(l.take n).toArray⟩) ∧ w' = w.setRow R #[.string ⟨(l.drop n).toArray⟩] := by
  have h1 : (n : Int) ≤ l.length := by omega
  have h2 : (l.length : Int) ≤ 1000000 := by omega
  go_enter Try.func98, Try.ntmps98
  go_wp2
  go_ret
  exact ⟨by simp, by simp⟩
set_option maxHeartbeats 1000000 in
theorem rtake_short (R n : Nat) (l : List UInt8) (w : World) (hR : row w R = #[.string ⟨l.toArray⟩]) (hn : l.length < n) (hl : n ≤ 1000000) :
    Calls Try.prog 98 #[.pointer (some ⟨R, 0, none⟩), .int .i64 n] w fun e w' => e = .panicked (errP 2) ∧ w = w' := by
  have h1 : (l.length : Int) < n := by omega
  have h2 : (n : Int) ≤ 1000000 := by omega
  go_enter Try.func98, Try.ntmps98
  go_wp2
  exact ⟨rfl, rfl, rfl⟩
set_option maxHeartbeats 1000000 in
theorem must_ok (n : Int) (w : World) : Calls Try.prog 74 #[.bool true, .int .i64 n] w fun e w' => e = .returned (.tuple #[]) ∧ w = w' := by
  go_enter Try.func74, Try.ntmps74
  go_wp2
  go_end0
  exact ⟨rfl, rfl⟩
set_option maxHeartbeats 1000000 in
theorem must_no (n : Int) (w : World) : Calls Try.prog 74 #[.bool false, .int .i64 n] w fun e w' => e = .panicked (errP n) ∧ w = w' := by
  go_enter Try.func74, Try.ntmps74
  go_wp2
  exact ⟨rfl, rfl, rfl⟩
def zeroEth : List Value := zeros 12 (.int .u8 0) ++ [.int .i64 0, .string ⟨#[]⟩, .int .i64 0, .int .i64 0]
set_option maxHeartbeats 1000000 in
theorem ethCatch_panic (X E : Nat) (n m : Int) (w : World) (B : Nat) (hX : (row w X).size = 16) (hE : row w E = #[.int .i64 m]) (hXE : X ≠ E) (hBX : B ≤ X) (hBE : B ≤ E) :
    CallsD Try.prog 70 #[.pointer (some ⟨X, 0, none⟩), .pointer (some ⟨E, 0, none⟩)] (.panicking (errP n)) w fun e u' w' =>
      e = .returned (.tuple #[]) ∧ u' = .panicking [{ v := .iface 26 (.int .i64 n), recovered := true }] ∧ row w' X = zeroEth.toArray ∧ row w' E = #[.int .i64 n] ∧ Below B w w' := by
  have hE2 := row_setRow_other (w := w) X E (zeros 12 (.int .u8 0) ++ .int .i64 0 :: .string ⟨#[]⟩ :: zeros 2 (.int .i64 0)).toArray (Ne.symm hXE)
  rw [hE] at hE2
  refine callsD_of_wpS Try.func70 rfl fun c₀ cs hu => ?_
  apply wpS_seq
  apply wpS_region
  simp [wpOpsS, go_sem, recoverD, hu, errP, Try.ntmps70, Exit.thenS]
  apply wpS_seq
  apply wpS_region
  simp [wpOpsS, go_sem, Exit.thenS]
  refine wpS_cond (t := true) (by simp [Act.eval, Array.replicate]) ?_
  simp only [if_true]
  refine wpS_of_wp ?_
  rw [show (Array.replicate 7 undef : Array Value) = #[undef, undef, undef, undef, undef, undef, undef] from rfl]
  simp only [List.setIfInBounds_toArray, List.set_cons_zero, List.set_cons_succ, List.append_toArray, List.cons_append, List.nil_append]
  refine wp_region_begin rfl (fun hS => ?_)
  refine wpAnyH_take (i := 0) (v := ?_) (by simp only [List.getElem?_toArray, List.getElem?_cons_succ, List.getElem?_cons_zero]; rfl) (by kernel_rfl) (by kernel_rfl) (by kernel_rfl) (by exact fun _ _ _ h => h) (Or.inl ⟨by rfl, ?_⟩) hS ?_
  rotate_left
  · intro w' hS'
    unfold Held at hS'
    go_simp
    rfl
  (try simp only [Act.put, List.setIfInBounds_toArray, List.set_cons_zero, List.set_cons_succ])
  refine wpAnyH_take (i := 1) (v := ?_) (by simp only [List.getElem?_toArray, List.getElem?_cons_succ, List.getElem?_cons_zero]; rfl) (by kernel_rfl) (by kernel_rfl) (by kernel_rfl) (by exact fun _ _ _ h => h) (Or.inl ⟨by rfl, ?_⟩) hS ?_
  rotate_left
  · intro w' hS'
    unfold Held at hS'
    go_simp
    rfl
  (try simp only [Act.put, List.setIfInBounds_toArray, List.set_cons_zero, List.set_cons_succ])
  refine wpAnyH_take (i := 2) (v := ?_) (by simp only [List.getElem?_toArray, List.getElem?_cons_succ, List.getElem?_cons_zero]; rfl) (by kernel_rfl) (by kernel_rfl) (by kernel_rfl) (by exact fun _ _ _ h => h) (Or.inl ⟨by rfl, ?_⟩) hS ?_
  rotate_left
  · intro w' hS'
    unfold Held at hS'
    go_simp
    rfl
  (try simp only [Act.put, List.setIfInBounds_toArray, List.set_cons_zero, List.set_cons_succ])
  refine wpAnyH_all (rs := [3]) (by kernel_rfl) (by simp) ?_
  intro i hi
  obtain rfl := List.mem_singleton.1 hi
  refine wpOp_step rfl (fun K hK => ?_)
  clear hi hS
  go_simp
  refine hK _ _ (wpAnyH_same ?_ (fun hS => ?_))
  · unfold Held
    simp [go_sem]
  clear hK K
  refine wpAnyH_all (rs := [4]) (by kernel_rfl) (by simp) ?_
  intro i hi
  obtain rfl := List.mem_singleton.1 hi
  refine wpOp_step rfl (fun K hK => ?_)
  clear hi hS
  go_simp
  refine hK _ _ (wpAnyH_same ?_ (fun hS => ?_))
  · unfold Held
    simp [go_sem]
  clear hK K
  refine wpAnyH_done (by kernel_rfl) ?_ _
  have r1 : row (w.setRow X zeroEth.toArray) X = zeroEth.toArray := row_setRow_same (by omega) (by simp [hX, zeroEth])
  have r2 := row_setRow_other (w := w.setRow X zeroEth.toArray) E X #[.int .i64 n] hXE
  have r3 := row_setRow_same (w := w.setRow X zeroEth.toArray) (g := E) (c := #[.int .i64 n]) (by rw [show row (w.setRow X zeroEth.toArray) E = _ from hE2]; simp) (by rw [show row (w.setRow X zeroEth.toArray) E = _ from hE2]; simp)
  refine ⟨rfl, _, rfl, .tuple #[], by simp [results, Try.results70], rfl, rfl, r2.trans r1, r3, ?_⟩
  (repeat (first | exact Below.refl _ _ | refine Below.alloc ?_ (by first | (simp; done) | (simp; omega) | omega) _ | refine Below.drew ?_ | refine Below.setRow ?_ (by first | (simp; done) | (simp; omega) | omega) _ | refine Below.setCell ?_ (by first | (simp; done) | (simp; omega) | omega) _))
set_option maxHeartbeats 1000000 in
theorem ethCatch_idle (X E : Nat) (w : World) :
    CallsD Try.prog 70 #[.pointer (some ⟨X, 0, none⟩), .pointer (some ⟨E, 0, none⟩)] .returning w fun e u' w' =>
      e = .returned (.tuple #[]) ∧ u' = .returning ∧ w' = w := by
  refine callsD_of_wpS Try.func70 rfl fun c₀ cs hu => ?_
  apply wpS_seq
  apply wpS_region
  simp [wpOpsS, go_sem, recoverD, hu, errP, Try.ntmps70, Exit.thenS]
  apply wpS_seq
  apply wpS_region
  simp [wpOpsS, go_sem, Exit.thenS]
  refine wpS_cond (t := false) (by simp [Act.eval, Array.replicate]) ?_
  simp only [Bool.false_eq_true, if_false]
  refine wpS_of_wp (wp_skip ?_)
  cases c₀
  simp_all [bodyPostS, results, Try.results70]
set_option maxHeartbeats 1000000 in
theorem rmac_ok (R : Nat) (l : List UInt8) (w : World) (hR : row w R = #[.string ⟨l.toArray⟩]) (hRw : R < w.heap.size) (hn : 6 ≤ l.length) (hl : l.length ≤ 1000000) :
    Calls Try.prog 71 #[.pointer (some ⟨R, 0, none⟩)] w fun e w' => e = .returned (.agg (u8v (vecAt l 0 6)).toArray) ∧ Below w.heap.size (w.setRow R #[.string ⟨(l.drop 6).toArray⟩]) w' := by
  have hlen : (l.take 6).length = 6 := by simp; omega
  go_enter Try.func71, Try.ntmps71
  go_wp2_with fail
  refine (rtake_ok R 6 l _ (by simp [go_sem, hRw, hR]) hn hl).mono ?_
  rintro e w1 ⟨rfl, rfl⟩
  go_wp2_with fail
  ((try simp only [Exit.inBlock, Exit.then]); refine bodyPost_ret (results_1 rfl (resOk_row rfl ?_)) rfl ?_; (simp [go_sem]))
  · omega
  refine ⟨by rw [u8v_vecAt _ _ _ (by omega)]; simp [go_sem], ?_⟩
  (repeat (first | exact Below.refl _ _ | refine Below.alloc ?_ (by first | (simp; done) | (simp; omega) | omega) _ | refine Below.drew ?_ | refine Below.setRow ?_ (by first | (simp; done) | (simp; omega) | omega) _ | refine Below.setCell ?_ (by first | (simp; done) | (simp; omega) | omega) _))
set_option maxHeartbeats 1000000 in
theorem rmac_short (R : Nat) (l : List UInt8) (w : World) (hR : row w R = #[.string ⟨l.toArray⟩]) (hRw : R < w.heap.size) (hn : l.length < 6) :
    Calls Try.prog 71 #[.pointer (some ⟨R, 0, none⟩)] w fun e w' => e = .panicked (errP 2) ∧ Below w.heap.size w w' := by
  go_enter Try.func71, Try.ntmps71
  go_wp2_with fail
  refine (rtake_short R 6 l _ (by simp [go_sem, hRw, hR]) hn (by omega)).mono ?_
  rintro e w1 ⟨rfl, rfl⟩
  refine ⟨rfl, rfl, ?_⟩
  (repeat (first | exact Below.refl _ _ | refine Below.alloc ?_ (by first | (simp; done) | (simp; omega) | omega) _ | refine Below.drew ?_ | refine Below.setRow ?_ (by first | (simp; done) | (simp; omega) | omega) _ | refine Below.setCell ?_ (by first | (simp; done) | (simp; omega) | omega) _))
set_option maxHeartbeats 1000000 in
theorem rtwo_ok (R : Nat) (l : List UInt8) (w : World) (hR : row w R = #[.string ⟨l.toArray⟩]) (hn : 2 ≤ l.length) (hl : l.length ≤ 1000000) :
    Calls Try.prog 72 #[.pointer (some ⟨R, 0, none⟩)] w fun e w' => e = .returned (.int .i64 (numN (l.take 2))) ∧ w' = w.setRow R #[.string ⟨(l.drop 2).toArray⟩] := by
  have hlen : (l.take 2).length = 2 := by simp; omega
  go_enter Try.func72, Try.ntmps72
  go_wp2_with fail
  refine (rtake_ok R 2 l _ hR hn hl).mono ?_
  rintro e w1 ⟨rfl, rfl⟩
  go_wp2_with fail
  refine (number_any _ _ (by simp [ByteArray.size]; omega)).mono ?_
  rintro e w1 ⟨rfl, rfl⟩
  go_wp2_with fail
  go_ret
  exact ⟨rfl, rfl⟩
set_option maxHeartbeats 1000000 in
theorem rtwo_short (R : Nat) (l : List UInt8) (w : World) (hR : row w R = #[.string ⟨l.toArray⟩]) (hn : l.length < 2) :
    Calls Try.prog 72 #[.pointer (some ⟨R, 0, none⟩)] w fun e w' => e = .panicked (errP 2) ∧ w = w' := by
  go_enter Try.func72, Try.ntmps72
  go_wp2_with fail
  refine (rtake_short R 2 l _ hR hn (by omega)).mono ?_
  rintro e w1 ⟨rfl, rfl⟩
  exact ⟨rfl, rfl, rfl⟩
end Go.Proofs.Ytckckabedgpbiaa
