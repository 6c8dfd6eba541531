/- Texts of this proof, merged: EthR, EthS. -/
import Derived.Test.YtckckabedgpbiaaEth0J
import Derived.Deep.RegionHeld3
import Derived.Recover
set_option linter.unusedSimpArgs false
set_option linter.unusedVariables false
set_option maxRecDepth 4000
namespace Go.Proofs.Ytckckabedgpbiaa
section
open Go.RowKit
def errP (n : Int) : List PanicEntry := [{ v := .iface 26 (.int .i64 n), recovered := false }]
def zeroEth : List Value := zeros 12 (.int .u8 0) ++ [.int .i64 0, .string ⟨#[]⟩, .int .i64 0, .int .i64 0]
set_option maxHeartbeats 1000000 in
theorem ethCatch_panic (X E : Nat) (n m : Int) (w : World) (B : Nat) (hX : (row w X).size = 16) (hE : row w E = #[.int .i64 m]) (hXE : X ≠ E) (hBX : B ≤ X) (hBE : B ≤ E) :
  CallsD Try.prog 70 #[.pointer (some ⟨X, 0, none⟩), .pointer (some ⟨E, 0, none⟩)] (.panicking (errP n)) w fun e u' w' =>
   e = .returned (.tuple #[]) ∧ u' = .panicking [{ v := .iface 26 (.int .i64 n), recovered := true }] ∧ row w' X = zeroEth.toArray ∧ row w' E = #[.int .i64 n] ∧ Below B w w' := by
 have hE2 := row_setRow_other (w := w) X E (zeros 12 (.int .u8 0) ++ .int .i64 0 :: .string ⟨#[]⟩ :: zeros 2 (.int .i64 0)).toArray (Ne.symm hXE)
 rw [hE] at hE2
 refine callsD_of_wpS Try.func70 rfl fun c₀ cs hu => ?_
 apply wpS_seq
 apply wpS_region
 simp [wpOpsS, go_sem, recoverD, hu, errP, Try.ntmps70, Exit.thenS]
 apply wpS_seq
 apply wpS_region
 simp [wpOpsS, go_sem, Exit.thenS]
 refine wpS_cond (t := true) (by simp [Act.eval, Array.replicate]) ?_
 simp only [if_true]
 refine wpS_of_wp ?_
 rw [show (Array.replicate 7 undef : Array Value) = #[undef, undef, undef, undef, undef, undef, undef] from rfl]
 simp only [List.setIfInBounds_toArray, List.set_cons_zero, List.set_cons_succ, List.append_toArray, List.cons_append, List.nil_append]
 refine wp_region_begin rfl (fun hS => ?_)
 refine wpAnyH_take (i := 0) (v := ?_) (by simp only [List.getElem?_toArray, List.getElem?_cons_succ, List.getElem?_cons_zero]; rfl) (by kernel_rfl) (by kernel_rfl) (by kernel_rfl) (by exact fun _ _ _ h => h) (Or.inl ⟨by rfl, ?_⟩) hS ?_
 rotate_left
 ·
  intro w' hS'
  unfold Held at hS'
  go_simp
  rfl
 (try simp only [Act.put, List.setIfInBounds_toArray, List.set_cons_zero, List.set_cons_succ])
 refine wpAnyH_take (i := 1) (v := ?_) (by simp only [List.getElem?_toArray, List.getElem?_cons_succ, List.getElem?_cons_zero]; rfl) (by kernel_rfl) (by kernel_rfl) (by kernel_rfl) (by exact fun _ _ _ h => h) (Or.inl ⟨by rfl, ?_⟩) hS ?_
 rotate_left
 ·
  intro w' hS'
  unfold Held at hS'
  go_simp
  rfl
 (try simp only [Act.put, List.setIfInBounds_toArray, List.set_cons_zero, List.set_cons_succ])
 refine wpAnyH_take (i := 2) (v := ?_) (by simp only [List.getElem?_toArray, List.getElem?_cons_succ, List.getElem?_cons_zero]; rfl) (by kernel_rfl) (by kernel_rfl) (by kernel_rfl) (by exact fun _ _ _ h => h) (Or.inl ⟨by rfl, ?_⟩) hS ?_
 rotate_left
 ·
  intro w' hS'
  unfold Held at hS'
  go_simp
  rfl
 (try simp only [Act.put, List.setIfInBounds_toArray, List.set_cons_zero, List.set_cons_succ])
 refine wpAnyH_all (rs := [3]) (by kernel_rfl) (by simp) ?_
 intro i hi
 obtain rfl := List.mem_singleton.1 hi
 refine wpOp_step rfl (fun K hK => ?_)
 clear hi hS
 go_simp
 refine hK _ _ (wpAnyH_same ?_ (fun hS => ?_))
 ·
  unfold Held
  simp [go_sem]
 clear hK K
 refine wpAnyH_all (rs := [4]) (by kernel_rfl) (by simp) ?_
 intro i hi
 obtain rfl := List.mem_singleton.1 hi
 refine wpOp_step rfl (fun K hK => ?_)
 clear hi hS
 go_simp
 refine hK _ _ (wpAnyH_same ?_ (fun hS => ?_))
 ·
  unfold Held
  simp [go_sem]
 clear hK K
 refine wpAnyH_done (by kernel_rfl) ?_ _
 have r1 : row (w.setRow X zeroEth.toArray) X = zeroEth.toArray := row_setRow_same (by omega) (by simp [hX, zeroEth])
 have r2 := row_setRow_other (w := w.setRow X zeroEth.toArray) E X #[.int .i64 n] hXE
 have r3 := row_setRow_same (w := w.setRow X zeroEth.toArray) (g := E) (c := #[.int .i64 n]) (by rw [show row (w.setRow X zeroEth.toArray) E = _ from hE2]; simp) (by rw [show row (w.setRow X zeroEth.toArray) E = _ from hE2]; simp)
 refine ⟨rfl, _, rfl, .tuple #[], by simp [results, Try.results70], rfl, rfl, r2.trans r1, r3, ?_⟩
 (repeat (first | exact Below.refl _ _ | refine Below.al ?_ _ | refine Below.drew ?_ | refine Below.sr ?_ _ | refine Below.sc ?_ _))
set_option maxHeartbeats 1000000 in
theorem ethCatch_idle (X E : Nat) (w : World) :
  CallsD Try.prog 70 #[.pointer (some ⟨X, 0, none⟩), .pointer (some ⟨E, 0, none⟩)] .returning w fun e u' w' =>
   e = .returned (.tuple #[]) ∧ u' = .returning ∧ w' = w := by
 refine callsD_of_wpS Try.func70 rfl fun c₀ cs hu => ?_
 apply wpS_seq
 apply wpS_region
 simp [wpOpsS, go_sem, recoverD, hu, errP, Try.ntmps70, Exit.thenS]
 apply wpS_seq
 apply wpS_region
 simp [wpOpsS, go_sem, Exit.thenS]
 refine wpS_cond (t := false) (by simp [Act.eval, Array.replicate]) ?_
 simp only [Bool.false_eq_true, if_false]
 refine wpS_of_wp (wp_skip ?_)
 cases c₀
 simp_all [bodyPostS, results, Try.results70]
end
section
open Go.RowKit
section
variable (X R : Nat) (dst src : Vector UInt8 6) (l : List UInt8) (n : Nat) (v p : Int) (w : World)
end
end
end Go.Proofs.Ytckckabedgpbiaa
