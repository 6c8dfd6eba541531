/- The document's printing of arp. -/
import Derived.Test.YtckckabedgpbiaaArpRJ
set_option linter.unusedSimpArgs false
set_option linter.unusedVariables false
set_option maxRecDepth 4000
namespace Go.Proofs.Ytckckabedgpbiaa
open Go.RowKit
set_option maxRecDepth 20000 in
set_option maxHeartbeats 2000000 in
theorem refPrint_op2 (mac tgt : Vector UInt8 6) (ip want : Vector UInt8 4) (w : World) :
  Calls Try.prog 54 #[.agg (arpV 2 mac tgt ip want).toArray] w fun e w' => e = .returned (.string ⟨(arpS 2 mac tgt ip want).toArray⟩) ∧ Below w.heap.size w w' := by
 unfold arpV
 go_enter Try.func54, Try.ntmps54
 go_wp2_with fail
 refine wp_region_beginS (S := Held (fun w' => row w' w.heap.size = (.int .i64 2 :: (u8v mac ++ (u8v tgt ++ (u8v ip ++ u8v want)))).toArray)) rfl ?_ (fun hS => ?_)
 ·
  unfold Held
  simp [go_sem, *]
 refine wpAnyH_take (i := 0) (v := ?_) (by simp only [List.getElem?_toArray, List.getElem?_cons_succ, List.getElem?_cons_zero]; rfl) (by kernel_rfl) (by kernel_rfl) (by kernel_rfl) (by exact fun _ _ _ h => h) (Or.inl ⟨by rfl, ?_⟩) hS ?_
 rotate_left
 ·
  intro w' hS'
  unfold Held at hS'
  go_simp
  rfl
 (try simp only [Act.put, List.setIfInBounds_toArray, List.set_cons_zero, List.set_cons_succ])
 refine wpAnyH_take (i := 1) (v := ?_) (by simp only [List.getElem?_toArray, List.getElem?_cons_succ, List.getElem?_cons_zero]; rfl) (by kernel_rfl) (by kernel_rfl) (by kernel_rfl) (by exact fun _ _ _ h => h) (Or.inl ⟨by rfl, ?_⟩) hS ?_
 rotate_left
 ·
  intro w' hS'
  unfold Held at hS'
  go_simp
  rfl
 (try simp only [Act.put, List.setIfInBounds_toArray, List.set_cons_zero, List.set_cons_succ])
 refine wpAnyH_take (i := 2) (v := ?_) (by simp only [List.getElem?_toArray, List.getElem?_cons_succ, List.getElem?_cons_zero]; rfl) (by kernel_rfl) (by kernel_rfl) (by kernel_rfl) (by exact fun _ _ _ h => h) (Or.inl ⟨by rfl, ?_⟩) hS ?_
 rotate_left
 ·
  intro w' hS'
  unfold Held at hS'
  go_simp
  rfl
 (try simp only [Act.put, List.setIfInBounds_toArray, List.set_cons_zero, List.set_cons_succ])
 refine wpAnyH_take (i := 5) (v := ?_) (by simp only [List.getElem?_toArray, List.getElem?_cons_succ, List.getElem?_cons_zero]; rfl) (by kernel_rfl) (by kernel_rfl) (by kernel_rfl) (by exact fun _ _ _ h => h) (Or.inl ⟨by rfl, ?_⟩) hS ?_
 rotate_left
 ·
  intro w' hS'
  unfold Held at hS'
  go_simp
  rfl
 (try simp only [Act.put, List.setIfInBounds_toArray, List.set_cons_zero, List.set_cons_succ])
 refine wpAnyH_take (i := 6) (v := ?_) (by simp only [List.getElem?_toArray, List.getElem?_cons_succ, List.getElem?_cons_zero]; rfl) (by kernel_rfl) (by kernel_rfl) (by kernel_rfl) (by exact fun _ _ _ h => h) (Or.inl ⟨by rfl, ?_⟩) hS ?_
 rotate_left
 ·
  intro w' hS'
  unfold Held at hS'
  go_simp
  rfl
 (try simp only [Act.put, List.setIfInBounds_toArray, List.set_cons_zero, List.set_cons_succ])
 refine wpAnyH_take (i := 7) (v := ?_) (by simp only [List.getElem?_toArray, List.getElem?_cons_succ, List.getElem?_cons_zero]; rfl) (by kernel_rfl) (by kernel_rfl) (by kernel_rfl) (by exact fun _ _ _ h => h) (Or.inl ⟨by rfl, ?_⟩) hS ?_
 rotate_left
 ·
  intro w' hS'
  unfold Held at hS'
  go_simp
  rfl
 (try simp only [Act.put, List.setIfInBounds_toArray, List.set_cons_zero, List.set_cons_succ])
 refine wpAnyH_take (i := 9) (v := ?_) (by simp only [List.getElem?_toArray, List.getElem?_cons_succ, List.getElem?_cons_zero]; rfl) (by kernel_rfl) (by kernel_rfl) (by kernel_rfl) (by exact fun _ _ _ h => h) (Or.inl ⟨by rfl, ?_⟩) hS ?_
 rotate_left
 ·
  intro w' hS'
  unfold Held at hS'
  go_simp
  rfl
 (try simp only [Act.put, List.setIfInBounds_toArray, List.set_cons_zero, List.set_cons_succ])
 refine wpAnyH_take (i := 10) (v := ?_) (by simp only [List.getElem?_toArray, List.getElem?_cons_succ, List.getElem?_cons_zero]; rfl) (by kernel_rfl) (by kernel_rfl) (by kernel_rfl) (by exact fun _ _ _ h => h) (Or.inl ⟨by rfl, ?_⟩) hS ?_
 rotate_left
 ·
  intro w' hS'
  unfold Held at hS'
  go_simp
  rfl
 (try simp only [Act.put, List.setIfInBounds_toArray, List.set_cons_zero, List.set_cons_succ])
 refine wpAnyH_take (i := 11) (v := ?_) (by simp only [List.getElem?_toArray, List.getElem?_cons_succ, List.getElem?_cons_zero]; rfl) (by kernel_rfl) (by kernel_rfl) (by kernel_rfl) (by exact fun _ _ _ h => h) (Or.inl ⟨by rfl, ?_⟩) hS ?_
 rotate_left
 ·
  intro w' hS'
  unfold Held at hS'
  go_simp
  rfl
 (try simp only [Act.put, List.setIfInBounds_toArray, List.set_cons_zero, List.set_cons_succ])
 refine wpAnyH_take (i := 13) (v := ?_) (by simp only [List.getElem?_toArray, List.getElem?_cons_succ, List.getElem?_cons_zero]; rfl) (by kernel_rfl) (by kernel_rfl) (by kernel_rfl) (by exact fun _ _ _ h => h) (Or.inl ⟨by rfl, ?_⟩) hS ?_
 rotate_left
 ·
  intro w' hS'
  unfold Held at hS'
  go_simp
  rfl
 (try simp only [Act.put, List.setIfInBounds_toArray, List.set_cons_zero, List.set_cons_succ])
 refine wpAnyH_take (i := 14) (v := ?_) (by simp only [List.getElem?_toArray, List.getElem?_cons_succ, List.getElem?_cons_zero]; rfl) (by kernel_rfl) (by kernel_rfl) (by kernel_rfl) (by exact fun _ _ _ h => h) (Or.inl ⟨by rfl, ?_⟩) hS ?_
 rotate_left
 ·
  intro w' hS'
  unfold Held at hS'
  go_simp
  rfl
 (try simp only [Act.put, List.setIfInBounds_toArray, List.set_cons_zero, List.set_cons_succ])
 refine wpAnyH_take (i := 15) (v := ?_) (by simp only [List.getElem?_toArray, List.getElem?_cons_succ, List.getElem?_cons_zero]; rfl) (by kernel_rfl) (by kernel_rfl) (by kernel_rfl) (by exact fun _ _ _ h => h) (Or.inl ⟨by rfl, ?_⟩) hS ?_
 rotate_left
 ·
  intro w' hS'
  unfold Held at hS'
  go_simp
  rfl
 (try simp only [Act.put, List.setIfInBounds_toArray, List.set_cons_zero, List.set_cons_succ])
 refine wpAnyH_take (i := 17) (v := ?_) (by simp only [List.getElem?_toArray, List.getElem?_cons_succ, List.getElem?_cons_zero]; rfl) (by kernel_rfl) (by kernel_rfl) (by kernel_rfl) (by exact fun _ _ _ h => h) (Or.inl ⟨by rfl, ?_⟩) hS ?_
 rotate_left
 ·
  intro w' hS'
  unfold Held at hS'
  go_simp
  rfl
 (try simp only [Act.put, List.setIfInBounds_toArray, List.set_cons_zero, List.set_cons_succ])
 refine wpAnyH_take (i := 18) (v := ?_) (by simp only [List.getElem?_toArray, List.getElem?_cons_succ, List.getElem?_cons_zero]; rfl) (by kernel_rfl) (by kernel_rfl) (by kernel_rfl) (by exact fun _ _ _ h => h) (Or.inl ⟨by rfl, ?_⟩) hS ?_
 rotate_left
 ·
  intro w' hS'
  unfold Held at hS'
  go_simp
  rfl
 (try simp only [Act.put, List.setIfInBounds_toArray, List.set_cons_zero, List.set_cons_succ])
 refine wpAnyH_take (i := 19) (v := ?_) (by simp only [List.getElem?_toArray, List.getElem?_cons_succ, List.getElem?_cons_zero]; rfl) (by kernel_rfl) (by kernel_rfl) (by kernel_rfl) (by exact fun _ _ _ h => h) (Or.inl ⟨by rfl, ?_⟩) hS ?_
 rotate_left
 ·
  intro w' hS'
  unfold Held at hS'
  go_simp
  rfl
 (try simp only [Act.put, List.setIfInBounds_toArray, List.set_cons_zero, List.set_cons_succ])
 refine wpAnyH_all (rs := [3]) (by kernel_rfl) (by simp) ?_
 intro i hi
 obtain rfl := List.mem_singleton.1 hi
 refine wpOp_step rfl (fun K hK => ?_)
 clear hi hS
 go_simp
 rw [show IntKind.u8.wrap 2 = 2 by decide]
 have hlit : (#[Value.int .u8 0, Value.int .u8 1, Value.int .u8 8, Value.int .u8 0, Value.int .u8 6, Value.int .u8 4, Value.int .u8 0, Value.int .u8 2] : Array Value) = (u8s [0, 1, 8, 0, 6, 4, 0, 2]).toArray := rfl
 rw [hlit]
 refine hK _ _ (wpAnyH_next (S2 := Held (fun w' => row w' w.heap.size = (.int .i64 2 :: (u8v mac ++ (u8v tgt ++ (u8v ip ++ u8v want)))).toArray ∧ row w' (w.heap.size + 1) = (u8s [0, 1, 8, 0, 6, 4, 0, 2]).toArray)) ?_ ?_ (fun hS => ?_))
 ·
  unfold Held
  simp [go_sem]
 ·
  intro w' hS'
  unfold Held at *
  simp at hS'
  simp [hS']
 clear hK K
 refine wpAnyH_take (i := 4) (v := ?_) (by simp only [List.getElem?_toArray, List.getElem?_cons_succ, List.getElem?_cons_zero]; rfl) (by kernel_rfl) (by kernel_rfl) (by kernel_rfl) (by exact fun _ _ _ h => h) (Or.inl ⟨by rfl, ?_⟩) hS ?_
 rotate_left
 ·
  intro w' hS'
  unfold Held at hS'
  go_simp
  rfl
 (try simp only [Act.put, List.setIfInBounds_toArray, List.set_cons_zero, List.set_cons_succ])
 refine wpAnyH_take (i := 8) (v := ?_) (by simp only [List.getElem?_toArray, List.getElem?_cons_succ, List.getElem?_cons_zero]; rfl) (by kernel_rfl) (by kernel_rfl) (by kernel_rfl) (by exact fun _ _ _ h => h) (Or.inl ⟨by rfl, ?_⟩) hS ?_
 rotate_left
 ·
  intro w' hS'
  unfold Held at hS'
  go_simp
  rfl
 (try simp only [Act.put, List.setIfInBounds_toArray, List.set_cons_zero, List.set_cons_succ])
 refine wpAnyH_take (i := 12) (v := ?_) (by simp only [List.getElem?_toArray, List.getElem?_cons_succ, List.getElem?_cons_zero]; rfl) (by kernel_rfl) (by kernel_rfl) (by kernel_rfl) (by exact fun _ _ _ h => h) (Or.inl ⟨by rfl, ?_⟩) hS ?_
 rotate_left
 ·
  intro w' hS'
  unfold Held at hS'
  go_simp
  rfl
 (try simp only [Act.put, List.setIfInBounds_toArray, List.set_cons_zero, List.set_cons_succ])
 refine wpAnyH_take (i := 16) (v := ?_) (by simp only [List.getElem?_toArray, List.getElem?_cons_succ, List.getElem?_cons_zero]; rfl) (by kernel_rfl) (by kernel_rfl) (by kernel_rfl) (by exact fun _ _ _ h => h) (Or.inl ⟨by rfl, ?_⟩) hS ?_
 rotate_left
 ·
  intro w' hS'
  unfold Held at hS'
  go_simp
  rfl
 (try simp only [Act.put, List.setIfInBounds_toArray, List.set_cons_zero, List.set_cons_succ])
 refine wpAnyH_take (i := 20) (v := ?_) (by simp only [List.getElem?_toArray, List.getElem?_cons_succ, List.getElem?_cons_zero]; rfl) (by kernel_rfl) (by kernel_rfl) (by kernel_rfl) (by exact fun _ _ _ h => h) (Or.inl ⟨by rfl, ?_⟩) hS ?_
 rotate_left
 ·
  intro w' hS'
  unfold Held at hS'
  go_simp
  rfl
 (try simp only [Act.put, List.setIfInBounds_toArray, List.set_cons_zero, List.set_cons_succ])
 refine wpAnyH_take (i := 21) (v := ?_) (by simp only [List.getElem?_toArray, List.getElem?_cons_succ, List.getElem?_cons_zero]; rfl) (by kernel_rfl) (by kernel_rfl) (by kernel_rfl) (by exact fun _ _ _ h => h) (Or.inl ⟨by rfl, ?_⟩) hS ?_
 rotate_left
 ·
  intro w' hS'
  unfold Held at hS'
  go_simp
  rfl
 (try simp only [Act.put, List.setIfInBounds_toArray, List.set_cons_zero, List.set_cons_succ])
 refine wpAnyH_done (by kernel_rfl) ?_ _
 go_wp2_with fail
 go_ret
 refine ⟨by simp [arpS, show bytesN 2 2 = [0, 2] from rfl], ?_⟩
 (repeat (first | exact Below.refl _ _ | refine Below.al ?_ _ | refine Below.drew ?_ | refine Below.sr ?_ _ | refine Below.sc ?_ _))
theorem parse_both (l : List UInt8) (hl2 : l.length ≤ 10000) : ∃ (op : Int) (mac tgt : Vector UInt8 6) (ip want : Vector UInt8 4) (er : Int),
  (∀ w, Calls Try.prog 43 #[.string ⟨l.toArray⟩] w fun e w' => e = .returned (.tuple #[.agg (arpV op mac tgt ip want).toArray, .int .i64 er]) ∧ Below w.heap.size w w') ∧
  (∀ w, Calls Try.prog 51 #[.string ⟨l.toArray⟩] w fun e w' => e = .returned (.tuple #[.agg (arpV op mac tgt ip want).toArray, .int .i64 er]) ∧ Below w.heap.size w w') := by
 by_cases hl : l.length < 28
 ·
  refine ⟨0, Vector.replicate 6 0, Vector.replicate 6 0, Vector.replicate 4 0, Vector.replicate 4 0, 2, ?_, ?_⟩
  rotate_left
  ·
   intro w
   rw [arpV_zero]
   exact refParse_short l w hl
  ·
   intro w
   rw [arpV_zero]
   exact parse_short l w hl
 ·
  have hl28 : 28 ≤ l.length := by omega
  match l, hl28, hl2 with
  | a0 :: a1 :: a2 :: a3 :: a4 :: a5 :: a6 :: a7 :: t, hl28, hl2 =>
  have hv : (vecAt (a0 :: a1 :: a2 :: a3 :: a4 :: a5 :: a6 :: a7 :: t) 0 6).toList = [a0, a1, a2, a3, a4, a5] := by rw [vecAt_toList _ _ _ (by omega)]; rfl
  have hw : (vecAt (a0 :: a1 :: a2 :: a3 :: a4 :: a5 :: a6 :: a7 :: t) 6 2).toList = [a6, a7] := by rw [vecAt_toList _ _ _ (by omega)]; rfl
  by_cases hh : [a0, a1, a2, a3, a4, a5] = [0, 1, 8, 0, 6, 4]
  ·
   by_cases h6 : a6 = 0
   ·
    have h7 : (a0 :: a1 :: a2 :: a3 :: a4 :: a5 :: a6 :: a7 :: t).take 7 = [0, 1, 8, 0, 6, 4, 0] := by
     simp at hh
     simp [hh, h6]
    have hn : numN [a6, a7] = a7.toNat := by simp [numN, h6]
    by_cases o1 : a7.toNat = 1
    ·
     exact ⟨1, _, _, _, _, 0, fun w => parse_op1 _ w hl28 hl2 (hv.trans hh) (by rw [hw, hn, o1]), fun w => refParse_op1 _ w hl28 hl2 h7 o1⟩
    ·
     by_cases o2 : a7.toNat = 2
     ·
      exact ⟨2, _, _, _, _, 0, fun w => parse_op2 _ w hl28 hl2 (hv.trans hh) (by rw [hw, hn, o2]), fun w => refParse_op2 _ w hl28 hl2 h7 o2⟩
     ·
      refine ⟨0, Vector.replicate 6 0, Vector.replicate 6 0, Vector.replicate 4 0, Vector.replicate 4 0, 3, ?_, ?_⟩
      rotate_left
      ·
       intro w
       rw [arpV_zero]
       exact refParse_opbad _ w hl28 hl2 h7 (by simp; omega) (by simp; omega)
      ·
       intro w
       rw [arpV_zero]
       exact parse_opbad _ a7.toNat w hl28 hl2 (hv.trans hh) (by rw [hw, hn]) (by simp; omega) (by simp; omega)
   ·
    have p6 : 0 < a6.toNat := by
     rcases Nat.eq_zero_or_pos a6.toNat with h | h
     ·
      exact absurd (UInt8.toNat_inj.1 h) h6
     ·
      exact h
    have hn : 256 ≤ numN [a6, a7] := by simp [numN]; omega
    refine ⟨0, Vector.replicate 6 0, Vector.replicate 6 0, Vector.replicate 4 0, Vector.replicate 4 0, 3, ?_, ?_⟩
    rotate_left
    ·
     intro w
     rw [arpV_zero]
     exact refParse_head _ w hl28 hl2 (by simp [h6])
    ·
     intro w
     rw [arpV_zero]
     exact parse_opbad _ (numN [a6, a7]) w hl28 hl2 (hv.trans hh) (by rw [hw]) (by simp; omega) (by simp; omega)
  ·
   refine ⟨0, Vector.replicate 6 0, Vector.replicate 6 0, Vector.replicate 4 0, Vector.replicate 4 0, 3, ?_, ?_⟩
   rotate_left
   ·
    intro w
    rw [arpV_zero]
    refine refParse_head _ w hl28 hl2 ?_
    simp at hh ⊢
    intro x0 x1 x2 x3 x4 x5
    exact absurd x5 (hh x0 x1 x2 x3 x4)
   ·
    intro w
    rw [arpV_zero]
    exact parse_head _ w hl28 hl2 (by rw [hv]; simpa using hh)
end Go.Proofs.Ytckckabedgpbiaa
