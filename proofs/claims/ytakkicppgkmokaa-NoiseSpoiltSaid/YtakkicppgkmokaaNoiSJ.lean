/- Contracts of package noise: the keys of a talk, split. -/
import Derived.Test.YtakkicppgkmokaaJ20
set_option linter.unusedSimpArgs false
set_option linter.unusedVariables false
set_option maxRecDepth 4000
namespace Go.Proofs.Ytakkicppgkmokaa
open Go.RowKit
attribute [local irreducible] shaK macL keysF keyN
set_option maxRecDepth 20000 in
set_option maxHeartbeats 1000000 in
theorem split_any (t : TalkT) (S : Nat) (w : World) (ht : t.ok) (hS : row w S = t.cells.toArray) :
    Calls Try.prog 21 #[.pointer (some ⟨S, 0, none⟩)] w fun e w' => e = .returned (.tuple #[.agg (u8s (keyN (macL t.c []) [] 1)).toArray, .agg (u8s (keyN (macL t.c []) [] 2)).toArray]) ∧ Below w.heap.size w w' := by
  have zS : S < w.heap.size := lt_of_row (i := 0) (by rw [hS]; simp [TalkT.cells_length ht])
  obtain ⟨w0, hw0⟩ : ∃ v, (w.alloc (.cells (zeros 32 (.int .u8 0)).toArray 23)).alloc (.cells (zeros 32 (.int .u8 0)).toArray 23) = v := ⟨_, rfl⟩
  have rS0 : row w0 S = t.cells.toArray := by rw [← hw0, row_alloc_past _ _ (by rw [alloc_sizeW]; omega), row_alloc_past _ _ (by omega)]; exact hS
  have z0 : w0.heap.size = w.heap.size + 1 + 1 := by rw [← hw0, alloc_sizeW, alloc_sizeW]
  have rA0 : row w0 w.heap.size = (zeros 32 (.int .u8 0)).toArray := by rw [← hw0, row_alloc_past _ _ (by rw [alloc_sizeW]; omega)]; exact row_alloc_at _ _ _ rfl
  have rB0 : row w0 (w.heap.size + 1) = (zeros 32 (.int .u8 0)).toArray := by rw [← hw0]; exact row_alloc_at _ _ _ (by rw [alloc_sizeW])
  have b0 : Below w.heap.size w w0 := by rw [← hw0]; exact Below.alloc (Below.alloc (Below.refl _ _) (by omega) _) (by rw [alloc_sizeW]; omega) _
  have HK := Lib.hid (tkeys_any t [] 2 S w0 ht (by simp) (by omega) rS0)
  rw [keysF_two] at HK
  have l1 := keyN_length (macL t.c []) [] 0
  have l2 := keyN_length (macL t.c []) [] 1
  simp only [Nat.zero_add, Nat.reduceAdd] at l1 l2
  obtain ⟨a, ha⟩ : ∃ a, keyN (macL t.c []) [] 1 = a := ⟨_, rfl⟩
  obtain ⟨b, hb⟩ : ∃ b, keyN (macL t.c []) [] 2 = b := ⟨_, rfl⟩
  rw [ha] at HK l1 ⊢
  rw [hb] at HK l2 ⊢
  clear ha hb ht
  go_enter Try.func21, Try.ntmps21
  go_wp2_with fail
  clear hw0
  refine (HK.out).mono ?_
  rintro e w1 ⟨v, B, rfl, hB, own, b1⟩
  obtain ⟨g, c, sp, rfl, hg, zg, rg⟩ := own.form (by omega)
  rw [u8s_append, List.append_assoc] at rg
  have z1 := b1.size
  have rA1 := (row_below b1 (by omega)).trans rA0
  have rB1 := (row_below b1 (by omega)).trans rB0
  have bb1 : Below w.heap.size w w1 := b0.trans (b1.mono (by omega))
  clear HK hS own rS0 rA0 rB0 b0 b1
  go_wp2_with fail
  have rA1d : row w1.drew w.heap.size = (zeros 32 (.int .u8 0)).toArray := rA1
  have q1 : 64 ≤ 32 + (32 + sp.length) := by omega
  have q2 : 32 + 32 ≤ 32 + (32 + sp.length) := by omega
  have zd : w1.drew.heap.size = w1.heap.size := rfl
  refine wp_region_beginR [(g, (u8s a ++ (u8s b ++ sp)).toArray)] rfl (by simp only [Rws]; (repeat (first | exact trivial | refine ⟨(by first | assumption | (simp [go_sem, *]; done)), (by first | omega | (simp; done) | (simp; omega)), ?_⟩))) (fun hS => ?_)
  refine wpAnyR_take (i := 0) (v := ?_) (by simp only [List.getElem?_toArray, List.getElem?_cons_succ, List.getElem?_cons_zero]; rfl) (by kernel_rfl) (by kernel_rfl) (by kernel_rfl) (by first | exact fun _ _ _ h => h | exact fun _ _ _ h => by cases h.1) (Rws.grow _) (Or.inl ⟨by rfl, ?_⟩) hS ?_
  rotate_left
  · intro w' hS'
    simp only [Rws] at hS'
    go_simp
    refine ⟨?_, Below.refl _ _⟩
    rfl
  (try simp only [Act.put, List.setIfInBounds_toArray, List.set_cons_zero, List.set_cons_succ])
  refine wpAnyR_take (i := 1) (v := ?_) (by simp only [List.getElem?_toArray, List.getElem?_cons_succ, List.getElem?_cons_zero]; rfl) (by kernel_rfl) (by kernel_rfl) (by kernel_rfl) (by first | exact fun _ _ _ h => h | exact fun _ _ _ h => by cases h.1) (Rws.grow _) (Or.inl ⟨by rfl, ?_⟩) hS ?_
  rotate_left
  · intro w' hS'
    simp only [Rws] at hS'
    go_simp
    refine ⟨?_, Below.refl _ _⟩
    rfl
  (try simp only [Act.put, List.setIfInBounds_toArray, List.set_cons_zero, List.set_cons_succ])
  refine wpAnyR_take (i := 2) (v := ?_) (by simp only [List.getElem?_toArray, List.getElem?_cons_succ, List.getElem?_cons_zero]; rfl) (by kernel_rfl) (by kernel_rfl) (by kernel_rfl) (by first | exact fun _ _ _ h => h | exact fun _ _ _ h => by cases h.1) (Rws.grow _) (Or.inl ⟨by rfl, ?_⟩) hS ?_
  rotate_left
  · intro w' hS'
    simp only [Rws] at hS'
    go_simp
    refine ⟨?_, Below.refl _ _⟩
    rfl
  (try simp only [Act.put, List.setIfInBounds_toArray, List.set_cons_zero, List.set_cons_succ])
  refine wpAnyR_take (i := 3) (v := ?_) (by simp only [List.getElem?_toArray, List.getElem?_cons_succ, List.getElem?_cons_zero]; rfl) (by kernel_rfl) (by kernel_rfl) (by kernel_rfl) (by first | exact fun _ _ _ h => h | exact fun _ _ _ h => by cases h.1) (Rws.grow _) (Or.inl ⟨by rfl, ?_⟩) hS ?_
  rotate_left
  · intro w' hS'
    simp only [Rws] at hS'
    go_simp
    refine ⟨?_, Below.refl _ _⟩
    rfl
  (try simp only [Act.put, List.setIfInBounds_toArray, List.set_cons_zero, List.set_cons_succ])
  refine wpAnyR_take (i := 4) (v := ?_) (by simp only [List.getElem?_toArray, List.getElem?_cons_succ, List.getElem?_cons_zero]; rfl) (by kernel_rfl) (by kernel_rfl) (by kernel_rfl) (by first | exact fun _ _ _ h => h | exact fun _ _ _ h => by cases h.1) (Rws.grow _) (Or.inl ⟨by rfl, ?_⟩) hS ?_
  rotate_left
  · intro w' hS'
    simp only [Rws] at hS'
    go_simp
    refine ⟨?_, Below.refl _ _⟩
    rfl
  (try simp only [Act.put, List.setIfInBounds_toArray, List.set_cons_zero, List.set_cons_succ])
  refine wpAnyR_take (i := 5) (v := ?_) (by simp only [List.getElem?_toArray, List.getElem?_cons_succ, List.getElem?_cons_zero]; rfl) (by kernel_rfl) (by kernel_rfl) (by kernel_rfl) (by first | exact fun _ _ _ h => h | exact fun _ _ _ h => by cases h.1) (Rws.grow _) (Or.inl ⟨by rfl, ?_⟩) hS ?_
  rotate_left
  · intro w' hS'
    simp only [Rws] at hS'
    go_simp
    refine ⟨?_, Below.refl _ _⟩
    rfl
  (try simp only [Act.put, List.setIfInBounds_toArray, List.set_cons_zero, List.set_cons_succ])
  refine wpAnyR_store (i := 6) (b := w.heap.size) (c := (u8s a).toArray) (by simp only [List.getElem?_toArray, List.getElem?_cons_succ, List.getElem?_cons_zero]; rfl) rfl rfl (by kernel_rfl) (by simp; (try omega)) hS (by rw [rA1d]; simp; (try omega)) (fun w1 hr => by rw [rA1d] at hr; go_simp; (try rfl)) (fun u1 hu1 ru1 hS => ?_)
  have zu1 := hu1.size
  have rB2 : row (u1.setRow w.heap.size (u8s a).toArray) (w.heap.size + 1) = (zeros 32 (.int .u8 0)).toArray := by
    rw [row_setRow_other _ _ _ (by omega), row_below hu1 (by omega)]
    exact rB1
  have rA2 : row (u1.setRow w.heap.size (u8s a).toArray) w.heap.size = (u8s a).toArray := row_setRow_same (by rw [ru1, rA1d]; simp) (by rw [ru1, rA1d]; simp [l1])
  have bb2 : Below w.heap.size w (u1.setRow w.heap.size (u8s a).toArray) := Below.setRow (Below.trans (Below.drew bb1) (hu1.mono (by omega))) (by omega) _
  obtain ⟨w2, hw2⟩ : ∃ v, u1.setRow w.heap.size (u8s a).toArray = v := ⟨_, rfl⟩
  have z2 : w2.heap.size = u1.heap.size := by rw [← hw2, setRow_size]
  rw [hw2] at hS rB2 rA2 bb2 ⊢
  clear hw2 ru1 hu1
  refine wpAnyR_store (i := 7) (b := w.heap.size + 1) (c := (u8s b).toArray) (by simp only [List.getElem?_toArray, List.getElem?_cons_succ, List.getElem?_cons_zero]; rfl) rfl rfl (by kernel_rfl) (by simp; (try omega)) hS (by rw [rB2]; simp; (try omega)) (fun w1 hr => by rw [rB2] at hr; go_simp; (try rfl)) (fun u3 hu3 ru3 hS => ?_)
  refine wpAnyR_done (by kernel_rfl) (fun wN hN => ?_) _
  have zu3 := hu3.size
  have rBN : row wN (w.heap.size + 1) = (u8s b).toArray := by
    rw [row_below hN (by rw [setRow_size]; omega)]
    exact row_setRow_same (by rw [ru3, rB2]; simp) (by rw [ru3, rB2]; simp [l2])
  have rAN : row wN w.heap.size = (u8s a).toArray := by
    rw [row_below hN (by rw [setRow_size]; omega), row_setRow_other _ _ _ (by omega), row_below hu3 (by omega)]
    exact rA2
  have bN : Below w.heap.size w wN := Below.trans (Below.setRow (Below.trans bb2 (hu3.mono (by omega))) (by omega) _) (hN.mono (by rw [setRow_size]; omega))
  clear hN hu3 ru3 hS
  go_wp2_with fail
  refine bodyPost_ret (results_2 rfl (resOk_row rfl ?_) (resOk_row rfl ?_)) rfl ?_
  · rw [rAN]
    simp [l1]
  · rw [rBN]
    simp [l2]
  · exact ⟨by rw [rAN, rBN], bN⟩
end Go.Proofs.Ytakkicppgkmokaa
