/- The walk of the law EtherTags. -/
import Derived.Test.YthnjkpecnaglhaaEthL
import Derived.Test.YthnjkpecnaglhaaJoin
set_option linter.unusedSimpArgs false
set_option linter.unusedVariables false
namespace Go.Proofs.Ythnjkpecnaglhaa
open Go.ChangeShapes Go.WideShapes Go.ChangeAt Go.RowKit
section
variable (dst src : Vector UInt8 6) (ty : Int) (body : List UInt8) (vlan prio : Int) (v p : Nat) (w : World)
theorem of08_u : Calls Try.prog 32 #[.agg (u8v dst ++ (u8v src ++ [Value.int .i64 ty, .string ⟨body.toArray⟩, .int .i64 vlan, .int .i64 prio])).toArray] w fun e w' => e = .returned (.agg (u8v dst ++ (u8v src ++ [Value.int .i64 ty, .string ⟨body.toArray⟩, .int .i64 vlan, .int .i64 prio])).toArray) ∧ Below w.heap.size w w' := of08_any dst src ty body vlan prio w
set_option maxHeartbeats 1000000 in
theorem etherTags_long (hl : ¬ body.length ≤ 2000) (hm : body.length ≤ maxLen) :
    Calls Try.prog 12 #[.agg (ethV dst src ty body vlan prio).toArray, .int .u16 v, .int .u8 p] w fun e W' => e = .returned (.bool true) ∧ Below w.heap.size w W' := by
  unfold maxLen at hm
  have hl1 : (2000 : Int) < body.length := by omega
  unfold ethV
  go_enter Try.func12, Try.ntmps12
  go_wp2_with fail
  refine (awake08_any _).mono ?_
  rintro e w1 ⟨rfl, hb1⟩
  have z1 := (hb1).size
  try simp at z1
  have ra : row w1 (w.heap.size) = (u8v dst ++ (u8v src ++ [Value.int .i64 ty, .string ⟨body.toArray⟩, .int .i64 vlan, .int .i64 prio])).toArray := by rw [row_below hb1 (by first | (simp; done) | (simp; omega) | omega)]; simp [go_sem]; (try rfl)
  replace hb1 := below_of hb1 (show Below (w).heap.size w _ from by (repeat (first | exact Below.refl _ _ | refine Below.alloc ?_ (by first | (simp; done) | (simp; omega) | omega) _ | refine Below.drew ?_ | refine Below.setRow ?_ (by first | (simp; done) | (simp; omega) | omega) _ | refine Below.setCell ?_ (by first | (simp; done) | (simp; omega) | omega) _))) (by first | (simp; done) | (simp; omega) | omega)
  go_wp2_with fail
  refine (awake08_any _).mono ?_
  rintro e w2 ⟨rfl, hb2⟩
  go_wp2_with fail
  go_ret
  refine ⟨rfl, ?_⟩
  refine Below.trans ?_ (Below.mono hb2 (by first | (simp; done) | (simp; omega) | omega))
  exact hb1
set_option maxRecDepth 20000 in
set_option maxHeartbeats 8000000 in
theorem etherTags_any (hl : body.length ≤ 2000) (hv : v ≤ 65535) (hp : p ≤ 255) :
    Calls Try.prog 12 #[.agg (ethV dst src ty body vlan prio).toArray, .int .u16 v, .int .u8 p] w fun e W' => e = .returned (.bool true) ∧ Below w.heap.size w W' := by
  have hl1 : ¬ (2000 : Int) < body.length := by omega
  unfold ethV
  go_enter Try.func12, Try.ntmps12
  go_wp2_with fail
  refine (awake08_any _).mono ?_
  rintro e w1 ⟨rfl, hb1⟩
  have z1 := (hb1).size
  try simp at z1
  have ra : row w1 (w.heap.size) = (u8v dst ++ (u8v src ++ [Value.int .i64 ty, .string ⟨body.toArray⟩, .int .i64 vlan, .int .i64 prio])).toArray := by rw [row_below hb1 (by first | (simp; done) | (simp; omega) | omega)]; simp [go_sem]; (try rfl)
  replace hb1 := below_of hb1 (show Below (w).heap.size w _ from by (repeat (first | exact Below.refl _ _ | refine Below.alloc ?_ (by first | (simp; done) | (simp; omega) | omega) _ | refine Below.drew ?_ | refine Below.setRow ?_ (by first | (simp; done) | (simp; omega) | omega) _ | refine Below.setCell ?_ (by first | (simp; done) | (simp; omega) | omega) _))) (by first | (simp; done) | (simp; omega) | omega)
  go_wp2_with fail
  have hj : True := trivial
  have hv : ∀ w', Held (fun w' => Below w1.heap.size w1 w') w' → row w' w.heap.size = (u8v dst ++ (u8v src ++ [Value.int .i64 ty, .string ⟨body.toArray⟩, .int .i64 vlan, .int .i64 prio])).toArray := fun w' h => by
    unfold Held at h
    exact (row_below h (by omega)).trans ra
  apply wp_join2 (F := fun A1 A2 u => A1 ≠ A2 ∧ (w1).heap.size ≤ A1 ∧ (w1).heap.size ≤ A2 ∧ A1 < u.heap.size ∧ A2 < u.heap.size ∧ row u A1 = (u8v dst ++ (u8v src ++ [Value.int .i64 ty, .string ⟨body.toArray⟩, .int .i64 vlan, .int .i64 prio])).toArray ∧ row u A2 = (u8v dst ++ (u8v src ++ [Value.int .i64 ty, .string ⟨body.toArray⟩, .int .i64 vlan, .int .i64 prio])).toArray ∧ Below (w1).heap.size (w1) u)
  · refine wp_region_beginS (S := Held (fun w' => Below (w1).heap.size (w1) w')) rfl ?_ (fun hS => ?_)
    · unfold Held
      exact Below.drew (Below.refl _ _)
    refine wpAnyH_take (i := 0) (v := ?_) (by simp only [List.getElem?_toArray, List.getElem?_cons_succ, List.getElem?_cons_zero]; rfl) (by kernel_rfl) (by kernel_rfl) (by kernel_rfl) (by first | exact fun _ _ _ h => h | exact fun _ _ _ h => by cases h.1) (Or.inl ⟨by rfl, ?_⟩) hS ?_
    rotate_left
    · intro w' hS'
      have hS2 := hv w' hS'
      clear hS'
      go_simp
      rfl
    (try simp only [Act.put, List.setIfInBounds_toArray, List.set_cons_zero, List.set_cons_succ])
    refine wpAnyH_take (i := 2) (v := ?_) (by simp only [List.getElem?_toArray, List.getElem?_cons_succ, List.getElem?_cons_zero]; rfl) (by kernel_rfl) (by kernel_rfl) (by kernel_rfl) (by first | exact fun _ _ _ h => h | exact fun _ _ _ h => by cases h.1) (Or.inl ⟨by rfl, ?_⟩) hS ?_
    rotate_left
    · intro w' hS'
      have hS2 := hv w' hS'
      clear hS'
      go_simp
      rfl
    (try simp only [Act.put, List.setIfInBounds_toArray, List.set_cons_zero, List.set_cons_succ])
    have hSW : Below (w1).heap.size (w1) (w1).drew := Below.drew (Below.refl _ _)
    obtain ⟨u0, hu0⟩ : ∃ u, (w1).drew = u := ⟨_, rfl⟩
    have zW : (w1).heap.size ≤ u0.heap.size := by rw [← hu0]; exact Nat.le_refl _
    rw [hu0] at hSW hS ⊢
    clear hu0
    refine wpAnyH_all (rs := [1, 4, 5]) (by kernel_rfl) (by simp) ?_
    intro i hi
    simp only [List.mem_cons, List.not_mem_nil, or_false] at hi
    rcases hi with rfl | rfl | rfl
    · refine wpOp_step rfl (fun K hK => ?_)
      clear hS
      go_simp
      refine (of08_u dst src ty body vlan prio _).mono ?_
      rintro e u1 ⟨rfl, Hu1⟩
      have zu1 := (Hu1).size
      replace hSW : Below (w1).heap.size (w1) u1 := Below.trans hSW (Below.mono Hu1 zW)
      replace zW : (w1).heap.size ≤ u1.heap.size := by omega
      refine hK _ _ (wpAnyH_same hSW (fun hS => ?_))
      clear hK K Hu1
      refine wpAnyH_all (rs := [3, 4, 5]) (by kernel_rfl) (by simp) ?_
      intro i hi
      simp only [List.mem_cons, List.not_mem_nil, or_false] at hi
      rcases hi with rfl | rfl | rfl
      · refine wpOp_step rfl (fun K hK => ?_)
        clear hS
        go_simp
        refine (of08_u dst src ty body vlan prio _).mono ?_
        rintro e u2 ⟨rfl, Hu2⟩
        have zu2 := (Hu2).size
        replace hSW : Below (w1).heap.size (w1) u2 := Below.trans hSW (Below.mono Hu2 zW)
        replace zW : (w1).heap.size ≤ u2.heap.size := by omega
        refine hK _ _ (wpAnyH_same hSW (fun hS => ?_))
        clear hK K Hu2
        refine wpAnyH_all (rs := [4, 5]) (by kernel_rfl) (by simp) ?_
        intro i hi
        simp only [List.mem_cons, List.not_mem_nil, or_false] at hi
        rcases hi with rfl | rfl
        · refine wpOp_step rfl (fun K hK => ?_)
          clear hS
          go_simp
          obtain ⟨A1, hA1⟩ : ∃ A, u2.heap.size = A := ⟨_, rfl⟩
          rw [hA1]
          obtain ⟨u3, hu3⟩ : ∃ U, u2.alloc (.cells (u8v mac0 ++ (u8v mac0 ++ [Value.int .i64 0, .string ⟨#[]⟩, .int .i64 0, .int .i64 0])).toArray 48) = U := ⟨_, rfl⟩
          rw [hu3]
          have rA1 : row u3 A1 = (u8v mac0 ++ (u8v mac0 ++ [Value.int .i64 0, .string ⟨#[]⟩, .int .i64 0, .int .i64 0])).toArray := by rw [← hu3]; exact row_alloc_at _ _ _ hA1.symm
          have su3 : u3.heap.size = u2.heap.size + 1 := by rw [← hu3]; simp
          have Hu3 : Below u2.heap.size u2 u3 := by rw [← hu3]; exact Below.alloc (Below.refl _ _) (Nat.le_refl _) _
          have zA1 : A1 < u3.heap.size := by omega
          have bA1 : (w1).heap.size ≤ A1 := by omega
          replace hSW : Below (w1).heap.size (w1) u3 := Below.trans hSW (Below.mono Hu3 zW)
          replace zW : (w1).heap.size ≤ u3.heap.size := by omega
          clear Hu3 hu3 su3 hA1
          refine hK _ _ (wpAnyH_same hSW (fun hS => ?_))
          clear hK K
          refine wpAnyH_all (rs := [5]) (by kernel_rfl) (by simp) ?_
          intro i hi
          obtain rfl := List.mem_singleton.1 hi
          refine wpOp_step rfl (fun K hK => ?_)
          clear hi hS
          go_simp
          obtain ⟨A2, hA2⟩ : ∃ A, u3.heap.size = A := ⟨_, rfl⟩
          rw [hA2]
          obtain ⟨u4, hu4⟩ : ∃ U, u3.alloc (.cells (u8v mac0 ++ (u8v mac0 ++ [Value.int .i64 0, .string ⟨#[]⟩, .int .i64 0, .int .i64 0])).toArray 48) = U := ⟨_, rfl⟩
          rw [hu4]
          have rA2 : row u4 A2 = (u8v mac0 ++ (u8v mac0 ++ [Value.int .i64 0, .string ⟨#[]⟩, .int .i64 0, .int .i64 0])).toArray := by rw [← hu4]; exact row_alloc_at _ _ _ hA2.symm
          have su4 : u4.heap.size = u3.heap.size + 1 := by rw [← hu4]; simp
          have Hu4 : Below u3.heap.size u3 u4 := by rw [← hu4]; exact Below.alloc (Below.refl _ _) (Nat.le_refl _) _
          have zA2 : A2 < u4.heap.size := by omega
          have d12 : A1 ≠ A2 := by omega
          replace rA1 := (row_below Hu4 zA1).trans rA1
          replace zA1 : A1 < u4.heap.size := by omega
          have bA2 : (w1).heap.size ≤ A2 := by omega
          replace hSW : Below (w1).heap.size (w1) u4 := Below.trans hSW (Below.mono Hu4 zW)
          replace zW : (w1).heap.size ≤ u4.heap.size := by omega
          clear Hu4 hu4 su4 hA2
          refine hK _ _ (wpAnyH_same hSW (fun hS => ?_))
          clear hK K
          refine wpAnyH_all (rs := [6]) (by kernel_rfl) (by simp) ?_
          intro i hi
          obtain rfl := List.mem_singleton.1 hi
          refine wpOp_step rfl (fun K hK => ?_)
          clear hi hS
          go_simp
          have rO := (row_setRow_other (w := u4) A1 A2 ((u8v dst ++ (u8v src ++ [Value.int .i64 ty, .string ⟨body.toArray⟩, .int .i64 vlan, .int .i64 prio])).toArray) (Ne.symm d12)).trans rA2
          replace hSW : Below (w1).heap.size (w1) (u4.setRow A1 ((u8v dst ++ (u8v src ++ [Value.int .i64 ty, .string ⟨body.toArray⟩, .int .i64 vlan, .int .i64 prio])).toArray)) := Below.setRow hSW bA1 _
          refine hK _ _ (wpAnyH_same hSW (fun hS => ?_))
          clear hK K
          refine wpAnyH_all (rs := [7]) (by kernel_rfl) (by simp) ?_
          intro i hi
          obtain rfl := List.mem_singleton.1 hi
          refine wpOp_step rfl (fun K hK => ?_)
          clear hi hS
          go_simp
          replace hSW : Below (w1).heap.size (w1) ((u4.setRow A1 ((u8v dst ++ (u8v src ++ [Value.int .i64 ty, .string ⟨body.toArray⟩, .int .i64 vlan, .int .i64 prio])).toArray)).setRow A2 ((u8v dst ++ (u8v src ++ [Value.int .i64 ty, .string ⟨body.toArray⟩, .int .i64 vlan, .int .i64 prio])).toArray)) := Below.setRow hSW bA2 _
          refine hK _ _ (wpAnyH_same hSW (fun hS => ?_))
          clear hK K
          refine wpAnyH_done (by kernel_rfl) ?_ _
          refine ⟨rfl, A1, A2, rfl, d12, bA1, bA2, by simpa using zA1, by simpa using zA2, ?_, ?_, hSW⟩
          · rw [row_setRow_other _ _ _ d12]
            exact row_setRow_same (by rw [rA1]; simp) (by rw [rA1]; simp [hj])
          · exact row_setRow_same (by rw [rO]; simp) (by rw [rO]; simp [hj])
        · refine wpOp_step rfl (fun K hK => ?_)
          clear hS
          go_simp
          obtain ⟨A2, hA2⟩ : ∃ A, u2.heap.size = A := ⟨_, rfl⟩
          rw [hA2]
          obtain ⟨u7, hu7⟩ : ∃ U, u2.alloc (.cells (u8v mac0 ++ (u8v mac0 ++ [Value.int .i64 0, .string ⟨#[]⟩, .int .i64 0, .int .i64 0])).toArray 48) = U := ⟨_, rfl⟩
          rw [hu7]
          have rA2 : row u7 A2 = (u8v mac0 ++ (u8v mac0 ++ [Value.int .i64 0, .string ⟨#[]⟩, .int .i64 0, .int .i64 0])).toArray := by rw [← hu7]; exact row_alloc_at _ _ _ hA2.symm
          have su7 : u7.heap.size = u2.heap.size + 1 := by rw [← hu7]; simp
          have Hu7 : Below u2.heap.size u2 u7 := by rw [← hu7]; exact Below.alloc (Below.refl _ _) (Nat.le_refl _) _
          have zA2 : A2 < u7.heap.size := by omega
          have bA2 : (w1).heap.size ≤ A2 := by omega
          replace hSW : Below (w1).heap.size (w1) u7 := Below.trans hSW (Below.mono Hu7 zW)
          replace zW : (w1).heap.size ≤ u7.heap.size := by omega
          clear Hu7 hu7 su7 hA2
          refine hK _ _ (wpAnyH_same hSW (fun hS => ?_))
          clear hK K
          refine wpAnyH_all (rs := [4]) (by kernel_rfl) (by simp) ?_
          intro i hi
          obtain rfl := List.mem_singleton.1 hi
          refine wpOp_step rfl (fun K hK => ?_)
          clear hi hS
          go_simp
          obtain ⟨A1, hA1⟩ : ∃ A, u7.heap.size = A := ⟨_, rfl⟩
          rw [hA1]
          obtain ⟨u8, hu8⟩ : ∃ U, u7.alloc (.cells (u8v mac0 ++ (u8v mac0 ++ [Value.int .i64 0, .string ⟨#[]⟩, .int .i64 0, .int .i64 0])).toArray 48) = U := ⟨_, rfl⟩
          rw [hu8]
          have rA1 : row u8 A1 = (u8v mac0 ++ (u8v mac0 ++ [Value.int .i64 0, .string ⟨#[]⟩, .int .i64 0, .int .i64 0])).toArray := by rw [← hu8]; exact row_alloc_at _ _ _ hA1.symm
          have su8 : u8.heap.size = u7.heap.size + 1 := by rw [← hu8]; simp
          have Hu8 : Below u7.heap.size u7 u8 := by rw [← hu8]; exact Below.alloc (Below.refl _ _) (Nat.le_refl _) _
          have zA1 : A1 < u8.heap.size := by omega
          have d12 : A1 ≠ A2 := by omega
          replace rA2 := (row_below Hu8 zA2).trans rA2
          replace zA2 : A2 < u8.heap.size := by omega
          have bA1 : (w1).heap.size ≤ A1 := by omega
          replace hSW : Below (w1).heap.size (w1) u8 := Below.trans hSW (Below.mono Hu8 zW)
          replace zW : (w1).heap.size ≤ u8.heap.size := by omega
          clear Hu8 hu8 su8 hA1
          refine hK _ _ (wpAnyH_same hSW (fun hS => ?_))
          clear hK K
          refine wpAnyH_all (rs := [6]) (by kernel_rfl) (by simp) ?_
          intro i hi
          obtain rfl := List.mem_singleton.1 hi
          refine wpOp_step rfl (fun K hK => ?_)
          clear hi hS
          go_simp
          have rO := (row_setRow_other (w := u8) A1 A2 ((u8v dst ++ (u8v src ++ [Value.int .i64 ty, .string ⟨body.toArray⟩, .int .i64 vlan, .int .i64 prio])).toArray) (Ne.symm d12)).trans rA2
          replace hSW : Below (w1).heap.size (w1) (u8.setRow A1 ((u8v dst ++ (u8v src ++ [Value.int .i64 ty, .string ⟨body.toArray⟩, .int .i64 vlan, .int .i64 prio])).toArray)) := Below.setRow hSW bA1 _
          refine hK _ _ (wpAnyH_same hSW (fun hS => ?_))
          clear hK K
          refine wpAnyH_all (rs := [7]) (by kernel_rfl) (by simp) ?_
          intro i hi
          obtain rfl := List.mem_singleton.1 hi
          refine wpOp_step rfl (fun K hK => ?_)
          clear hi hS
          go_simp
          replace hSW : Below (w1).heap.size (w1) ((u8.setRow A1 ((u8v dst ++ (u8v src ++ [Value.int .i64 ty, .string ⟨body.toArray⟩, .int .i64 vlan, .int .i64 prio])).toArray)).setRow A2 ((u8v dst ++ (u8v src ++ [Value.int .i64 ty, .string ⟨body.toArray⟩, .int .i64 vlan, .int .i64 prio])).toArray)) := Below.setRow hSW bA2 _
          refine hK _ _ (wpAnyH_same hSW (fun hS => ?_))
          clear hK K
          refine wpAnyH_done (by kernel_rfl) ?_ _
          refine ⟨rfl, A1, A2, rfl, d12, bA1, bA2, by simpa using zA1, by simpa using zA2, ?_, ?_, hSW⟩
          · rw [row_setRow_other _ _ _ d12]
            exact row_setRow_same (by rw [rA1]; simp) (by rw [rA1]; simp [hj])
          · exact row_setRow_same (by rw [rO]; simp) (by rw [rO]; simp [hj])
      · refine wpOp_step rfl (fun K hK => ?_)
        clear hS
        go_simp
        obtain ⟨A1, hA1⟩ : ∃ A, u1.heap.size = A := ⟨_, rfl⟩
        rw [hA1]
        obtain ⟨u11, hu11⟩ : ∃ U, u1.alloc (.cells (u8v mac0 ++ (u8v mac0 ++ [Value.int .i64 0, .string ⟨#[]⟩, .int .i64 0, .int .i64 0])).toArray 48) = U := ⟨_, rfl⟩
        rw [hu11]
        have rA1 : row u11 A1 = (u8v mac0 ++ (u8v mac0 ++ [Value.int .i64 0, .string ⟨#[]⟩, .int .i64 0, .int .i64 0])).toArray := by rw [← hu11]; exact row_alloc_at _ _ _ hA1.symm
        have su11 : u11.heap.size = u1.heap.size + 1 := by rw [← hu11]; simp
        have Hu11 : Below u1.heap.size u1 u11 := by rw [← hu11]; exact Below.alloc (Below.refl _ _) (Nat.le_refl _) _
        have zA1 : A1 < u11.heap.size := by omega
        have bA1 : (w1).heap.size ≤ A1 := by omega
        replace hSW : Below (w1).heap.size (w1) u11 := Below.trans hSW (Below.mono Hu11 zW)
        replace zW : (w1).heap.size ≤ u11.heap.size := by omega
        clear Hu11 hu11 su11 hA1
        refine hK _ _ (wpAnyH_same hSW (fun hS => ?_))
        clear hK K
        refine wpAnyH_all (rs := [3, 5]) (by kernel_rfl) (by simp) ?_
        intro i hi
        simp only [List.mem_cons, List.not_mem_nil, or_false] at hi
        rcases hi with rfl | rfl
        · refine wpOp_step rfl (fun K hK => ?_)
          clear hS
          go_simp
          refine (of08_u dst src ty body vlan prio _).mono ?_
          rintro e u12 ⟨rfl, Hu12⟩
          have zu12 := (Hu12).size
          replace hSW : Below (w1).heap.size (w1) u12 := Below.trans hSW (Below.mono Hu12 zW)
          replace rA1 := (row_below Hu12 zA1).trans rA1
          replace zA1 : A1 < u12.heap.size := by omega
          replace zW : (w1).heap.size ≤ u12.heap.size := by omega
          refine hK _ _ (wpAnyH_same hSW (fun hS => ?_))
          clear hK K Hu12
          refine wpAnyH_all (rs := [5]) (by kernel_rfl) (by simp) ?_
          intro i hi
          obtain rfl := List.mem_singleton.1 hi
          refine wpOp_step rfl (fun K hK => ?_)
          clear hi hS
          go_simp
          obtain ⟨A2, hA2⟩ : ∃ A, u12.heap.size = A := ⟨_, rfl⟩
          rw [hA2]
          obtain ⟨u13, hu13⟩ : ∃ U, u12.alloc (.cells (u8v mac0 ++ (u8v mac0 ++ [Value.int .i64 0, .string ⟨#[]⟩, .int .i64 0, .int .i64 0])).toArray 48) = U := ⟨_, rfl⟩
          rw [hu13]
          have rA2 : row u13 A2 = (u8v mac0 ++ (u8v mac0 ++ [Value.int .i64 0, .string ⟨#[]⟩, .int .i64 0, .int .i64 0])).toArray := by rw [← hu13]; exact row_alloc_at _ _ _ hA2.symm
          have su13 : u13.heap.size = u12.heap.size + 1 := by rw [← hu13]; simp
          have Hu13 : Below u12.heap.size u12 u13 := by rw [← hu13]; exact Below.alloc (Below.refl _ _) (Nat.le_refl _) _
          have zA2 : A2 < u13.heap.size := by omega
          have d12 : A1 ≠ A2 := by omega
          replace rA1 := (row_below Hu13 zA1).trans rA1
          replace zA1 : A1 < u13.heap.size := by omega
          have bA2 : (w1).heap.size ≤ A2 := by omega
          replace hSW : Below (w1).heap.size (w1) u13 := Below.trans hSW (Below.mono Hu13 zW)
          replace zW : (w1).heap.size ≤ u13.heap.size := by omega
          clear Hu13 hu13 su13 hA2
          refine hK _ _ (wpAnyH_same hSW (fun hS => ?_))
          clear hK K
          refine wpAnyH_all (rs := [6]) (by kernel_rfl) (by simp) ?_
          intro i hi
          obtain rfl := List.mem_singleton.1 hi
          refine wpOp_step rfl (fun K hK => ?_)
          clear hi hS
          go_simp
          have rO := (row_setRow_other (w := u13) A1 A2 ((u8v dst ++ (u8v src ++ [Value.int .i64 ty, .string ⟨body.toArray⟩, .int .i64 vlan, .int .i64 prio])).toArray) (Ne.symm d12)).trans rA2
          replace hSW : Below (w1).heap.size (w1) (u13.setRow A1 ((u8v dst ++ (u8v src ++ [Value.int .i64 ty, .string ⟨body.toArray⟩, .int .i64 vlan, .int .i64 prio])).toArray)) := Below.setRow hSW bA1 _
          refine hK _ _ (wpAnyH_same hSW (fun hS => ?_))
          clear hK K
          refine wpAnyH_all (rs := [7]) (by kernel_rfl) (by simp) ?_
          intro i hi
          obtain rfl := List.mem_singleton.1 hi
          refine wpOp_step rfl (fun K hK => ?_)
          clear hi hS
          go_simp
          replace hSW : Below (w1).heap.size (w1) ((u13.setRow A1 ((u8v dst ++ (u8v src ++ [Value.int .i64 ty, .string ⟨body.toArray⟩, .int .i64 vlan, .int .i64 prio])).toArray)).setRow A2 ((u8v dst ++ (u8v src ++ [Value.int .i64 ty, .string ⟨body.toArray⟩, .int .i64 vlan, .int .i64 prio])).toArray)) := Below.setRow hSW bA2 _
          refine hK _ _ (wpAnyH_same hSW (fun hS => ?_))
          clear hK K
          refine wpAnyH_done (by kernel_rfl) ?_ _
          refine ⟨rfl, A1, A2, rfl, d12, bA1, bA2, by simpa using zA1, by simpa using zA2, ?_, ?_, hSW⟩
          · rw [row_setRow_other _ _ _ d12]
            exact row_setRow_same (by rw [rA1]; simp) (by rw [rA1]; simp [hj])
          · exact row_setRow_same (by rw [rO]; simp) (by rw [rO]; simp [hj])
        · refine wpOp_step rfl (fun K hK => ?_)
          clear hS
          go_simp
          obtain ⟨A2, hA2⟩ : ∃ A, u11.heap.size = A := ⟨_, rfl⟩
          rw [hA2]
          obtain ⟨u16, hu16⟩ : ∃ U, u11.alloc (.cells (u8v mac0 ++ (u8v mac0 ++ [Value.int .i64 0, .string ⟨#[]⟩, .int .i64 0, .int .i64 0])).toArray 48) = U := ⟨_, rfl⟩
          rw [hu16]
          have rA2 : row u16 A2 = (u8v mac0 ++ (u8v mac0 ++ [Value.int .i64 0, .string ⟨#[]⟩, .int .i64 0, .int .i64 0])).toArray := by rw [← hu16]; exact row_alloc_at _ _ _ hA2.symm
          have su16 : u16.heap.size = u11.heap.size + 1 := by rw [← hu16]; simp
          have Hu16 : Below u11.heap.size u11 u16 := by rw [← hu16]; exact Below.alloc (Below.refl _ _) (Nat.le_refl _) _
          have zA2 : A2 < u16.heap.size := by omega
          have d12 : A1 ≠ A2 := by omega
          replace rA1 := (row_below Hu16 zA1).trans rA1
          replace zA1 : A1 < u16.heap.size := by omega
          have bA2 : (w1).heap.size ≤ A2 := by omega
          replace hSW : Below (w1).heap.size (w1) u16 := Below.trans hSW (Below.mono Hu16 zW)
          replace zW : (w1).heap.size ≤ u16.heap.size := by omega
          clear Hu16 hu16 su16 hA2
          refine hK _ _ (wpAnyH_same hSW (fun hS => ?_))
          clear hK K
          refine wpAnyH_all (rs := [3]) (by kernel_rfl) (by simp) ?_
          intro i hi
          obtain rfl := List.mem_singleton.1 hi
          refine wpOp_step rfl (fun K hK => ?_)
          clear hi hS
          go_simp
          refine (of08_u dst src ty body vlan prio _).mono ?_
          rintro e u17 ⟨rfl, Hu17⟩
          have zu17 := (Hu17).size
          replace hSW : Below (w1).heap.size (w1) u17 := Below.trans hSW (Below.mono Hu17 zW)
          replace rA1 := (row_below Hu17 zA1).trans rA1
          replace zA1 : A1 < u17.heap.size := by omega
          replace rA2 := (row_below Hu17 zA2).trans rA2
          replace zA2 : A2 < u17.heap.size := by omega
          replace zW : (w1).heap.size ≤ u17.heap.size := by omega
          refine hK _ _ (wpAnyH_same hSW (fun hS => ?_))
          clear hK K Hu17
          refine wpAnyH_all (rs := [6]) (by kernel_rfl) (by simp) ?_
          intro i hi
          obtain rfl := List.mem_singleton.1 hi
          refine wpOp_step rfl (fun K hK => ?_)
          clear hi hS
          go_simp
          have rO := (row_setRow_other (w := u17) A1 A2 ((u8v dst ++ (u8v src ++ [Value.int .i64 ty, .string ⟨body.toArray⟩, .int .i64 vlan, .int .i64 prio])).toArray) (Ne.symm d12)).trans rA2
          replace hSW : Below (w1).heap.size (w1) (u17.setRow A1 ((u8v dst ++ (u8v src ++ [Value.int .i64 ty, .string ⟨body.toArray⟩, .int .i64 vlan, .int .i64 prio])).toArray)) := Below.setRow hSW bA1 _
          refine hK _ _ (wpAnyH_same hSW (fun hS => ?_))
          clear hK K
          refine wpAnyH_all (rs := [7]) (by kernel_rfl) (by simp) ?_
          intro i hi
          obtain rfl := List.mem_singleton.1 hi
          refine wpOp_step rfl (fun K hK => ?_)
          clear hi hS
          go_simp
          replace hSW : Below (w1).heap.size (w1) ((u17.setRow A1 ((u8v dst ++ (u8v src ++ [Value.int .i64 ty, .string ⟨body.toArray⟩, .int .i64 vlan, .int .i64 prio])).toArray)).setRow A2 ((u8v dst ++ (u8v src ++ [Value.int .i64 ty, .string ⟨body.toArray⟩, .int .i64 vlan, .int .i64 prio])).toArray)) := Below.setRow hSW bA2 _
          refine hK _ _ (wpAnyH_same hSW (fun hS => ?_))
          clear hK K
          refine wpAnyH_done (by kernel_rfl) ?_ _
          refine ⟨rfl, A1, A2, rfl, d12, bA1, bA2, by simpa using zA1, by simpa using zA2, ?_, ?_, hSW⟩
          · rw [row_setRow_other _ _ _ d12]
            exact row_setRow_same (by rw [rA1]; simp) (by rw [rA1]; simp [hj])
          · exact row_setRow_same (by rw [rO]; simp) (by rw [rO]; simp [hj])
      · refine wpOp_step rfl (fun K hK => ?_)
        clear hS
        go_simp
        obtain ⟨A2, hA2⟩ : ∃ A, u1.heap.size = A := ⟨_, rfl⟩
        rw [hA2]
        obtain ⟨u20, hu20⟩ : ∃ U, u1.alloc (.cells (u8v mac0 ++ (u8v mac0 ++ [Value.int .i64 0, .string ⟨#[]⟩, .int .i64 0, .int .i64 0])).toArray 48) = U := ⟨_, rfl⟩
        rw [hu20]
        have rA2 : row u20 A2 = (u8v mac0 ++ (u8v mac0 ++ [Value.int .i64 0, .string ⟨#[]⟩, .int .i64 0, .int .i64 0])).toArray := by rw [← hu20]; exact row_alloc_at _ _ _ hA2.symm
        have su20 : u20.heap.size = u1.heap.size + 1 := by rw [← hu20]; simp
        have Hu20 : Below u1.heap.size u1 u20 := by rw [← hu20]; exact Below.alloc (Below.refl _ _) (Nat.le_refl _) _
        have zA2 : A2 < u20.heap.size := by omega
        have bA2 : (w1).heap.size ≤ A2 := by omega
        replace hSW : Below (w1).heap.size (w1) u20 := Below.trans hSW (Below.mono Hu20 zW)
        replace zW : (w1).heap.size ≤ u20.heap.size := by omega
        clear Hu20 hu20 su20 hA2
        refine hK _ _ (wpAnyH_same hSW (fun hS => ?_))
        clear hK K
        refine wpAnyH_all (rs := [3, 4]) (by kernel_rfl) (by simp) ?_
        intro i hi
        simp only [List.mem_cons, List.not_mem_nil, or_false] at hi
        rcases hi with rfl | rfl
        · refine wpOp_step rfl (fun K hK => ?_)
          clear hS
          go_simp
          refine (of08_u dst src ty body vlan prio _).mono ?_
          rintro e u21 ⟨rfl, Hu21⟩
          have zu21 := (Hu21).size
          replace hSW : Below (w1).heap.size (w1) u21 := Below.trans hSW (Below.mono Hu21 zW)
          replace rA2 := (row_below Hu21 zA2).trans rA2
          replace zA2 : A2 < u21.heap.size := by omega
          replace zW : (w1).heap.size ≤ u21.heap.size := by omega
          refine hK _ _ (wpAnyH_same hSW (fun hS => ?_))
          clear hK K Hu21
          refine wpAnyH_all (rs := [4]) (by kernel_rfl) (by simp) ?_
          intro i hi
          obtain rfl := List.mem_singleton.1 hi
          refine wpOp_step rfl (fun K hK => ?_)
          clear hi hS
          go_simp
          obtain ⟨A1, hA1⟩ : ∃ A, u21.heap.size = A := ⟨_, rfl⟩
          rw [hA1]
          obtain ⟨u22, hu22⟩ : ∃ U, u21.alloc (.cells (u8v mac0 ++ (u8v mac0 ++ [Value.int .i64 0, .string ⟨#[]⟩, .int .i64 0, .int .i64 0])).toArray 48) = U := ⟨_, rfl⟩
          rw [hu22]
          have rA1 : row u22 A1 = (u8v mac0 ++ (u8v mac0 ++ [Value.int .i64 0, .string ⟨#[]⟩, .int .i64 0, .int .i64 0])).toArray := by rw [← hu22]; exact row_alloc_at _ _ _ hA1.symm
          have su22 : u22.heap.size = u21.heap.size + 1 := by rw [← hu22]; simp
          have Hu22 : Below u21.heap.size u21 u22 := by rw [← hu22]; exact Below.alloc (Below.refl _ _) (Nat.le_refl _) _
          have zA1 : A1 < u22.heap.size := by omega
          have d12 : A1 ≠ A2 := by omega
          replace rA2 := (row_below Hu22 zA2).trans rA2
          replace zA2 : A2 < u22.heap.size := by omega
          have bA1 : (w1).heap.size ≤ A1 := by omega
          replace hSW : Below (w1).heap.size (w1) u22 := Below.trans hSW (Below.mono Hu22 zW)
          replace zW : (w1).heap.size ≤ u22.heap.size := by omega
          clear Hu22 hu22 su22 hA1
          refine hK _ _ (wpAnyH_same hSW (fun hS => ?_))
          clear hK K
          refine wpAnyH_all (rs := [6]) (by kernel_rfl) (by simp) ?_
          intro i hi
          obtain rfl := List.mem_singleton.1 hi
          refine wpOp_step rfl (fun K hK => ?_)
          clear hi hS
          go_simp
          have rO := (row_setRow_other (w := u22) A1 A2 ((u8v dst ++ (u8v src ++ [Value.int .i64 ty, .string ⟨body.toArray⟩, .int .i64 vlan, .int .i64 prio])).toArray) (Ne.symm d12)).trans rA2
          replace hSW : Below (w1).heap.size (w1) (u22.setRow A1 ((u8v dst ++ (u8v src ++ [Value.int .i64 ty, .string ⟨body.toArray⟩, .int .i64 vlan, .int .i64 prio])).toArray)) := Below.setRow hSW bA1 _
          refine hK _ _ (wpAnyH_same hSW (fun hS => ?_))
          clear hK K
          refine wpAnyH_all (rs := [7]) (by kernel_rfl) (by simp) ?_
          intro i hi
          obtain rfl := List.mem_singleton.1 hi
          refine wpOp_step rfl (fun K hK => ?_)
          clear hi hS
          go_simp
          replace hSW : Below (w1).heap.size (w1) ((u22.setRow A1 ((u8v dst ++ (u8v src ++ [Value.int .i64 ty, .string ⟨body.toArray⟩, .int .i64 vlan, .int .i64 prio])).toArray)).setRow A2 ((u8v dst ++ (u8v src ++ [Value.int .i64 ty, .string ⟨body.toArray⟩, .int .i64 vlan, .int .i64 prio])).toArray)) := Below.setRow hSW bA2 _
          refine hK _ _ (wpAnyH_same hSW (fun hS => ?_))
          clear hK K
          refine wpAnyH_done (by kernel_rfl) ?_ _
          refine ⟨rfl, A1, A2, rfl, d12, bA1, bA2, by simpa using zA1, by simpa using zA2, ?_, ?_, hSW⟩
          · rw [row_setRow_other _ _ _ d12]
            exact row_setRow_same (by rw [rA1]; simp) (by rw [rA1]; simp [hj])
          · exact row_setRow_same (by rw [rO]; simp) (by rw [rO]; simp [hj])
        · refine wpOp_step rfl (fun K hK => ?_)
          clear hS
          go_simp
          obtain ⟨A1, hA1⟩ : ∃ A, u20.heap.size = A := ⟨_, rfl⟩
          rw [hA1]
          obtain ⟨u25, hu25⟩ : ∃ U, u20.alloc (.cells (u8v mac0 ++ (u8v mac0 ++ [Value.int .i64 0, .string ⟨#[]⟩, .int .i64 0, .int .i64 0])).toArray 48) = U := ⟨_, rfl⟩
          rw [hu25]
          have rA1 : row u25 A1 = (u8v mac0 ++ (u8v mac0 ++ [Value.int .i64 0, .string ⟨#[]⟩, .int .i64 0, .int .i64 0])).toArray := by rw [← hu25]; exact row_alloc_at _ _ _ hA1.symm
          have su25 : u25.heap.size = u20.heap.size + 1 := by rw [← hu25]; simp
          have Hu25 : Below u20.heap.size u20 u25 := by rw [← hu25]; exact Below.alloc (Below.refl _ _) (Nat.le_refl _) _
          have zA1 : A1 < u25.heap.size := by omega
          have d12 : A1 ≠ A2 := by omega
          replace rA2 := (row_below Hu25 zA2).trans rA2
          replace zA2 : A2 < u25.heap.size := by omega
          have bA1 : (w1).heap.size ≤ A1 := by omega
          replace hSW : Below (w1).heap.size (w1) u25 := Below.trans hSW (Below.mono Hu25 zW)
          replace zW : (w1).heap.size ≤ u25.heap.size := by omega
          clear Hu25 hu25 su25 hA1
          refine hK _ _ (wpAnyH_same hSW (fun hS => ?_))
          clear hK K
          refine wpAnyH_all (rs := [3]) (by kernel_rfl) (by simp) ?_
          intro i hi
          obtain rfl := List.mem_singleton.1 hi
          refine wpOp_step rfl (fun K hK => ?_)
          clear hi hS
          go_simp
          refine (of08_u dst src ty body vlan prio _).mono ?_
          rintro e u26 ⟨rfl, Hu26⟩
          have zu26 := (Hu26).size
          replace hSW : Below (w1).heap.size (w1) u26 := Below.trans hSW (Below.mono Hu26 zW)
          replace rA2 := (row_below Hu26 zA2).trans rA2
          replace zA2 : A2 < u26.heap.size := by omega
          replace rA1 := (row_below Hu26 zA1).trans rA1
          replace zA1 : A1 < u26.heap.size := by omega
          replace zW : (w1).heap.size ≤ u26.heap.size := by omega
          refine hK _ _ (wpAnyH_same hSW (fun hS => ?_))
          clear hK K Hu26
          refine wpAnyH_all (rs := [6]) (by kernel_rfl) (by simp) ?_
          intro i hi
          obtain rfl := List.mem_singleton.1 hi
          refine wpOp_step rfl (fun K hK => ?_)
          clear hi hS
          go_simp
          have rO := (row_setRow_other (w := u26) A1 A2 ((u8v dst ++ (u8v src ++ [Value.int .i64 ty, .string ⟨body.toArray⟩, .int .i64 vlan, .int .i64 prio])).toArray) (Ne.symm d12)).trans rA2
          replace hSW : Below (w1).heap.size (w1) (u26.setRow A1 ((u8v dst ++ (u8v src ++ [Value.int .i64 ty, .string ⟨body.toArray⟩, .int .i64 vlan, .int .i64 prio])).toArray)) := Below.setRow hSW bA1 _
          refine hK _ _ (wpAnyH_same hSW (fun hS => ?_))
          clear hK K
          refine wpAnyH_all (rs := [7]) (by kernel_rfl) (by simp) ?_
          intro i hi
          obtain rfl := List.mem_singleton.1 hi
          refine wpOp_step rfl (fun K hK => ?_)
          clear hi hS
          go_simp
          replace hSW : Below (w1).heap.size (w1) ((u26.setRow A1 ((u8v dst ++ (u8v src ++ [Value.int .i64 ty, .string ⟨body.toArray⟩, .int .i64 vlan, .int .i64 prio])).toArray)).setRow A2 ((u8v dst ++ (u8v src ++ [Value.int .i64 ty, .string ⟨body.toArray⟩, .int .i64 vlan, .int .i64 prio])).toArray)) := Below.setRow hSW bA2 _
          refine hK _ _ (wpAnyH_same hSW (fun hS => ?_))
          clear hK K
          refine wpAnyH_done (by kernel_rfl) ?_ _
          refine ⟨rfl, A1, A2, rfl, d12, bA1, bA2, by simpa using zA1, by simpa using zA2, ?_, ?_, hSW⟩
          · rw [row_setRow_other _ _ _ d12]
            exact row_setRow_same (by rw [rA1]; simp) (by rw [rA1]; simp [hj])
          · exact row_setRow_same (by rw [rO]; simp) (by rw [rO]; simp [hj])
    · refine wpOp_step rfl (fun K hK => ?_)
      clear hS
      go_simp
      obtain ⟨A1, hA1⟩ : ∃ A, u0.heap.size = A := ⟨_, rfl⟩
      rw [hA1]
      obtain ⟨u29, hu29⟩ : ∃ U, u0.alloc (.cells (u8v mac0 ++ (u8v mac0 ++ [Value.int .i64 0, .string ⟨#[]⟩, .int .i64 0, .int .i64 0])).toArray 48) = U := ⟨_, rfl⟩
      rw [hu29]
      have rA1 : row u29 A1 = (u8v mac0 ++ (u8v mac0 ++ [Value.int .i64 0, .string ⟨#[]⟩, .int .i64 0, .int .i64 0])).toArray := by rw [← hu29]; exact row_alloc_at _ _ _ hA1.symm
      have su29 : u29.heap.size = u0.heap.size + 1 := by rw [← hu29]; simp
      have Hu29 : Below u0.heap.size u0 u29 := by rw [← hu29]; exact Below.alloc (Below.refl _ _) (Nat.le_refl _) _
      have zA1 : A1 < u29.heap.size := by omega
      have bA1 : (w1).heap.size ≤ A1 := by omega
      replace hSW : Below (w1).heap.size (w1) u29 := Below.trans hSW (Below.mono Hu29 zW)
      replace zW : (w1).heap.size ≤ u29.heap.size := by omega
      clear Hu29 hu29 su29 hA1
      refine hK _ _ (wpAnyH_same hSW (fun hS => ?_))
      clear hK K
      refine wpAnyH_all (rs := [1, 5]) (by kernel_rfl) (by simp) ?_
      intro i hi
      simp only [List.mem_cons, List.not_mem_nil, or_false] at hi
      rcases hi with rfl | rfl
      · refine wpOp_step rfl (fun K hK => ?_)
        clear hS
        go_simp
        refine (of08_u dst src ty body vlan prio _).mono ?_
        rintro e u30 ⟨rfl, Hu30⟩
        have zu30 := (Hu30).size
        replace hSW : Below (w1).heap.size (w1) u30 := Below.trans hSW (Below.mono Hu30 zW)
        replace rA1 := (row_below Hu30 zA1).trans rA1
        replace zA1 : A1 < u30.heap.size := by omega
        replace zW : (w1).heap.size ≤ u30.heap.size := by omega
        refine hK _ _ (wpAnyH_same hSW (fun hS => ?_))
        clear hK K Hu30
        refine wpAnyH_all (rs := [3, 5]) (by kernel_rfl) (by simp) ?_
        intro i hi
        simp only [List.mem_cons, List.not_mem_nil, or_false] at hi
        rcases hi with rfl | rfl
        · refine wpOp_step rfl (fun K hK => ?_)
          clear hS
          go_simp
          refine (of08_u dst src ty body vlan prio _).mono ?_
          rintro e u31 ⟨rfl, Hu31⟩
          have zu31 := (Hu31).size
          replace hSW : Below (w1).heap.size (w1) u31 := Below.trans hSW (Below.mono Hu31 zW)
          replace rA1 := (row_below Hu31 zA1).trans rA1
          replace zA1 : A1 < u31.heap.size := by omega
          replace zW : (w1).heap.size ≤ u31.heap.size := by omega
          refine hK _ _ (wpAnyH_same hSW (fun hS => ?_))
          clear hK K Hu31
          refine wpAnyH_all (rs := [5]) (by kernel_rfl) (by simp) ?_
          intro i hi
          obtain rfl := List.mem_singleton.1 hi
          refine wpOp_step rfl (fun K hK => ?_)
          clear hi hS
          go_simp
          obtain ⟨A2, hA2⟩ : ∃ A, u31.heap.size = A := ⟨_, rfl⟩
          rw [hA2]
          obtain ⟨u32, hu32⟩ : ∃ U, u31.alloc (.cells (u8v mac0 ++ (u8v mac0 ++ [Value.int .i64 0, .string ⟨#[]⟩, .int .i64 0, .int .i64 0])).toArray 48) = U := ⟨_, rfl⟩
          rw [hu32]
          have rA2 : row u32 A2 = (u8v mac0 ++ (u8v mac0 ++ [Value.int .i64 0, .string ⟨#[]⟩, .int .i64 0, .int .i64 0])).toArray := by rw [← hu32]; exact row_alloc_at _ _ _ hA2.symm
          have su32 : u32.heap.size = u31.heap.size + 1 := by rw [← hu32]; simp
          have Hu32 : Below u31.heap.size u31 u32 := by rw [← hu32]; exact Below.alloc (Below.refl _ _) (Nat.le_refl _) _
          have zA2 : A2 < u32.heap.size := by omega
          have d12 : A1 ≠ A2 := by omega
          replace rA1 := (row_below Hu32 zA1).trans rA1
          replace zA1 : A1 < u32.heap.size := by omega
          have bA2 : (w1).heap.size ≤ A2 := by omega
          replace hSW : Below (w1).heap.size (w1) u32 := Below.trans hSW (Below.mono Hu32 zW)
          replace zW : (w1).heap.size ≤ u32.heap.size := by omega
          clear Hu32 hu32 su32 hA2
          refine hK _ _ (wpAnyH_same hSW (fun hS => ?_))
          clear hK K
          refine wpAnyH_all (rs := [6]) (by kernel_rfl) (by simp) ?_
          intro i hi
          obtain rfl := List.mem_singleton.1 hi
          refine wpOp_step rfl (fun K hK => ?_)
          clear hi hS
          go_simp
          have rO := (row_setRow_other (w := u32) A1 A2 ((u8v dst ++ (u8v src ++ [Value.int .i64 ty, .string ⟨body.toArray⟩, .int .i64 vlan, .int .i64 prio])).toArray) (Ne.symm d12)).trans rA2
          replace hSW : Below (w1).heap.size (w1) (u32.setRow A1 ((u8v dst ++ (u8v src ++ [Value.int .i64 ty, .string ⟨body.toArray⟩, .int .i64 vlan, .int .i64 prio])).toArray)) := Below.setRow hSW bA1 _
          refine hK _ _ (wpAnyH_same hSW (fun hS => ?_))
          clear hK K
          refine wpAnyH_all (rs := [7]) (by kernel_rfl) (by simp) ?_
          intro i hi
          obtain rfl := List.mem_singleton.1 hi
          refine wpOp_step rfl (fun K hK => ?_)
          clear hi hS
          go_simp
          replace hSW : Below (w1).heap.size (w1) ((u32.setRow A1 ((u8v dst ++ (u8v src ++ [Value.int .i64 ty, .string ⟨body.toArray⟩, .int .i64 vlan, .int .i64 prio])).toArray)).setRow A2 ((u8v dst ++ (u8v src ++ [Value.int .i64 ty, .string ⟨body.toArray⟩, .int .i64 vlan, .int .i64 prio])).toArray)) := Below.setRow hSW bA2 _
          refine hK _ _ (wpAnyH_same hSW (fun hS => ?_))
          clear hK K
          refine wpAnyH_done (by kernel_rfl) ?_ _
          refine ⟨rfl, A1, A2, rfl, d12, bA1, bA2, by simpa using zA1, by simpa using zA2, ?_, ?_, hSW⟩
          · rw [row_setRow_other _ _ _ d12]
            exact row_setRow_same (by rw [rA1]; simp) (by rw [rA1]; simp [hj])
          · exact row_setRow_same (by rw [rO]; simp) (by rw [rO]; simp [hj])
        · refine wpOp_step rfl (fun K hK => ?_)
          clear hS
          go_simp
          obtain ⟨A2, hA2⟩ : ∃ A, u30.heap.size = A := ⟨_, rfl⟩
          rw [hA2]
          obtain ⟨u35, hu35⟩ : ∃ U, u30.alloc (.cells (u8v mac0 ++ (u8v mac0 ++ [Value.int .i64 0, .string ⟨#[]⟩, .int .i64 0, .int .i64 0])).toArray 48) = U := ⟨_, rfl⟩
          rw [hu35]
          have rA2 : row u35 A2 = (u8v mac0 ++ (u8v mac0 ++ [Value.int .i64 0, .string ⟨#[]⟩, .int .i64 0, .int .i64 0])).toArray := by rw [← hu35]; exact row_alloc_at _ _ _ hA2.symm
          have su35 : u35.heap.size = u30.heap.size + 1 := by rw [← hu35]; simp
          have Hu35 : Below u30.heap.size u30 u35 := by rw [← hu35]; exact Below.alloc (Below.refl _ _) (Nat.le_refl _) _
          have zA2 : A2 < u35.heap.size := by omega
          have d12 : A1 ≠ A2 := by omega
          replace rA1 := (row_below Hu35 zA1).trans rA1
          replace zA1 : A1 < u35.heap.size := by omega
          have bA2 : (w1).heap.size ≤ A2 := by omega
          replace hSW : Below (w1).heap.size (w1) u35 := Below.trans hSW (Below.mono Hu35 zW)
          replace zW : (w1).heap.size ≤ u35.heap.size := by omega
          clear Hu35 hu35 su35 hA2
          refine hK _ _ (wpAnyH_same hSW (fun hS => ?_))
          clear hK K
          refine wpAnyH_all (rs := [3]) (by kernel_rfl) (by simp) ?_
          intro i hi
          obtain rfl := List.mem_singleton.1 hi
          refine wpOp_step rfl (fun K hK => ?_)
          clear hi hS
          go_simp
          refine (of08_u dst src ty body vlan prio _).mono ?_
          rintro e u36 ⟨rfl, Hu36⟩
          have zu36 := (Hu36).size
          replace hSW : Below (w1).heap.size (w1) u36 := Below.trans hSW (Below.mono Hu36 zW)
          replace rA1 := (row_below Hu36 zA1).trans rA1
          replace zA1 : A1 < u36.heap.size := by omega
          replace rA2 := (row_below Hu36 zA2).trans rA2
          replace zA2 : A2 < u36.heap.size := by omega
          replace zW : (w1).heap.size ≤ u36.heap.size := by omega
          refine hK _ _ (wpAnyH_same hSW (fun hS => ?_))
          clear hK K Hu36
          refine wpAnyH_all (rs := [6]) (by kernel_rfl) (by simp) ?_
          intro i hi
          obtain rfl := List.mem_singleton.1 hi
          refine wpOp_step rfl (fun K hK => ?_)
          clear hi hS
          go_simp
          have rO := (row_setRow_other (w := u36) A1 A2 ((u8v dst ++ (u8v src ++ [Value.int .i64 ty, .string ⟨body.toArray⟩, .int .i64 vlan, .int .i64 prio])).toArray) (Ne.symm d12)).trans rA2
          replace hSW : Below (w1).heap.size (w1) (u36.setRow A1 ((u8v dst ++ (u8v src ++ [Value.int .i64 ty, .string ⟨body.toArray⟩, .int .i64 vlan, .int .i64 prio])).toArray)) := Below.setRow hSW bA1 _
          refine hK _ _ (wpAnyH_same hSW (fun hS => ?_))
          clear hK K
          refine wpAnyH_all (rs := [7]) (by kernel_rfl) (by simp) ?_
          intro i hi
          obtain rfl := List.mem_singleton.1 hi
          refine wpOp_step rfl (fun K hK => ?_)
          clear hi hS
          go_simp
          replace hSW : Below (w1).heap.size (w1) ((u36.setRow A1 ((u8v dst ++ (u8v src ++ [Value.int .i64 ty, .string ⟨body.toArray⟩, .int .i64 vlan, .int .i64 prio])).toArray)).setRow A2 ((u8v dst ++ (u8v src ++ [Value.int .i64 ty, .string ⟨body.toArray⟩, .int .i64 vlan, .int .i64 prio])).toArray)) := Below.setRow hSW bA2 _
          refine hK _ _ (wpAnyH_same hSW (fun hS => ?_))
          clear hK K
          refine wpAnyH_done (by kernel_rfl) ?_ _
          refine ⟨rfl, A1, A2, rfl, d12, bA1, bA2, by simpa using zA1, by simpa using zA2, ?_, ?_, hSW⟩
          · rw [row_setRow_other _ _ _ d12]
            exact row_setRow_same (by rw [rA1]; simp) (by rw [rA1]; simp [hj])
          · exact row_setRow_same (by rw [rO]; simp) (by rw [rO]; simp [hj])
      · refine wpOp_step rfl (fun K hK => ?_)
        clear hS
        go_simp
        obtain ⟨A2, hA2⟩ : ∃ A, u29.heap.size = A := ⟨_, rfl⟩
        rw [hA2]
        obtain ⟨u39, hu39⟩ : ∃ U, u29.alloc (.cells (u8v mac0 ++ (u8v mac0 ++ [Value.int .i64 0, .string ⟨#[]⟩, .int .i64 0, .int .i64 0])).toArray 48) = U := ⟨_, rfl⟩
        rw [hu39]
        have rA2 : row u39 A2 = (u8v mac0 ++ (u8v mac0 ++ [Value.int .i64 0, .string ⟨#[]⟩, .int .i64 0, .int .i64 0])).toArray := by rw [← hu39]; exact row_alloc_at _ _ _ hA2.symm
        have su39 : u39.heap.size = u29.heap.size + 1 := by rw [← hu39]; simp
        have Hu39 : Below u29.heap.size u29 u39 := by rw [← hu39]; exact Below.alloc (Below.refl _ _) (Nat.le_refl _) _
        have zA2 : A2 < u39.heap.size := by omega
        have d12 : A1 ≠ A2 := by omega
        replace rA1 := (row_below Hu39 zA1).trans rA1
        replace zA1 : A1 < u39.heap.size := by omega
        have bA2 : (w1).heap.size ≤ A2 := by omega
        replace hSW : Below (w1).heap.size (w1) u39 := Below.trans hSW (Below.mono Hu39 zW)
        replace zW : (w1).heap.size ≤ u39.heap.size := by omega
        clear Hu39 hu39 su39 hA2
        refine hK _ _ (wpAnyH_same hSW (fun hS => ?_))
        clear hK K
        refine wpAnyH_all (rs := [1]) (by kernel_rfl) (by simp) ?_
        intro i hi
        obtain rfl := List.mem_singleton.1 hi
        refine wpOp_step rfl (fun K hK => ?_)
        clear hi hS
        go_simp
        refine (of08_u dst src ty body vlan prio _).mono ?_
        rintro e u40 ⟨rfl, Hu40⟩
        have zu40 := (Hu40).size
        replace hSW : Below (w1).heap.size (w1) u40 := Below.trans hSW (Below.mono Hu40 zW)
        replace rA1 := (row_below Hu40 zA1).trans rA1
        replace zA1 : A1 < u40.heap.size := by omega
        replace rA2 := (row_below Hu40 zA2).trans rA2
        replace zA2 : A2 < u40.heap.size := by omega
        replace zW : (w1).heap.size ≤ u40.heap.size := by omega
        refine hK _ _ (wpAnyH_same hSW (fun hS => ?_))
        clear hK K Hu40
        refine wpAnyH_all (rs := [3]) (by kernel_rfl) (by simp) ?_
        intro i hi
        obtain rfl := List.mem_singleton.1 hi
        refine wpOp_step rfl (fun K hK => ?_)
        clear hi hS
        go_simp
        refine (of08_u dst src ty body vlan prio _).mono ?_
        rintro e u41 ⟨rfl, Hu41⟩
        have zu41 := (Hu41).size
        replace hSW : Below (w1).heap.size (w1) u41 := Below.trans hSW (Below.mono Hu41 zW)
        replace rA1 := (row_below Hu41 zA1).trans rA1
        replace zA1 : A1 < u41.heap.size := by omega
        replace rA2 := (row_below Hu41 zA2).trans rA2
        replace zA2 : A2 < u41.heap.size := by omega
        replace zW : (w1).heap.size ≤ u41.heap.size := by omega
        refine hK _ _ (wpAnyH_same hSW (fun hS => ?_))
        clear hK K Hu41
        refine wpAnyH_all (rs := [6]) (by kernel_rfl) (by simp) ?_
        intro i hi
        obtain rfl := List.mem_singleton.1 hi
        refine wpOp_step rfl (fun K hK => ?_)
        clear hi hS
        go_simp
        have rO := (row_setRow_other (w := u41) A1 A2 ((u8v dst ++ (u8v src ++ [Value.int .i64 ty, .string ⟨body.toArray⟩, .int .i64 vlan, .int .i64 prio])).toArray) (Ne.symm d12)).trans rA2
        replace hSW : Below (w1).heap.size (w1) (u41.setRow A1 ((u8v dst ++ (u8v src ++ [Value.int .i64 ty, .string ⟨body.toArray⟩, .int .i64 vlan, .int .i64 prio])).toArray)) := Below.setRow hSW bA1 _
        refine hK _ _ (wpAnyH_same hSW (fun hS => ?_))
        clear hK K
        refine wpAnyH_all (rs := [7]) (by kernel_rfl) (by simp) ?_
        intro i hi
        obtain rfl := List.mem_singleton.1 hi
        refine wpOp_step rfl (fun K hK => ?_)
        clear hi hS
        go_simp
        replace hSW : Below (w1).heap.size (w1) ((u41.setRow A1 ((u8v dst ++ (u8v src ++ [Value.int .i64 ty, .string ⟨body.toArray⟩, .int .i64 vlan, .int .i64 prio])).toArray)).setRow A2 ((u8v dst ++ (u8v src ++ [Value.int .i64 ty, .string ⟨body.toArray⟩, .int .i64 vlan, .int .i64 prio])).toArray)) := Below.setRow hSW bA2 _
        refine hK _ _ (wpAnyH_same hSW (fun hS => ?_))
        clear hK K
        refine wpAnyH_done (by kernel_rfl) ?_ _
        refine ⟨rfl, A1, A2, rfl, d12, bA1, bA2, by simpa using zA1, by simpa using zA2, ?_, ?_, hSW⟩
        · rw [row_setRow_other _ _ _ d12]
          exact row_setRow_same (by rw [rA1]; simp) (by rw [rA1]; simp [hj])
        · exact row_setRow_same (by rw [rO]; simp) (by rw [rO]; simp [hj])
    · refine wpOp_step rfl (fun K hK => ?_)
      clear hS
      go_simp
      obtain ⟨A2, hA2⟩ : ∃ A, u0.heap.size = A := ⟨_, rfl⟩
      rw [hA2]
      obtain ⟨u44, hu44⟩ : ∃ U, u0.alloc (.cells (u8v mac0 ++ (u8v mac0 ++ [Value.int .i64 0, .string ⟨#[]⟩, .int .i64 0, .int .i64 0])).toArray 48) = U := ⟨_, rfl⟩
      rw [hu44]
      have rA2 : row u44 A2 = (u8v mac0 ++ (u8v mac0 ++ [Value.int .i64 0, .string ⟨#[]⟩, .int .i64 0, .int .i64 0])).toArray := by rw [← hu44]; exact row_alloc_at _ _ _ hA2.symm
      have su44 : u44.heap.size = u0.heap.size + 1 := by rw [← hu44]; simp
      have Hu44 : Below u0.heap.size u0 u44 := by rw [← hu44]; exact Below.alloc (Below.refl _ _) (Nat.le_refl _) _
      have zA2 : A2 < u44.heap.size := by omega
      have bA2 : (w1).heap.size ≤ A2 := by omega
      replace hSW : Below (w1).heap.size (w1) u44 := Below.trans hSW (Below.mono Hu44 zW)
      replace zW : (w1).heap.size ≤ u44.heap.size := by omega
      clear Hu44 hu44 su44 hA2
      refine hK _ _ (wpAnyH_same hSW (fun hS => ?_))
      clear hK K
      refine wpAnyH_all (rs := [1, 4]) (by kernel_rfl) (by simp) ?_
      intro i hi
      simp only [List.mem_cons, List.not_mem_nil, or_false] at hi
      rcases hi with rfl | rfl
      · refine wpOp_step rfl (fun K hK => ?_)
        clear hS
        go_simp
        refine (of08_u dst src ty body vlan prio _).mono ?_
        rintro e u45 ⟨rfl, Hu45⟩
        have zu45 := (Hu45).size
        replace hSW : Below (w1).heap.size (w1) u45 := Below.trans hSW (Below.mono Hu45 zW)
        replace rA2 := (row_below Hu45 zA2).trans rA2
        replace zA2 : A2 < u45.heap.size := by omega
        replace zW : (w1).heap.size ≤ u45.heap.size := by omega
        refine hK _ _ (wpAnyH_same hSW (fun hS => ?_))
        clear hK K Hu45
        refine wpAnyH_all (rs := [3, 4]) (by kernel_rfl) (by simp) ?_
        intro i hi
        simp only [List.mem_cons, List.not_mem_nil, or_false] at hi
        rcases hi with rfl | rfl
        · refine wpOp_step rfl (fun K hK => ?_)
          clear hS
          go_simp
          refine (of08_u dst src ty body vlan prio _).mono ?_
          rintro e u46 ⟨rfl, Hu46⟩
          have zu46 := (Hu46).size
          replace hSW : Below (w1).heap.size (w1) u46 := Below.trans hSW (Below.mono Hu46 zW)
          replace rA2 := (row_below Hu46 zA2).trans rA2
          replace zA2 : A2 < u46.heap.size := by omega
          replace zW : (w1).heap.size ≤ u46.heap.size := by omega
          refine hK _ _ (wpAnyH_same hSW (fun hS => ?_))
          clear hK K Hu46
          refine wpAnyH_all (rs := [4]) (by kernel_rfl) (by simp) ?_
          intro i hi
          obtain rfl := List.mem_singleton.1 hi
          refine wpOp_step rfl (fun K hK => ?_)
          clear hi hS
          go_simp
          obtain ⟨A1, hA1⟩ : ∃ A, u46.heap.size = A := ⟨_, rfl⟩
          rw [hA1]
          obtain ⟨u47, hu47⟩ : ∃ U, u46.alloc (.cells (u8v mac0 ++ (u8v mac0 ++ [Value.int .i64 0, .string ⟨#[]⟩, .int .i64 0, .int .i64 0])).toArray 48) = U := ⟨_, rfl⟩
          rw [hu47]
          have rA1 : row u47 A1 = (u8v mac0 ++ (u8v mac0 ++ [Value.int .i64 0, .string ⟨#[]⟩, .int .i64 0, .int .i64 0])).toArray := by rw [← hu47]; exact row_alloc_at _ _ _ hA1.symm
          have su47 : u47.heap.size = u46.heap.size + 1 := by rw [← hu47]; simp
          have Hu47 : Below u46.heap.size u46 u47 := by rw [← hu47]; exact Below.alloc (Below.refl _ _) (Nat.le_refl _) _
          have zA1 : A1 < u47.heap.size := by omega
          have d12 : A1 ≠ A2 := by omega
          replace rA2 := (row_below Hu47 zA2).trans rA2
          replace zA2 : A2 < u47.heap.size := by omega
          have bA1 : (w1).heap.size ≤ A1 := by omega
          replace hSW : Below (w1).heap.size (w1) u47 := Below.trans hSW (Below.mono Hu47 zW)
          replace zW : (w1).heap.size ≤ u47.heap.size := by omega
          clear Hu47 hu47 su47 hA1
          refine hK _ _ (wpAnyH_same hSW (fun hS => ?_))
          clear hK K
          refine wpAnyH_all (rs := [6]) (by kernel_rfl) (by simp) ?_
          intro i hi
          obtain rfl := List.mem_singleton.1 hi
          refine wpOp_step rfl (fun K hK => ?_)
          clear hi hS
          go_simp
          have rO := (row_setRow_other (w := u47) A1 A2 ((u8v dst ++ (u8v src ++ [Value.int .i64 ty, .string ⟨body.toArray⟩, .int .i64 vlan, .int .i64 prio])).toArray) (Ne.symm d12)).trans rA2
          replace hSW : Below (w1).heap.size (w1) (u47.setRow A1 ((u8v dst ++ (u8v src ++ [Value.int .i64 ty, .string ⟨body.toArray⟩, .int .i64 vlan, .int .i64 prio])).toArray)) := Below.setRow hSW bA1 _
          refine hK _ _ (wpAnyH_same hSW (fun hS => ?_))
          clear hK K
          refine wpAnyH_all (rs := [7]) (by kernel_rfl) (by simp) ?_
          intro i hi
          obtain rfl := List.mem_singleton.1 hi
          refine wpOp_step rfl (fun K hK => ?_)
          clear hi hS
          go_simp
          replace hSW : Below (w1).heap.size (w1) ((u47.setRow A1 ((u8v dst ++ (u8v src ++ [Value.int .i64 ty, .string ⟨body.toArray⟩, .int .i64 vlan, .int .i64 prio])).toArray)).setRow A2 ((u8v dst ++ (u8v src ++ [Value.int .i64 ty, .string ⟨body.toArray⟩, .int .i64 vlan, .int .i64 prio])).toArray)) := Below.setRow hSW bA2 _
          refine hK _ _ (wpAnyH_same hSW (fun hS => ?_))
          clear hK K
          refine wpAnyH_done (by kernel_rfl) ?_ _
          refine ⟨rfl, A1, A2, rfl, d12, bA1, bA2, by simpa using zA1, by simpa using zA2, ?_, ?_, hSW⟩
          · rw [row_setRow_other _ _ _ d12]
            exact row_setRow_same (by rw [rA1]; simp) (by rw [rA1]; simp [hj])
          · exact row_setRow_same (by rw [rO]; simp) (by rw [rO]; simp [hj])
        · refine wpOp_step rfl (fun K hK => ?_)
          clear hS
          go_simp
          obtain ⟨A1, hA1⟩ : ∃ A, u45.heap.size = A := ⟨_, rfl⟩
          rw [hA1]
          obtain ⟨u50, hu50⟩ : ∃ U, u45.alloc (.cells (u8v mac0 ++ (u8v mac0 ++ [Value.int .i64 0, .string ⟨#[]⟩, .int .i64 0, .int .i64 0])).toArray 48) = U := ⟨_, rfl⟩
          rw [hu50]
          have rA1 : row u50 A1 = (u8v mac0 ++ (u8v mac0 ++ [Value.int .i64 0, .string ⟨#[]⟩, .int .i64 0, .int .i64 0])).toArray := by rw [← hu50]; exact row_alloc_at _ _ _ hA1.symm
          have su50 : u50.heap.size = u45.heap.size + 1 := by rw [← hu50]; simp
          have Hu50 : Below u45.heap.size u45 u50 := by rw [← hu50]; exact Below.alloc (Below.refl _ _) (Nat.le_refl _) _
          have zA1 : A1 < u50.heap.size := by omega
          have d12 : A1 ≠ A2 := by omega
          replace rA2 := (row_below Hu50 zA2).trans rA2
          replace zA2 : A2 < u50.heap.size := by omega
          have bA1 : (w1).heap.size ≤ A1 := by omega
          replace hSW : Below (w1).heap.size (w1) u50 := Below.trans hSW (Below.mono Hu50 zW)
          replace zW : (w1).heap.size ≤ u50.heap.size := by omega
          clear Hu50 hu50 su50 hA1
          refine hK _ _ (wpAnyH_same hSW (fun hS => ?_))
          clear hK K
          refine wpAnyH_all (rs := [3]) (by kernel_rfl) (by simp) ?_
          intro i hi
          obtain rfl := List.mem_singleton.1 hi
          refine wpOp_step rfl (fun K hK => ?_)
          clear hi hS
          go_simp
          refine (of08_u dst src ty body vlan prio _).mono ?_
          rintro e u51 ⟨rfl, Hu51⟩
          have zu51 := (Hu51).size
          replace hSW : Below (w1).heap.size (w1) u51 := Below.trans hSW (Below.mono Hu51 zW)
          replace rA2 := (row_below Hu51 zA2).trans rA2
          replace zA2 : A2 < u51.heap.size := by omega
          replace rA1 := (row_below Hu51 zA1).trans rA1
          replace zA1 : A1 < u51.heap.size := by omega
          replace zW : (w1).heap.size ≤ u51.heap.size := by omega
          refine hK _ _ (wpAnyH_same hSW (fun hS => ?_))
          clear hK K Hu51
          refine wpAnyH_all (rs := [6]) (by kernel_rfl) (by simp) ?_
          intro i hi
          obtain rfl := List.mem_singleton.1 hi
          refine wpOp_step rfl (fun K hK => ?_)
          clear hi hS
          go_simp
          have rO := (row_setRow_other (w := u51) A1 A2 ((u8v dst ++ (u8v src ++ [Value.int .i64 ty, .string ⟨body.toArray⟩, .int .i64 vlan, .int .i64 prio])).toArray) (Ne.symm d12)).trans rA2
          replace hSW : Below (w1).heap.size (w1) (u51.setRow A1 ((u8v dst ++ (u8v src ++ [Value.int .i64 ty, .string ⟨body.toArray⟩, .int .i64 vlan, .int .i64 prio])).toArray)) := Below.setRow hSW bA1 _
          refine hK _ _ (wpAnyH_same hSW (fun hS => ?_))
          clear hK K
          refine wpAnyH_all (rs := [7]) (by kernel_rfl) (by simp) ?_
          intro i hi
          obtain rfl := List.mem_singleton.1 hi
          refine wpOp_step rfl (fun K hK => ?_)
          clear hi hS
          go_simp
          replace hSW : Below (w1).heap.size (w1) ((u51.setRow A1 ((u8v dst ++ (u8v src ++ [Value.int .i64 ty, .string ⟨body.toArray⟩, .int .i64 vlan, .int .i64 prio])).toArray)).setRow A2 ((u8v dst ++ (u8v src ++ [Value.int .i64 ty, .string ⟨body.toArray⟩, .int .i64 vlan, .int .i64 prio])).toArray)) := Below.setRow hSW bA2 _
          refine hK _ _ (wpAnyH_same hSW (fun hS => ?_))
          clear hK K
          refine wpAnyH_done (by kernel_rfl) ?_ _
          refine ⟨rfl, A1, A2, rfl, d12, bA1, bA2, by simpa using zA1, by simpa using zA2, ?_, ?_, hSW⟩
          · rw [row_setRow_other _ _ _ d12]
            exact row_setRow_same (by rw [rA1]; simp) (by rw [rA1]; simp [hj])
          · exact row_setRow_same (by rw [rO]; simp) (by rw [rO]; simp [hj])
      · refine wpOp_step rfl (fun K hK => ?_)
        clear hS
        go_simp
        obtain ⟨A1, hA1⟩ : ∃ A, u44.heap.size = A := ⟨_, rfl⟩
        rw [hA1]
        obtain ⟨u54, hu54⟩ : ∃ U, u44.alloc (.cells (u8v mac0 ++ (u8v mac0 ++ [Value.int .i64 0, .string ⟨#[]⟩, .int .i64 0, .int .i64 0])).toArray 48) = U := ⟨_, rfl⟩
        rw [hu54]
        have rA1 : row u54 A1 = (u8v mac0 ++ (u8v mac0 ++ [Value.int .i64 0, .string ⟨#[]⟩, .int .i64 0, .int .i64 0])).toArray := by rw [← hu54]; exact row_alloc_at _ _ _ hA1.symm
        have su54 : u54.heap.size = u44.heap.size + 1 := by rw [← hu54]; simp
        have Hu54 : Below u44.heap.size u44 u54 := by rw [← hu54]; exact Below.alloc (Below.refl _ _) (Nat.le_refl _) _
        have zA1 : A1 < u54.heap.size := by omega
        have d12 : A1 ≠ A2 := by omega
        replace rA2 := (row_below Hu54 zA2).trans rA2
        replace zA2 : A2 < u54.heap.size := by omega
        have bA1 : (w1).heap.size ≤ A1 := by omega
        replace hSW : Below (w1).heap.size (w1) u54 := Below.trans hSW (Below.mono Hu54 zW)
        replace zW : (w1).heap.size ≤ u54.heap.size := by omega
        clear Hu54 hu54 su54 hA1
        refine hK _ _ (wpAnyH_same hSW (fun hS => ?_))
        clear hK K
        refine wpAnyH_all (rs := [1]) (by kernel_rfl) (by simp) ?_
        intro i hi
        obtain rfl := List.mem_singleton.1 hi
        refine wpOp_step rfl (fun K hK => ?_)
        clear hi hS
        go_simp
        refine (of08_u dst src ty body vlan prio _).mono ?_
        rintro e u55 ⟨rfl, Hu55⟩
        have zu55 := (Hu55).size
        replace hSW : Below (w1).heap.size (w1) u55 := Below.trans hSW (Below.mono Hu55 zW)
        replace rA2 := (row_below Hu55 zA2).trans rA2
        replace zA2 : A2 < u55.heap.size := by omega
        replace rA1 := (row_below Hu55 zA1).trans rA1
        replace zA1 : A1 < u55.heap.size := by omega
        replace zW : (w1).heap.size ≤ u55.heap.size := by omega
        refine hK _ _ (wpAnyH_same hSW (fun hS => ?_))
        clear hK K Hu55
        refine wpAnyH_all (rs := [3]) (by kernel_rfl) (by simp) ?_
        intro i hi
        obtain rfl := List.mem_singleton.1 hi
        refine wpOp_step rfl (fun K hK => ?_)
        clear hi hS
        go_simp
        refine (of08_u dst src ty body vlan prio _).mono ?_
        rintro e u56 ⟨rfl, Hu56⟩
        have zu56 := (Hu56).size
        replace hSW : Below (w1).heap.size (w1) u56 := Below.trans hSW (Below.mono Hu56 zW)
        replace rA2 := (row_below Hu56 zA2).trans rA2
        replace zA2 : A2 < u56.heap.size := by omega
        replace rA1 := (row_below Hu56 zA1).trans rA1
        replace zA1 : A1 < u56.heap.size := by omega
        replace zW : (w1).heap.size ≤ u56.heap.size := by omega
        refine hK _ _ (wpAnyH_same hSW (fun hS => ?_))
        clear hK K Hu56
        refine wpAnyH_all (rs := [6]) (by kernel_rfl) (by simp) ?_
        intro i hi
        obtain rfl := List.mem_singleton.1 hi
        refine wpOp_step rfl (fun K hK => ?_)
        clear hi hS
        go_simp
        have rO := (row_setRow_other (w := u56) A1 A2 ((u8v dst ++ (u8v src ++ [Value.int .i64 ty, .string ⟨body.toArray⟩, .int .i64 vlan, .int .i64 prio])).toArray) (Ne.symm d12)).trans rA2
        replace hSW : Below (w1).heap.size (w1) (u56.setRow A1 ((u8v dst ++ (u8v src ++ [Value.int .i64 ty, .string ⟨body.toArray⟩, .int .i64 vlan, .int .i64 prio])).toArray)) := Below.setRow hSW bA1 _
        refine hK _ _ (wpAnyH_same hSW (fun hS => ?_))
        clear hK K
        refine wpAnyH_all (rs := [7]) (by kernel_rfl) (by simp) ?_
        intro i hi
        obtain rfl := List.mem_singleton.1 hi
        refine wpOp_step rfl (fun K hK => ?_)
        clear hi hS
        go_simp
        replace hSW : Below (w1).heap.size (w1) ((u56.setRow A1 ((u8v dst ++ (u8v src ++ [Value.int .i64 ty, .string ⟨body.toArray⟩, .int .i64 vlan, .int .i64 prio])).toArray)).setRow A2 ((u8v dst ++ (u8v src ++ [Value.int .i64 ty, .string ⟨body.toArray⟩, .int .i64 vlan, .int .i64 prio])).toArray)) := Below.setRow hSW bA2 _
        refine hK _ _ (wpAnyH_same hSW (fun hS => ?_))
        clear hK K
        refine wpAnyH_done (by kernel_rfl) ?_ _
        refine ⟨rfl, A1, A2, rfl, d12, bA1, bA2, by simpa using zA1, by simpa using zA2, ?_, ?_, hSW⟩
        · rw [row_setRow_other _ _ _ d12]
          exact row_setRow_same (by rw [rA1]; simp) (by rw [rA1]; simp [hj])
        · exact row_setRow_same (by rw [rO]; simp) (by rw [rO]; simp [hj])
  · rintro A1 A2 w2 ⟨d12, bA1, bA2, zA1, zA2, rA1, rA2, hb2⟩
    clear hv hj
    have d21 : A2 ≠ A1 := Ne.symm d12
    have r1 := row_setRow_same (w := w2) (g := A1) (c := (u8v dst ++ (u8v src ++ [Value.int .i64 ty, .string ⟨body.toArray⟩, .int .i64 (-1), .int .i64 (prio)])).toArray) (by rw [rA1]; simp) (by rw [rA1]; simp)
    have r2 := row_setRow_same (w := w2) (g := A1) (c := (u8v dst ++ (u8v src ++ [Value.int .i64 ty, .string ⟨body.toArray⟩, .int .i64 (-1), .int .i64 (0)])).toArray) (by rw [rA1]; simp) (by rw [rA1]; simp)
    have r3 := (row_setRow_other (w := w2) A1 A2 ((u8v dst ++ (u8v src ++ [Value.int .i64 ty, .string ⟨body.toArray⟩, .int .i64 (-1), .int .i64 (0)])).toArray) d21).trans rA2
    have r4 := row_setRow_same (w := w2.setRow A1 ((u8v dst ++ (u8v src ++ [Value.int .i64 ty, .string ⟨body.toArray⟩, .int .i64 (-1), .int .i64 (0)])).toArray)) (g := A2) (c := (u8v dst ++ (u8v src ++ [Value.int .i64 ty, .string ⟨body.toArray⟩, .int .i64 ((v : Int) % 4095), .int .i64 (prio)])).toArray) (by rw [r3]; simp) (by rw [r3]; simp)
    have r5 := row_setRow_same (w := w2.setRow A1 ((u8v dst ++ (u8v src ++ [Value.int .i64 ty, .string ⟨body.toArray⟩, .int .i64 (-1), .int .i64 (0)])).toArray)) (g := A2) (c := (u8v dst ++ (u8v src ++ [Value.int .i64 ty, .string ⟨body.toArray⟩, .int .i64 ((v : Int) % 4095), .int .i64 ((p : Int) % 8)])).toArray) (by rw [r3]; simp) (by rw [r3]; simp)
    have r6 := (row_setRow_other (w := w2.setRow A1 ((u8v dst ++ (u8v src ++ [Value.int .i64 ty, .string ⟨body.toArray⟩, .int .i64 (-1), .int .i64 (0)])).toArray)) A2 A1 ((u8v dst ++ (u8v src ++ [Value.int .i64 ty, .string ⟨body.toArray⟩, .int .i64 ((v : Int) % 4095), .int .i64 ((p : Int) % 8)])).toArray) d12).trans r2
    go_wp2_with fail
    have hb3 : Below w1.heap.size w1 ((w2.setRow A1 ((u8v dst ++ (u8v src ++ [Value.int .i64 ty, .string ⟨body.toArray⟩, .int .i64 (-1), .int .i64 (0)])).toArray)).setRow A2 ((u8v dst ++ (u8v src ++ [Value.int .i64 ty, .string ⟨body.toArray⟩, .int .i64 ((v : Int) % 4095), .int .i64 ((p : Int) % 8)])).toArray)) := Below.setRow (Below.setRow hb2 bA1 _) bA2 _
    obtain ⟨w3, hw3⟩ : ∃ u, (w2.setRow A1 ((u8v dst ++ (u8v src ++ [Value.int .i64 ty, .string ⟨body.toArray⟩, .int .i64 (-1), .int .i64 (0)])).toArray)).setRow A2 ((u8v dst ++ (u8v src ++ [Value.int .i64 ty, .string ⟨body.toArray⟩, .int .i64 ((v : Int) % 4095), .int .i64 ((p : Int) % 8)])).toArray) = u := ⟨_, rfl⟩
    have z3 : w3.heap.size = w2.heap.size := by rw [← hw3]; simp
    rw [hw3] at r5 r6 hb3 ⊢
    clear hw3 r1 r2 r3 r4 rA1 rA2 hb2
    have hv0 : 0 ≤ (v : Int) % 4095 := by omega
    have hv1 : (v : Int) % 4095 ≤ 4094 := by omega
    have hp0 : 0 ≤ (p : Int) % 8 := by omega
    have hp1 : (p : Int) % 8 ≤ 7 := by omega
    have hsame : rightB ty ((v : Int) % 4095) ((p : Int) % 8) body.length = rightB ty (-1) 0 body.length := by
      simp [rightB, hv0, hv1, hp0, hp1]
    have zA1' : A1 < w3.heap.size := by omega
    have z13 := hb3.size
    have zA2' : A2 < w3.heap.size := by omega
    have hbw : Below w.heap.size w w3 := Below.trans hb1 (Below.mono hb3 (by omega))
    cases hr : rightB ty (-1) 0 body.length with
    | false =>
      rw [hr] at hsame
      have HR := Lib.hid hr
      have HS := Lib.hid hsame
      clear hr hsame
      refine (ethPrint_out dst src ty body (-1) 0 _ HR.out).mono ?_
      rintro e w4 ⟨rfl, hb4⟩
      have z4 := (hb4).size
      try simp at z4
      replace r5 := (row_below hb4 (by omega)).trans r5
      replace r6 := (row_below hb4 (by omega)).trans r6
      go_wp2_with fail
      refine (ethPrint_out dst src ty body ((v : Int) % 4095) ((p : Int) % 8) _ HS.out).mono ?_
      rintro e w5 ⟨rfl, hb5⟩
      have z5 := (hb5).size
      try simp at z5
      replace r5 := (row_below hb5 (by omega)).trans r5
      replace r6 := (row_below hb5 (by omega)).trans r6
      go_wp2_with fail
      refine (right_any dst src ty body (-1) 0 _).mono ?_
      rintro e w6 ⟨rfl, hb6⟩
      rw [HR.out]
      have z6 := (hb6).size
      try simp at z6
      replace r5 := (row_below hb6 (by omega)).trans r5
      replace r6 := (row_below hb6 (by omega)).trans r6
      go_wp2_with fail
      refine (right_any dst src ty body ((v : Int) % 4095) ((p : Int) % 8) _).mono ?_
      rintro e w7 ⟨rfl, hb7⟩
      rw [HS.out]
      go_wp2_with fail
      go_ret
      refine ⟨by simp, ?_⟩
      refine Below.trans ?_ (Below.mono hb7 (by first | (simp; done) | (simp; omega) | omega))
      refine Below.trans ?_ (Below.mono hb6 (by first | (simp; done) | (simp; omega) | omega))
      refine Below.trans ?_ (Below.mono hb5 (by first | (simp; done) | (simp; omega) | omega))
      refine Below.trans ?_ (Below.mono hb4 (by first | (simp; done) | (simp; omega) | omega))
      exact hbw
    | true =>
      rw [hr] at hsame
      have Hp1 := ethPrint_any dst src ty body (-1) 0 w3 hr
      have Hp2 := fun w => ethPrint_any dst src ty body ((v : Int) % 4095) ((p : Int) % 8) w hsame
      have l1 := ethS_len dst src ty body (-1) 0 hr
      have l2 := ethS_len dst src ty body ((v : Int) % 4095) ((p : Int) % 8) hsame
      rw [if_neg (by omega)] at l1
      rw [if_pos hv0] at l2
      have hs1 := (ethS_small dst src ty body (-1) 0 hr).1
      have ht1 : (ethS dst src ty body (-1) 0).take 12 = (ethS dst src ty body ((v : Int) % 4095) ((p : Int) % 8)).take 12 := by
        rw [ethS_plain, ethS_tag _ _ _ _ _ _ (by omega), List.take_left' (by simp), List.take_left' (by simp)]
      have ht2 : (ethS dst src ty body (-1) 0).drop 12 = (ethS dst src ty body ((v : Int) % 4095) ((p : Int) % 8)).drop 16 := by
        rw [ethS_plain, ethS_tag _ _ _ _ _ _ (by omega), List.drop_left' (by simp), ← List.append_assoc, ← List.append_assoc, List.append_assoc, ← List.append_assoc, List.append_assoc (dst.toList ++ src.toList ++ bytesN 33024 2), ← List.append_assoc]
        exact (List.drop_left' (by simp)).symm
      obtain ⟨s, hs⟩ : ∃ s, ethS dst src ty body (-1) 0 = s := ⟨_, rfl⟩
      obtain ⟨t, ht⟩ : ∃ t, ethS dst src ty body ((v : Int) % 4095) ((p : Int) % 8) = t := ⟨_, rfl⟩
      rw [hs] at Hp1 l1 hs1 ht1 ht2
      rw [ht] at Hp2 l2 ht1 ht2
      have HP2 := Lib.hid Hp2
      clear hs ht Hp2 hr hsame
      have k1 : (t.length : Int) = (s.length : Int) + 4 := by omega
      have k2 : 14 ≤ s.length := by omega
      have k3 : 18 ≤ t.length := by omega
      have k4 : (12 : Int) ≤ s.length := by omega
      have k5 : (16 : Int) ≤ t.length := by omega
      have k6 : (12 : Int) ≤ t.length := by omega
      have k7 : (12 : Int) ≤ (s.length : Int) + 4 := by omega
      have k8 : (16 : Int) ≤ (s.length : Int) + 4 := by omega
      have kw : IntKind.i64.wrap ((s.length : Int) + 4) = (s.length : Int) + 4 := wraps_i64 _ (by omega) (by omega)
      have htk : List.take (s.length - 12) (List.drop 16 t) = List.drop 16 t := List.take_of_length_le (by simp; omega)
      clear l1 l2
      refine Hp1.mono ?_
      rintro e w4 ⟨rfl, hb4⟩
      have z4 := (hb4).size
      try simp at z4
      replace r5 := (row_below hb4 (by omega)).trans r5
      replace r6 := (row_below hb4 (by omega)).trans r6
      go_wp2_with fail
      refine (HP2.out _).mono ?_
      rintro e w5 ⟨rfl, hb5⟩
      have z5 := (hb5).size
      try simp at z5
      go_wp2_with fail
      refine wp_region_begin rfl (fun hS => ?_)
      refine wpAnyH_take (i := 0) (v := ?_) (by simp only [List.getElem?_toArray, List.getElem?_cons_succ, List.getElem?_cons_zero]; rfl) (by kernel_rfl) (by kernel_rfl) (by kernel_rfl) (by exact fun _ _ _ h => h) (Or.inl ⟨by rfl, ?_⟩) hS ?_
      rotate_left
      · intro w' hS'
        unfold Held at hS'
        go_simp
        rfl
      (try simp only [Act.put, List.setIfInBounds_toArray, List.set_cons_zero, List.set_cons_succ])
      refine wpAnyH_take (i := 1) (v := ?_) (by simp only [List.getElem?_toArray, List.getElem?_cons_succ, List.getElem?_cons_zero]; rfl) (by kernel_rfl) (by kernel_rfl) (by kernel_rfl) (by exact fun _ _ _ h => h) (Or.inl ⟨by rfl, ?_⟩) hS ?_
      rotate_left
      · intro w' hS'
        unfold Held at hS'
        go_simp
        rfl
      (try simp only [Act.put, List.setIfInBounds_toArray, List.set_cons_zero, List.set_cons_succ])
      refine wpAnyH_take (i := 2) (v := ?_) (by simp only [List.getElem?_toArray, List.getElem?_cons_succ, List.getElem?_cons_zero]; rfl) (by kernel_rfl) (by kernel_rfl) (by kernel_rfl) (by exact fun _ _ _ h => h) (Or.inl ⟨by rfl, ?_⟩) hS ?_
      rotate_left
      · intro w' hS'
        unfold Held at hS'
        go_simp
        rfl
      (try simp only [Act.put, List.setIfInBounds_toArray, List.set_cons_zero, List.set_cons_succ])
      refine wpAnyH_take (i := 3) (v := ?_) (by simp only [List.getElem?_toArray, List.getElem?_cons_succ, List.getElem?_cons_zero]; rfl) (by kernel_rfl) (by kernel_rfl) (by kernel_rfl) (by exact fun _ _ _ h => h) (Or.inl ⟨by rfl, ?_⟩) hS ?_
      rotate_left
      · intro w' hS'
        unfold Held at hS'
        go_simp
        rfl
      (try simp only [Act.put, List.setIfInBounds_toArray, List.set_cons_zero, List.set_cons_succ])
      refine wpAnyH_take (i := 4) (v := ?_) (by simp only [List.getElem?_toArray, List.getElem?_cons_succ, List.getElem?_cons_zero]; rfl) (by kernel_rfl) (by kernel_rfl) (by kernel_rfl) (by exact fun _ _ _ h => h) (Or.inl ⟨by rfl, ?_⟩) hS ?_
      rotate_left
      · intro w' hS'
        unfold Held at hS'
        go_simp
        rfl
      (try simp only [Act.put, List.setIfInBounds_toArray, List.set_cons_zero, List.set_cons_succ])
      refine wpAnyH_take (i := 5) (v := ?_) (by simp only [List.getElem?_toArray, List.getElem?_cons_succ, List.getElem?_cons_zero]; rfl) (by kernel_rfl) (by kernel_rfl) (by kernel_rfl) (by exact fun _ _ _ h => h) (Or.inl ⟨by rfl, ?_⟩) hS ?_
      rotate_left
      · intro w' hS'
        unfold Held at hS'
        go_simp
        rfl
      (try simp only [Act.put, List.setIfInBounds_toArray, List.set_cons_zero, List.set_cons_succ])
      refine wpAnyH_take (i := 6) (v := ?_) (by simp only [List.getElem?_toArray, List.getElem?_cons_succ, List.getElem?_cons_zero]; rfl) (by kernel_rfl) (by kernel_rfl) (by kernel_rfl) (by exact fun _ _ _ h => h) (Or.inl ⟨by rfl, ?_⟩) hS ?_
      rotate_left
      · intro w' hS'
        unfold Held at hS'
        go_simp
        rfl
      (try simp only [Act.put, List.setIfInBounds_toArray, List.set_cons_zero, List.set_cons_succ])
      refine wpAnyH_take (i := 7) (v := ?_) (by simp only [List.getElem?_toArray, List.getElem?_cons_succ, List.getElem?_cons_zero]; rfl) (by kernel_rfl) (by kernel_rfl) (by kernel_rfl) (by exact fun _ _ _ h => h) (Or.inl ⟨by rfl, ?_⟩) hS ?_
      rotate_left
      · intro w' hS'
        unfold Held at hS'
        go_simp
        rfl
      (try simp only [Act.put, List.setIfInBounds_toArray, List.set_cons_zero, List.set_cons_succ])
      refine wpAnyH_take (i := 8) (v := ?_) (by simp only [List.getElem?_toArray, List.getElem?_cons_succ, List.getElem?_cons_zero]; rfl) (by kernel_rfl) (by kernel_rfl) (by kernel_rfl) (by exact fun _ _ _ h => h) (Or.inl ⟨by rfl, ?_⟩) hS ?_
      rotate_left
      · intro w' hS'
        unfold Held at hS'
        go_simp
        rfl
      (try simp only [Act.put, List.setIfInBounds_toArray, List.set_cons_zero, List.set_cons_succ])
      refine wpAnyH_take (i := 9) (v := ?_) (by simp only [List.getElem?_toArray, List.getElem?_cons_succ, List.getElem?_cons_zero]; rfl) (by kernel_rfl) (by kernel_rfl) (by kernel_rfl) (by exact fun _ _ _ h => h) (Or.inl ⟨by rfl, ?_⟩) hS ?_
      rotate_left
      · intro w' hS'
        unfold Held at hS'
        go_simp
        rfl
      (try simp only [Act.put, List.setIfInBounds_toArray, List.set_cons_zero, List.set_cons_succ])
      refine wpAnyH_take (i := 10) (v := ?_) (by simp only [List.getElem?_toArray, List.getElem?_cons_succ, List.getElem?_cons_zero]; rfl) (by kernel_rfl) (by kernel_rfl) (by kernel_rfl) (by exact fun _ _ _ h => h) (Or.inl ⟨by rfl, ?_⟩) hS ?_
      rotate_left
      · intro w' hS'
        unfold Held at hS'
        go_simp
        rfl
      (try simp only [Act.put, List.setIfInBounds_toArray, List.set_cons_zero, List.set_cons_succ])
      refine wpAnyH_take (i := 11) (v := ?_) (by simp only [List.getElem?_toArray, List.getElem?_cons_succ, List.getElem?_cons_zero]; rfl) (by kernel_rfl) (by kernel_rfl) (by kernel_rfl) (by exact fun _ _ _ h => h) (Or.inl ⟨by rfl, ?_⟩) hS ?_
      rotate_left
      · intro w' hS'
        unfold Held at hS'
        go_simp
        rfl
      (try simp only [Act.put, List.setIfInBounds_toArray, List.set_cons_zero, List.set_cons_succ])
      refine wpAnyH_take (i := 12) (v := ?_) (by simp only [List.getElem?_toArray, List.getElem?_cons_succ, List.getElem?_cons_zero]; rfl) (by kernel_rfl) (by kernel_rfl) (by kernel_rfl) (by exact fun _ _ _ h => h) (Or.inl ⟨by rfl, ?_⟩) hS ?_
      rotate_left
      · intro w' hS'
        unfold Held at hS'
        go_simp
        rfl
      (try simp only [Act.put, List.setIfInBounds_toArray, List.set_cons_zero, List.set_cons_succ])
      refine wpAnyH_take (i := 13) (v := ?_) (by simp only [List.getElem?_toArray, List.getElem?_cons_succ, List.getElem?_cons_zero]; rfl) (by kernel_rfl) (by kernel_rfl) (by kernel_rfl) (by exact fun _ _ _ h => h) (Or.inl ⟨by rfl, ?_⟩) hS ?_
      rotate_left
      · intro w' hS'
        unfold Held at hS'
        go_simp
        rfl
      (try simp only [Act.put, List.setIfInBounds_toArray, List.set_cons_zero, List.set_cons_succ])
      refine wpAnyH_take (i := 14) (v := ?_) (by simp only [List.getElem?_toArray, List.getElem?_cons_succ, List.getElem?_cons_zero]; rfl) (by kernel_rfl) (by kernel_rfl) (by kernel_rfl) (by exact fun _ _ _ h => h) (Or.inl ⟨by rfl, ?_⟩) hS ?_
      rotate_left
      · intro w' hS'
        unfold Held at hS'
        go_simp
        rfl
      (try simp only [Act.put, List.setIfInBounds_toArray, List.set_cons_zero, List.set_cons_succ])
      refine wpAnyH_take (i := 15) (v := ?_) (by simp only [List.getElem?_toArray, List.getElem?_cons_succ, List.getElem?_cons_zero]; rfl) (by kernel_rfl) (by kernel_rfl) (by kernel_rfl) (by exact fun _ _ _ h => h) (Or.inl ⟨by rfl, ?_⟩) hS ?_
      rotate_left
      · intro w' hS'
        unfold Held at hS'
        go_simp
        rfl
      (try simp only [Act.put, List.setIfInBounds_toArray, List.set_cons_zero, List.set_cons_succ])
      refine wpAnyH_take (i := 16) (v := ?_) (by simp only [List.getElem?_toArray, List.getElem?_cons_succ, List.getElem?_cons_zero]; rfl) (by kernel_rfl) (by kernel_rfl) (by kernel_rfl) (by exact fun _ _ _ h => h) (Or.inl ⟨by rfl, ?_⟩) hS ?_
      rotate_left
      · intro w' hS'
        unfold Held at hS'
        go_simp
        rfl
      (try simp only [Act.put, List.setIfInBounds_toArray, List.set_cons_zero, List.set_cons_succ])
      refine wpAnyH_take (i := 17) (v := ?_) (by simp only [List.getElem?_toArray, List.getElem?_cons_succ, List.getElem?_cons_zero]; rfl) (by kernel_rfl) (by kernel_rfl) (by kernel_rfl) (by exact fun _ _ _ h => h) (Or.inl ⟨by rfl, ?_⟩) hS ?_
      rotate_left
      · intro w' hS'
        unfold Held at hS'
        go_simp
        rfl
      (try simp only [Act.put, List.setIfInBounds_toArray, List.set_cons_zero, List.set_cons_succ])
      refine wpAnyH_take (i := 18) (v := ?_) (by simp only [List.getElem?_toArray, List.getElem?_cons_succ, List.getElem?_cons_zero]; rfl) (by kernel_rfl) (by kernel_rfl) (by kernel_rfl) (by exact fun _ _ _ h => h) (Or.inl ⟨by rfl, ?_⟩) hS ?_
      rotate_left
      · intro w' hS'
        unfold Held at hS'
        go_simp
        rfl
      (try simp only [Act.put, List.setIfInBounds_toArray, List.set_cons_zero, List.set_cons_succ])
      refine wpAnyH_take (i := 19) (v := ?_) (by simp only [List.getElem?_toArray, List.getElem?_cons_succ, List.getElem?_cons_zero]; rfl) (by kernel_rfl) (by kernel_rfl) (by kernel_rfl) (by exact fun _ _ _ h => h) (Or.inl ⟨by rfl, ?_⟩) hS ?_
      rotate_left
      · intro w' hS'
        unfold Held at hS'
        go_simp
        rfl
      (try simp only [Act.put, List.setIfInBounds_toArray, List.set_cons_zero, List.set_cons_succ])
      refine wpAnyH_take (i := 20) (v := ?_) (by simp only [List.getElem?_toArray, List.getElem?_cons_succ, List.getElem?_cons_zero]; rfl) (by kernel_rfl) (by kernel_rfl) (by kernel_rfl) (by exact fun _ _ _ h => h) (Or.inl ⟨by rfl, ?_⟩) hS ?_
      rotate_left
      · intro w' hS'
        unfold Held at hS'
        go_simp
        rfl
      (try simp only [Act.put, List.setIfInBounds_toArray, List.set_cons_zero, List.set_cons_succ])
      refine wpAnyH_done (by kernel_rfl) ?_ _
      go_wp2_with fail
      go_ret
      refine ⟨by simp, ?_⟩
      (repeat (first | refine Below.alloc ?_ (by first | (simp; done) | (simp; omega) | omega) _ | refine Below.drew ?_ | refine Below.setRow ?_ (by first | (simp; done) | (simp; omega) | omega) _ | refine Below.setCell ?_ (by first | (simp; done) | (simp; omega) | omega) _))
      refine Below.trans ?_ (Below.mono hb5 (by first | (simp; done) | (simp; omega) | omega))
      refine Below.trans ?_ (Below.mono hb4 (by first | (simp; done) | (simp; omega) | omega))
      exact hbw
end
theorem etherTags_walk (W : World) (base : Nat) (args : Array Value) (hlen : args.size = Try.f12.params.size) (hval : ∀ (j : Nat) t v, Try.f12.params[j]? = some t → args[j]? = some v → Value.okWide Try.prog W .any base t v) :
    Calls Try.prog 12 args W fun e W' => e = .returned (.bool true) ∧ Below W.heap.size W W' := by
  obtain ⟨l⟩ := args
  match l, hlen with
  | [v0, v1, v2], _ =>
  have k0 := hval 0 64 v0 rfl rfl
  have k1 := hval 1 72 v1 rfl rfl
  have k2 := hval 2 5 v2 rfl rfl
  obtain ⟨dst, src, ty, body, vlan, prio, rfl, hv, hm⟩ := open_eth k0
  obtain ⟨v, rfl, hc⟩ := open_num Try.underlying72 k1
  obtain ⟨p, rfl, hd⟩ := open_num Try.underlying5 k2
  simp [IntKind.has, IntKind.min, IntKind.max, IntKind.bits, IntKind.signed] at hc hd
  obtain ⟨n, rfl⟩ : ∃ n : Nat, v = n := ⟨v.toNat, by omega⟩
  obtain ⟨m, rfl⟩ : ∃ n : Nat, p = n := ⟨p.toNat, by omega⟩
  by_cases hl : body.length ≤ 2000
  · exact etherTags_any dst src ty body vlan prio n m W hl (by omega) (by omega)
  · exact etherTags_long dst src ty body vlan prio n m W hl hm
end Go.Proofs.Ythnjkpecnaglhaa
