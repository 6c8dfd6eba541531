/- The last statement of nd.Print, over every order in which it may be carried out. -/
import Derived.Test.YthnjkpecnaglhaaNd
import Derived.Test.YthnjkpecnaglhaaJoin
set_option linter.unusedSimpArgs false
set_option linter.unusedVariables false
namespace Go.Proofs.Ythnjkpecnaglhaa
open Go.RowKit
def regAt (n : Nat) : Code → Option Code
  | .seq x y => (regAt n x).or (regAt n y)
  | .region id ops d => if id = n then some (.region id ops d) else none
  | .cond _ x y => (regAt n x).or (regAt n y)
  | .block _ x => regAt n x
  | .loop x => regAt n x
  | _ => none
def printS (fr to : Vector UInt8 16) (m : List UInt8) (sm : Nat) : List UInt8 := [96, 0, 0, 0] ++ (bytesN m.length 2 ++ ([58, 255] ++ (fr.toList ++ (to.toList ++ (m.take 2 ++ (bytesN sm 2 ++ m.drop 4))))))
set_option maxRecDepth 20000 in
set_option maxHeartbeats 16000000 in
theorem ndReg4 (c : Code) (hc : (Try.f26.body.bind (regAt 4)) = some c) (n : Int) (fr to ab : Vector UInt8 16) (mac : Vector UInt8 6) (has : Bool) (fl : Vector UInt8 4) (m : List UInt8) (hm1 : 24 ≤ m.length) (hm2 : m.length ≤ 32) (sm : Nat) (hsm : sm ≤ 65535)
    (HS : ∀ w, Calls Try.prog 41 #[.agg (.int .i64 n :: (u8v fr ++ (u8v to ++ (u8v ab ++ (u8v mac ++ (.bool has :: u8v fl)))))).toArray] w fun e w' => e = .returned (.int .i64 sm) ∧ Below w.heap.size w w')
    (x0 x2 x3 x5 x6 x7 x8 x9 x10 x11 x12 x13 x14 x15 x16 x17 x18 x19 x20 x21 x22 x23 x24 x25 x26 x27 x28 x29 x30 x31 x32 x33 x34 x35 x36 x37 x38 x39 x40 x41 x42 x43 x44 x45 x46 x47 x48 x49 x50 x51 x52 : Value) (w1 : World) (X : Nat) (hX : row w1 X = (.int .i64 n :: (u8v fr ++ (u8v to ++ (u8v ab ++ (u8v mac ++ (.bool has :: u8v fl)))))).toArray) (zX : X < w1.heap.size) :
    c.wp Try.prog (fun e a' w' => e = .normal ∧ a'.defers = [] ∧ a'.tmps.getD 2 undef = .string ⟨(printS fr to m sm).toArray⟩ ∧ a'.tmps.getD 3 undef = .int .i64 0 ∧ Below w1.heap.size w1 w')
      { tmps := #[x0, .pointer (some ⟨X, 0, none⟩), x2, x3, .string ⟨m.toArray⟩, x5, x6, x7, x8, x9, x10, x11, x12, x13, x14, x15, x16, x17, x18, x19, x20, x21, x22, x23, x24, x25, x26, x27, x28, x29, x30, x31, x32, x33, x34, x35, x36, x37, x38, x39, x40, x41, x42, x43, x44, x45, x46, x47, x48, x49, x50, x51, x52], defers := [] } w1 := by
  cases hc
  have hm3 : (m.length : Int) ≤ 32 := by omega
  have hm4 : (2 : Int) ≤ m.length := by omega
  have hm5 : (4 : Int) ≤ m.length := by omega
  have hm6 : min 2 m.length = 2 := by omega
  have hv : ∀ w', Below w1.heap.size w1 w' → row w' X = (.int .i64 n :: (u8v fr ++ (u8v to ++ (u8v ab ++ (u8v mac ++ (.bool has :: u8v fl)))))).toArray := fun w' h => (row_below h zX).trans hX
  unfold printS
  · refine wp_region_beginS (S := Held (fun w' => Below (w1).heap.size (w1) w' ∧ True)) rfl ?_ (fun hS => ?_)
    · exact ⟨Below.drew (Below.refl _ _), trivial⟩
    have hSW : Below (w1).heap.size (w1) (w1).drew := Below.drew (Below.refl _ _)
    obtain ⟨u0, hu0⟩ : ∃ u, (w1).drew = u := ⟨_, rfl⟩
    have zW : (w1).heap.size ≤ u0.heap.size := by rw [← hu0]; exact Nat.le_refl _
    rw [hu0] at hSW hS ⊢
    clear hu0
    refine wpAnyH_take (i := 2) (v := ?_) (by simp only [List.getElem?_toArray, List.getElem?_cons_succ, List.getElem?_cons_zero]; rfl) (by kernel_rfl) (by kernel_rfl) (by kernel_rfl) (by first | exact fun _ _ _ h => h | exact fun _ _ _ h => by cases h.1) (Or.inl ⟨by rfl, ?_⟩) hS ?_
    rotate_left
    · intro w' hS'
      unfold Held at hS'
      obtain ⟨hS1, hS3⟩ := hS'
      have hS2 := hv w' hS1
      clear hS1
      go_simp
      (first | rfl | (rw [if_neg (by omega)]; (first | done | rfl)))
    (try simp only [Act.put, List.setIfInBounds_toArray, List.set_cons_zero, List.set_cons_succ])
    refine wpAnyH_take (i := 9) (v := ?_) (by simp only [List.getElem?_toArray, List.getElem?_cons_succ, List.getElem?_cons_zero]; rfl) (by kernel_rfl) (by kernel_rfl) (by kernel_rfl) (by first | exact fun _ _ _ h => h | exact fun _ _ _ h => by cases h.1) (Or.inl ⟨by rfl, ?_⟩) hS ?_
    rotate_left
    · intro w' hS'
      unfold Held at hS'
      obtain ⟨hS1, hS3⟩ := hS'
      have hS2 := hv w' hS1
      clear hS1
      go_simp
      (first | rfl | (rw [if_neg (by omega)]; (first | done | rfl)))
    (try simp only [Act.put, List.setIfInBounds_toArray, List.set_cons_zero, List.set_cons_succ])
    refine wpAnyH_take (i := 13) (v := ?_) (by simp only [List.getElem?_toArray, List.getElem?_cons_succ, List.getElem?_cons_zero]; rfl) (by kernel_rfl) (by kernel_rfl) (by kernel_rfl) (by first | exact fun _ _ _ h => h | exact fun _ _ _ h => by cases h.1) (Or.inl ⟨by rfl, ?_⟩) hS ?_
    rotate_left
    · intro w' hS'
      unfold Held at hS'
      obtain ⟨hS1, hS3⟩ := hS'
      have hS2 := hv w' hS1
      clear hS1
      go_simp
      (first | rfl | (rw [if_neg (by omega)]; (first | done | rfl)))
    (try simp only [Act.put, List.setIfInBounds_toArray, List.set_cons_zero, List.set_cons_succ])
    refine wpAnyH_take (i := 17) (v := ?_) (by simp only [List.getElem?_toArray, List.getElem?_cons_succ, List.getElem?_cons_zero]; rfl) (by kernel_rfl) (by kernel_rfl) (by kernel_rfl) (by first | exact fun _ _ _ h => h | exact fun _ _ _ h => by cases h.1) (Or.inl ⟨by rfl, ?_⟩) hS ?_
    rotate_left
    · intro w' hS'
      unfold Held at hS'
      obtain ⟨hS1, hS3⟩ := hS'
      have hS2 := hv w' hS1
      clear hS1
      go_simp
      (first | rfl | (rw [if_neg (by omega)]; (first | done | rfl)))
    (try simp only [Act.put, List.setIfInBounds_toArray, List.set_cons_zero, List.set_cons_succ])
    refine wpAnyH_take (i := 20) (v := ?_) (by simp only [List.getElem?_toArray, List.getElem?_cons_succ, List.getElem?_cons_zero]; rfl) (by kernel_rfl) (by kernel_rfl) (by kernel_rfl) (by first | exact fun _ _ _ h => h | exact fun _ _ _ h => by cases h.1) (Or.inl ⟨by rfl, ?_⟩) hS ?_
    rotate_left
    · intro w' hS'
      unfold Held at hS'
      obtain ⟨hS1, hS3⟩ := hS'
      have hS2 := hv w' hS1
      clear hS1
      go_simp
      (first | rfl | (rw [if_neg (by omega)]; (first | done | rfl)))
    (try simp only [Act.put, List.setIfInBounds_toArray, List.set_cons_zero, List.set_cons_succ])
    refine wpAnyH_take (i := 24) (v := ?_) (by simp only [List.getElem?_toArray, List.getElem?_cons_succ, List.getElem?_cons_zero]; rfl) (by kernel_rfl) (by kernel_rfl) (by kernel_rfl) (by first | exact fun _ _ _ h => h | exact fun _ _ _ h => by cases h.1) (Or.inl ⟨by rfl, ?_⟩) hS ?_
    rotate_left
    · intro w' hS'
      unfold Held at hS'
      obtain ⟨hS1, hS3⟩ := hS'
      have hS2 := hv w' hS1
      clear hS1
      go_simp
      (first | rfl | (rw [if_neg (by omega)]; (first | done | rfl)))
    (try simp only [Act.put, List.setIfInBounds_toArray, List.set_cons_zero, List.set_cons_succ])
    refine wpAnyH_take (i := 3) (v := ?_) (by simp only [List.getElem?_toArray, List.getElem?_cons_succ, List.getElem?_cons_zero]; rfl) (by kernel_rfl) (by kernel_rfl) (by kernel_rfl) (by first | exact fun _ _ _ h => h | exact fun _ _ _ h => by cases h.1) (Or.inl ⟨by rfl, ?_⟩) hS ?_
    rotate_left
    · intro w' hS'
      unfold Held at hS'
      obtain ⟨hS1, hS3⟩ := hS'
      have hS2 := hv w' hS1
      clear hS1
      go_simp
      (first | rfl | (rw [if_neg (by omega)]; (first | done | rfl)))
    (try simp only [Act.put, List.setIfInBounds_toArray, List.set_cons_zero, List.set_cons_succ])
    refine wpAnyH_take (i := 10) (v := ?_) (by simp only [List.getElem?_toArray, List.getElem?_cons_succ, List.getElem?_cons_zero]; rfl) (by kernel_rfl) (by kernel_rfl) (by kernel_rfl) (by first | exact fun _ _ _ h => h | exact fun _ _ _ h => by cases h.1) (Or.inl ⟨by rfl, ?_⟩) hS ?_
    rotate_left
    · intro w' hS'
      unfold Held at hS'
      obtain ⟨hS1, hS3⟩ := hS'
      have hS2 := hv w' hS1
      clear hS1
      go_simp
      (first | rfl | (rw [if_neg (by omega)]; (first | done | rfl)))
    (try simp only [Act.put, List.setIfInBounds_toArray, List.set_cons_zero, List.set_cons_succ])
    refine wpAnyH_take (i := 14) (v := ?_) (by simp only [List.getElem?_toArray, List.getElem?_cons_succ, List.getElem?_cons_zero]; rfl) (by kernel_rfl) (by kernel_rfl) (by kernel_rfl) (by first | exact fun _ _ _ h => h | exact fun _ _ _ h => by cases h.1) (Or.inl ⟨by rfl, ?_⟩) hS ?_
    rotate_left
    · intro w' hS'
      unfold Held at hS'
      obtain ⟨hS1, hS3⟩ := hS'
      have hS2 := hv w' hS1
      clear hS1
      go_simp
      (first | rfl | (rw [if_neg (by omega)]; (first | done | rfl)))
    (try simp only [Act.put, List.setIfInBounds_toArray, List.set_cons_zero, List.set_cons_succ])
    refine wpAnyH_take (i := 18) (v := ?_) (by simp only [List.getElem?_toArray, List.getElem?_cons_succ, List.getElem?_cons_zero]; rfl) (by kernel_rfl) (by kernel_rfl) (by kernel_rfl) (by first | exact fun _ _ _ h => h | exact fun _ _ _ h => by cases h.1) (Or.inl ⟨by rfl, ?_⟩) hS ?_
    rotate_left
    · intro w' hS'
      unfold Held at hS'
      obtain ⟨hS1, hS3⟩ := hS'
      have hS2 := hv w' hS1
      clear hS1
      go_simp
      (first | rfl | (rw [if_neg (by omega)]; (first | done | rfl)))
    (try simp only [Act.put, List.setIfInBounds_toArray, List.set_cons_zero, List.set_cons_succ])
    refine wpAnyH_take (i := 25) (v := ?_) (by simp only [List.getElem?_toArray, List.getElem?_cons_succ, List.getElem?_cons_zero]; rfl) (by kernel_rfl) (by kernel_rfl) (by kernel_rfl) (by first | exact fun _ _ _ h => h | exact fun _ _ _ h => by cases h.1) (Or.inl ⟨by rfl, ?_⟩) hS ?_
    rotate_left
    · intro w' hS'
      unfold Held at hS'
      obtain ⟨hS1, hS3⟩ := hS'
      have hS2 := hv w' hS1
      clear hS1
      go_simp
      (first | rfl | (rw [if_neg (by omega)]; (first | done | rfl)))
    (try simp only [Act.put, List.setIfInBounds_toArray, List.set_cons_zero, List.set_cons_succ])
    refine wpAnyH_take (i := 11) (v := ?_) (by simp only [List.getElem?_toArray, List.getElem?_cons_succ, List.getElem?_cons_zero]; rfl) (by kernel_rfl) (by kernel_rfl) (by kernel_rfl) (by first | exact fun _ _ _ h => h | exact fun _ _ _ h => by cases h.1) (Or.inl ⟨by rfl, ?_⟩) hS ?_
    rotate_left
    · intro w' hS'
      unfold Held at hS'
      obtain ⟨hS1, hS3⟩ := hS'
      have hS2 := hv w' hS1
      clear hS1
      go_simp
      (first | rfl | (rw [if_neg (by omega)]; (first | done | rfl)))
    (try simp only [Act.put, List.setIfInBounds_toArray, List.set_cons_zero, List.set_cons_succ])
    refine wpAnyH_take (i := 15) (v := ?_) (by simp only [List.getElem?_toArray, List.getElem?_cons_succ, List.getElem?_cons_zero]; rfl) (by kernel_rfl) (by kernel_rfl) (by kernel_rfl) (by first | exact fun _ _ _ h => h | exact fun _ _ _ h => by cases h.1) (Or.inl ⟨by rfl, ?_⟩) hS ?_
    rotate_left
    · intro w' hS'
      unfold Held at hS'
      obtain ⟨hS1, hS3⟩ := hS'
      have hS2 := hv w' hS1
      clear hS1
      go_simp
      (first | rfl | (rw [if_neg (by omega)]; (first | done | rfl)))
    (try simp only [Act.put, List.setIfInBounds_toArray, List.set_cons_zero, List.set_cons_succ])
    refine wpAnyH_all (rs := [0, 4, 6]) (by kernel_rfl) (by simp) ?_
    intro i hi
    simp only [List.mem_cons, List.not_mem_nil, or_false] at hi
    rcases hi with rfl | rfl | rfl
    · skip
      refine wpOp_step rfl (fun K hK => ?_)
      clear hS
      go_simp
      rw [show (#[Value.int .u8 96, Value.int .u8 0, Value.int .u8 0, Value.int .u8 0] : Array Value) = (u8s [96, 0, 0, 0]).toArray from rfl]
      obtain ⟨A1, hA1⟩ : ∃ A, u0.heap.size = A := ⟨_, rfl⟩
      rw [hA1]
      obtain ⟨u1, hu1⟩ : ∃ U, u0.alloc (.cells (u8s [96, 0, 0, 0]).toArray 5) = U := ⟨_, rfl⟩
      rw [hu1]
      have rA1 : row u1 A1 = (u8s [96, 0, 0, 0]).toArray := by rw [← hu1]; exact row_alloc_at _ _ _ hA1.symm
      have su1 : u1.heap.size = u0.heap.size + 1 := by rw [← hu1]; simp
      have Hu1 : Below u0.heap.size u0 u1 := by rw [← hu1]; exact Below.alloc (Below.refl _ _) (Nat.le_refl _) _
      have zA1 : A1 < u1.heap.size := by omega
      replace hSW : Below (w1).heap.size (w1) u1 := Below.trans hSW (Below.mono Hu1 zW)
      replace zW : (w1).heap.size ≤ u1.heap.size := by omega
      clear Hu1 hu1 su1 hA1
      refine hK _ _ (wpAnyH_next (S2 := Held (fun w' => Below (w1).heap.size (w1) w' ∧ (row w' A1 = (u8s [96, 0, 0, 0]).toArray))) ⟨hSW, rA1⟩ (fun w' h => ⟨h.1, trivial⟩) (fun hS => ?_))
      clear hK K
      refine wpAnyH_take (i := 1) (v := ?_) (by simp only [List.getElem?_toArray, List.getElem?_cons_succ, List.getElem?_cons_zero]; rfl) (by kernel_rfl) (by kernel_rfl) (by kernel_rfl) (by first | exact fun _ _ _ h => h | exact fun _ _ _ h => by cases h.1) (Or.inl ⟨by rfl, ?_⟩) hS ?_
      rotate_left
      · intro w' hS'
        unfold Held at hS'
        obtain ⟨hS1, hS3⟩ := hS'
        have hS2 := hv w' hS1
        clear hS1
        go_simp
        (first | rfl | (rw [if_neg (by omega)]; (first | done | rfl)))
      (try simp only [Act.put, List.setIfInBounds_toArray, List.set_cons_zero, List.set_cons_succ])
      refine wpAnyH_all (rs := [4, 6]) (by kernel_rfl) (by simp) ?_
      intro i hi
      simp only [List.mem_cons, List.not_mem_nil, or_false] at hi
      rcases hi with rfl | rfl
      · skip
        refine wpOp_step rfl (fun K hK => ?_)
        clear hS
        go_simp
        refine (two_any _ _ (by omega) (by omega)).mono ?_
        rintro e u2 ⟨rfl, Hu2⟩
        have zu2 := (Hu2).size
        replace hSW : Below (w1).heap.size (w1) u2 := Below.trans hSW (Below.mono Hu2 zW)
        replace rA1 := (row_below Hu2 zA1).trans rA1
        replace zA1 : A1 < u2.heap.size := by omega
        replace zW : (w1).heap.size ≤ u2.heap.size := by omega
        refine hK _ _ (wpAnyH_same ⟨hSW, rA1⟩ (fun hS => ?_))
        clear hK K Hu2
        refine wpAnyH_take (i := 5) (v := ?_) (by simp only [List.getElem?_toArray, List.getElem?_cons_succ, List.getElem?_cons_zero]; rfl) (by kernel_rfl) (by kernel_rfl) (by kernel_rfl) (by first | exact fun _ _ _ h => h | exact fun _ _ _ h => by cases h.1) (Or.inl ⟨by rfl, ?_⟩) hS ?_
        rotate_left
        · intro w' hS'
          unfold Held at hS'
          obtain ⟨hS1, hS3⟩ := hS'
          have hS2 := hv w' hS1
          clear hS1
          go_simp
          (first | rfl | (rw [if_neg (by omega)]; (first | done | rfl)))
        (try simp only [Act.put, List.setIfInBounds_toArray, List.set_cons_zero, List.set_cons_succ])
        refine wpAnyH_all (rs := [6, 21]) (by kernel_rfl) (by simp) ?_
        intro i hi
        simp only [List.mem_cons, List.not_mem_nil, or_false] at hi
        rcases hi with rfl | rfl
        · skip
          refine wpOp_step rfl (fun K hK => ?_)
          clear hS
          go_simp
          rw [show (#[Value.int .u8 58, Value.int .u8 255] : Array Value) = (u8s [58, 255]).toArray from rfl]
          obtain ⟨A2, hA2⟩ : ∃ A, u2.heap.size = A := ⟨_, rfl⟩
          rw [hA2]
          obtain ⟨u3, hu3⟩ : ∃ U, u2.alloc (.cells (u8s [58, 255]).toArray 5) = U := ⟨_, rfl⟩
          rw [hu3]
          have rA2 : row u3 A2 = (u8s [58, 255]).toArray := by rw [← hu3]; exact row_alloc_at _ _ _ hA2.symm
          have su3 : u3.heap.size = u2.heap.size + 1 := by rw [← hu3]; simp
          have Hu3 : Below u2.heap.size u2 u3 := by rw [← hu3]; exact Below.alloc (Below.refl _ _) (Nat.le_refl _) _
          have zA2 : A2 < u3.heap.size := by omega
          replace rA1 := (row_below Hu3 zA1).trans rA1
          replace zA1 : A1 < u3.heap.size := by omega
          replace hSW : Below (w1).heap.size (w1) u3 := Below.trans hSW (Below.mono Hu3 zW)
          replace zW : (w1).heap.size ≤ u3.heap.size := by omega
          clear Hu3 hu3 su3 hA2
          refine hK _ _ (wpAnyH_next (S2 := Held (fun w' => Below (w1).heap.size (w1) w' ∧ (row w' A1 = (u8s [96, 0, 0, 0]).toArray ∧ row w' A2 = (u8s [58, 255]).toArray))) ⟨hSW, ⟨rA1, rA2⟩⟩ (fun w' h => ⟨h.1, h.2.1⟩) (fun hS => ?_))
          clear hK K
          refine wpAnyH_take (i := 7) (v := ?_) (by simp only [List.getElem?_toArray, List.getElem?_cons_succ, List.getElem?_cons_zero]; rfl) (by kernel_rfl) (by kernel_rfl) (by kernel_rfl) (by first | exact fun _ _ _ h => h | exact fun _ _ _ h => by cases h.1) (Or.inl ⟨by rfl, ?_⟩) hS ?_
          rotate_left
          · intro w' hS'
            unfold Held at hS'
            obtain ⟨hS1, hS3⟩ := hS'
            have hS2 := hv w' hS1
            clear hS1
            go_simp
            (first | rfl | (rw [if_neg (by omega)]; (first | done | rfl)))
          (try simp only [Act.put, List.setIfInBounds_toArray, List.set_cons_zero, List.set_cons_succ])
          refine wpAnyH_take (i := 8) (v := ?_) (by simp only [List.getElem?_toArray, List.getElem?_cons_succ, List.getElem?_cons_zero]; rfl) (by kernel_rfl) (by kernel_rfl) (by kernel_rfl) (by first | exact fun _ _ _ h => h | exact fun _ _ _ h => by cases h.1) (Or.inl ⟨by rfl, ?_⟩) hS ?_
          rotate_left
          · intro w' hS'
            unfold Held at hS'
            obtain ⟨hS1, hS3⟩ := hS'
            have hS2 := hv w' hS1
            clear hS1
            go_simp
            (first | rfl | (rw [if_neg (by omega)]; (first | done | rfl)))
          (try simp only [Act.put, List.setIfInBounds_toArray, List.set_cons_zero, List.set_cons_succ])
          refine wpAnyH_take (i := 12) (v := ?_) (by simp only [List.getElem?_toArray, List.getElem?_cons_succ, List.getElem?_cons_zero]; rfl) (by kernel_rfl) (by kernel_rfl) (by kernel_rfl) (by first | exact fun _ _ _ h => h | exact fun _ _ _ h => by cases h.1) (Or.inl ⟨by rfl, ?_⟩) hS ?_
          rotate_left
          · intro w' hS'
            unfold Held at hS'
            obtain ⟨hS1, hS3⟩ := hS'
            have hS2 := hv w' hS1
            clear hS1
            go_simp
            (first | rfl | (rw [if_neg (by omega)]; (first | done | rfl)))
          (try simp only [Act.put, List.setIfInBounds_toArray, List.set_cons_zero, List.set_cons_succ])
          refine wpAnyH_take (i := 16) (v := ?_) (by simp only [List.getElem?_toArray, List.getElem?_cons_succ, List.getElem?_cons_zero]; rfl) (by kernel_rfl) (by kernel_rfl) (by kernel_rfl) (by first | exact fun _ _ _ h => h | exact fun _ _ _ h => by cases h.1) (Or.inl ⟨by rfl, ?_⟩) hS ?_
          rotate_left
          · intro w' hS'
            unfold Held at hS'
            obtain ⟨hS1, hS3⟩ := hS'
            have hS2 := hv w' hS1
            clear hS1
            go_simp
            (first | rfl | (rw [if_neg (by omega)]; (first | done | rfl)))
          (try simp only [Act.put, List.setIfInBounds_toArray, List.set_cons_zero, List.set_cons_succ])
          refine wpAnyH_take (i := 19) (v := ?_) (by simp only [List.getElem?_toArray, List.getElem?_cons_succ, List.getElem?_cons_zero]; rfl) (by kernel_rfl) (by kernel_rfl) (by kernel_rfl) (by first | exact fun _ _ _ h => h | exact fun _ _ _ h => by cases h.1) (Or.inl ⟨by rfl, ?_⟩) hS ?_
          rotate_left
          · intro w' hS'
            unfold Held at hS'
            obtain ⟨hS1, hS3⟩ := hS'
            have hS2 := hv w' hS1
            clear hS1
            go_simp
            (first | rfl | (rw [if_neg (by omega)]; (first | done | rfl)))
          (try simp only [Act.put, List.setIfInBounds_toArray, List.set_cons_zero, List.set_cons_succ])
          refine wpAnyH_all (rs := [21]) (by kernel_rfl) (by simp) ?_
          intro i hi
          obtain rfl := List.mem_singleton.1 hi
          clear hi
          refine wpOp_step rfl (fun K hK => ?_)
          clear hS
          go_simp
          refine (HS _).mono ?_
          rintro e u4 ⟨rfl, Hu4⟩
          have zu4 := (Hu4).size
          replace hSW : Below (w1).heap.size (w1) u4 := Below.trans hSW (Below.mono Hu4 zW)
          replace rA1 := (row_below Hu4 zA1).trans rA1
          replace zA1 : A1 < u4.heap.size := by omega
          replace rA2 := (row_below Hu4 zA2).trans rA2
          replace zA2 : A2 < u4.heap.size := by omega
          replace zW : (w1).heap.size ≤ u4.heap.size := by omega
          refine hK _ _ (wpAnyH_same ⟨hSW, ⟨rA1, rA2⟩⟩ (fun hS => ?_))
          clear hK K Hu4
          refine wpAnyH_all (rs := [22]) (by kernel_rfl) (by simp) ?_
          intro i hi
          obtain rfl := List.mem_singleton.1 hi
          clear hi
          refine wpOp_step rfl (fun K hK => ?_)
          clear hS
          go_simp
          refine (two_any _ _ (by omega) (by omega)).mono ?_
          rintro e u5 ⟨rfl, Hu5⟩
          have zu5 := (Hu5).size
          replace hSW : Below (w1).heap.size (w1) u5 := Below.trans hSW (Below.mono Hu5 zW)
          replace rA1 := (row_below Hu5 zA1).trans rA1
          replace zA1 : A1 < u5.heap.size := by omega
          replace rA2 := (row_below Hu5 zA2).trans rA2
          replace zA2 : A2 < u5.heap.size := by omega
          replace zW : (w1).heap.size ≤ u5.heap.size := by omega
          refine hK _ _ (wpAnyH_same ⟨hSW, ⟨rA1, rA2⟩⟩ (fun hS => ?_))
          clear hK K Hu5
          refine wpAnyH_take (i := 23) (v := ?_) (by simp only [List.getElem?_toArray, List.getElem?_cons_succ, List.getElem?_cons_zero]; rfl) (by kernel_rfl) (by kernel_rfl) (by kernel_rfl) (by first | exact fun _ _ _ h => h | exact fun _ _ _ h => by cases h.1) (Or.inl ⟨by rfl, ?_⟩) hS ?_
          rotate_left
          · intro w' hS'
            unfold Held at hS'
            obtain ⟨hS1, hS3⟩ := hS'
            have hS2 := hv w' hS1
            clear hS1
            go_simp
            (first | rfl | (rw [if_neg (by omega)]; (first | done | rfl)))
          (try simp only [Act.put, List.setIfInBounds_toArray, List.set_cons_zero, List.set_cons_succ])
          refine wpAnyH_take (i := 26) (v := ?_) (by simp only [List.getElem?_toArray, List.getElem?_cons_succ, List.getElem?_cons_zero]; rfl) (by kernel_rfl) (by kernel_rfl) (by kernel_rfl) (by first | exact fun _ _ _ h => h | exact fun _ _ _ h => by cases h.1) (Or.inl ⟨by rfl, ?_⟩) hS ?_
          rotate_left
          · intro w' hS'
            unfold Held at hS'
            obtain ⟨hS1, hS3⟩ := hS'
            have hS2 := hv w' hS1
            clear hS1
            go_simp
            (first | rfl | (rw [if_neg (by omega)]; (first | done | rfl)))
          (try simp only [Act.put, List.setIfInBounds_toArray, List.set_cons_zero, List.set_cons_succ])
          refine wpAnyH_take (i := 27) (v := ?_) (by simp only [List.getElem?_toArray, List.getElem?_cons_succ, List.getElem?_cons_zero]; rfl) (by kernel_rfl) (by kernel_rfl) (by kernel_rfl) (by first | exact fun _ _ _ h => h | exact fun _ _ _ h => by cases h.1) (Or.inl ⟨by rfl, ?_⟩) hS ?_
          rotate_left
          · intro w' hS'
            unfold Held at hS'
            obtain ⟨hS1, hS3⟩ := hS'
            have hS2 := hv w' hS1
            clear hS1
            go_simp
            (first | rfl | (rw [if_neg (by omega)]; (first | done | rfl)))
          (try simp only [Act.put, List.setIfInBounds_toArray, List.set_cons_zero, List.set_cons_succ])
          refine wpAnyH_take (i := 28) (v := ?_) (by simp only [List.getElem?_toArray, List.getElem?_cons_succ, List.getElem?_cons_zero]; rfl) (by kernel_rfl) (by kernel_rfl) (by kernel_rfl) (by first | exact fun _ _ _ h => h | exact fun _ _ _ h => by cases h.1) (Or.inl ⟨by rfl, ?_⟩) hS ?_
          rotate_left
          · intro w' hS'
            unfold Held at hS'
            obtain ⟨hS1, hS3⟩ := hS'
            have hS2 := hv w' hS1
            clear hS1
            go_simp
            (first | rfl | (rw [if_neg (by omega)]; (first | done | rfl)))
          (try simp only [Act.put, List.setIfInBounds_toArray, List.set_cons_zero, List.set_cons_succ])
          refine wpAnyH_done (by kernel_rfl) ?_ _
          refine ⟨rfl, rfl, by simp, rfl, hSW⟩
        · skip
          refine wpOp_step rfl (fun K hK => ?_)
          clear hS
          go_simp
          refine (HS _).mono ?_
          rintro e u6 ⟨rfl, Hu6⟩
          have zu6 := (Hu6).size
          replace hSW : Below (w1).heap.size (w1) u6 := Below.trans hSW (Below.mono Hu6 zW)
          replace rA1 := (row_below Hu6 zA1).trans rA1
          replace zA1 : A1 < u6.heap.size := by omega
          replace zW : (w1).heap.size ≤ u6.heap.size := by omega
          refine hK _ _ (wpAnyH_same ⟨hSW, rA1⟩ (fun hS => ?_))
          clear hK K Hu6
          refine wpAnyH_all (rs := [6, 22]) (by kernel_rfl) (by simp) ?_
          intro i hi
          simp only [List.mem_cons, List.not_mem_nil, or_false] at hi
          rcases hi with rfl | rfl
          · skip
            refine wpOp_step rfl (fun K hK => ?_)
            clear hS
            go_simp
            rw [show (#[Value.int .u8 58, Value.int .u8 255] : Array Value) = (u8s [58, 255]).toArray from rfl]
            obtain ⟨A2, hA2⟩ : ∃ A, u6.heap.size = A := ⟨_, rfl⟩
            rw [hA2]
            obtain ⟨u7, hu7⟩ : ∃ U, u6.alloc (.cells (u8s [58, 255]).toArray 5) = U := ⟨_, rfl⟩
            rw [hu7]
            have rA2 : row u7 A2 = (u8s [58, 255]).toArray := by rw [← hu7]; exact row_alloc_at _ _ _ hA2.symm
            have su7 : u7.heap.size = u6.heap.size + 1 := by rw [← hu7]; simp
            have Hu7 : Below u6.heap.size u6 u7 := by rw [← hu7]; exact Below.alloc (Below.refl _ _) (Nat.le_refl _) _
            have zA2 : A2 < u7.heap.size := by omega
            replace rA1 := (row_below Hu7 zA1).trans rA1
            replace zA1 : A1 < u7.heap.size := by omega
            replace hSW : Below (w1).heap.size (w1) u7 := Below.trans hSW (Below.mono Hu7 zW)
            replace zW : (w1).heap.size ≤ u7.heap.size := by omega
            clear Hu7 hu7 su7 hA2
            refine hK _ _ (wpAnyH_next (S2 := Held (fun w' => Below (w1).heap.size (w1) w' ∧ (row w' A1 = (u8s [96, 0, 0, 0]).toArray ∧ row w' A2 = (u8s [58, 255]).toArray))) ⟨hSW, ⟨rA1, rA2⟩⟩ (fun w' h => ⟨h.1, h.2.1⟩) (fun hS => ?_))
            clear hK K
            refine wpAnyH_take (i := 7) (v := ?_) (by simp only [List.getElem?_toArray, List.getElem?_cons_succ, List.getElem?_cons_zero]; rfl) (by kernel_rfl) (by kernel_rfl) (by kernel_rfl) (by first | exact fun _ _ _ h => h | exact fun _ _ _ h => by cases h.1) (Or.inl ⟨by rfl, ?_⟩) hS ?_
            rotate_left
            · intro w' hS'
              unfold Held at hS'
              obtain ⟨hS1, hS3⟩ := hS'
              have hS2 := hv w' hS1
              clear hS1
              go_simp
              (first | rfl | (rw [if_neg (by omega)]; (first | done | rfl)))
            (try simp only [Act.put, List.setIfInBounds_toArray, List.set_cons_zero, List.set_cons_succ])
            refine wpAnyH_take (i := 8) (v := ?_) (by simp only [List.getElem?_toArray, List.getElem?_cons_succ, List.getElem?_cons_zero]; rfl) (by kernel_rfl) (by kernel_rfl) (by kernel_rfl) (by first | exact fun _ _ _ h => h | exact fun _ _ _ h => by cases h.1) (Or.inl ⟨by rfl, ?_⟩) hS ?_
            rotate_left
            · intro w' hS'
              unfold Held at hS'
              obtain ⟨hS1, hS3⟩ := hS'
              have hS2 := hv w' hS1
              clear hS1
              go_simp
              (first | rfl | (rw [if_neg (by omega)]; (first | done | rfl)))
            (try simp only [Act.put, List.setIfInBounds_toArray, List.set_cons_zero, List.set_cons_succ])
            refine wpAnyH_take (i := 12) (v := ?_) (by simp only [List.getElem?_toArray, List.getElem?_cons_succ, List.getElem?_cons_zero]; rfl) (by kernel_rfl) (by kernel_rfl) (by kernel_rfl) (by first | exact fun _ _ _ h => h | exact fun _ _ _ h => by cases h.1) (Or.inl ⟨by rfl, ?_⟩) hS ?_
            rotate_left
            · intro w' hS'
              unfold Held at hS'
              obtain ⟨hS1, hS3⟩ := hS'
              have hS2 := hv w' hS1
              clear hS1
              go_simp
              (first | rfl | (rw [if_neg (by omega)]; (first | done | rfl)))
            (try simp only [Act.put, List.setIfInBounds_toArray, List.set_cons_zero, List.set_cons_succ])
            refine wpAnyH_take (i := 16) (v := ?_) (by simp only [List.getElem?_toArray, List.getElem?_cons_succ, List.getElem?_cons_zero]; rfl) (by kernel_rfl) (by kernel_rfl) (by kernel_rfl) (by first | exact fun _ _ _ h => h | exact fun _ _ _ h => by cases h.1) (Or.inl ⟨by rfl, ?_⟩) hS ?_
            rotate_left
            · intro w' hS'
              unfold Held at hS'
              obtain ⟨hS1, hS3⟩ := hS'
              have hS2 := hv w' hS1
              clear hS1
              go_simp
              (first | rfl | (rw [if_neg (by omega)]; (first | done | rfl)))
            (try simp only [Act.put, List.setIfInBounds_toArray, List.set_cons_zero, List.set_cons_succ])
            refine wpAnyH_take (i := 19) (v := ?_) (by simp only [List.getElem?_toArray, List.getElem?_cons_succ, List.getElem?_cons_zero]; rfl) (by kernel_rfl) (by kernel_rfl) (by kernel_rfl) (by first | exact fun _ _ _ h => h | exact fun _ _ _ h => by cases h.1) (Or.inl ⟨by rfl, ?_⟩) hS ?_
            rotate_left
            · intro w' hS'
              unfold Held at hS'
              obtain ⟨hS1, hS3⟩ := hS'
              have hS2 := hv w' hS1
              clear hS1
              go_simp
              (first | rfl | (rw [if_neg (by omega)]; (first | done | rfl)))
            (try simp only [Act.put, List.setIfInBounds_toArray, List.set_cons_zero, List.set_cons_succ])
            refine wpAnyH_all (rs := [22]) (by kernel_rfl) (by simp) ?_
            intro i hi
            obtain rfl := List.mem_singleton.1 hi
            clear hi
            refine wpOp_step rfl (fun K hK => ?_)
            clear hS
            go_simp
            refine (two_any _ _ (by omega) (by omega)).mono ?_
            rintro e u8 ⟨rfl, Hu8⟩
            have zu8 := (Hu8).size
            replace hSW : Below (w1).heap.size (w1) u8 := Below.trans hSW (Below.mono Hu8 zW)
            replace rA1 := (row_below Hu8 zA1).trans rA1
            replace zA1 : A1 < u8.heap.size := by omega
            replace rA2 := (row_below Hu8 zA2).trans rA2
            replace zA2 : A2 < u8.heap.size := by omega
            replace zW : (w1).heap.size ≤ u8.heap.size := by omega
            refine hK _ _ (wpAnyH_same ⟨hSW, ⟨rA1, rA2⟩⟩ (fun hS => ?_))
            clear hK K Hu8
            refine wpAnyH_take (i := 23) (v := ?_) (by simp only [List.getElem?_toArray, List.getElem?_cons_succ, List.getElem?_cons_zero]; rfl) (by kernel_rfl) (by kernel_rfl) (by kernel_rfl) (by first | exact fun _ _ _ h => h | exact fun _ _ _ h => by cases h.1) (Or.inl ⟨by rfl, ?_⟩) hS ?_
            rotate_left
            · intro w' hS'
              unfold Held at hS'
              obtain ⟨hS1, hS3⟩ := hS'
              have hS2 := hv w' hS1
              clear hS1
              go_simp
              (first | rfl | (rw [if_neg (by omega)]; (first | done | rfl)))
            (try simp only [Act.put, List.setIfInBounds_toArray, List.set_cons_zero, List.set_cons_succ])
            refine wpAnyH_take (i := 26) (v := ?_) (by simp only [List.getElem?_toArray, List.getElem?_cons_succ, List.getElem?_cons_zero]; rfl) (by kernel_rfl) (by kernel_rfl) (by kernel_rfl) (by first | exact fun _ _ _ h => h | exact fun _ _ _ h => by cases h.1) (Or.inl ⟨by rfl, ?_⟩) hS ?_
            rotate_left
            · intro w' hS'
              unfold Held at hS'
              obtain ⟨hS1, hS3⟩ := hS'
              have hS2 := hv w' hS1
              clear hS1
              go_simp
              (first | rfl | (rw [if_neg (by omega)]; (first | done | rfl)))
            (try simp only [Act.put, List.setIfInBounds_toArray, List.set_cons_zero, List.set_cons_succ])
            refine wpAnyH_take (i := 27) (v := ?_) (by simp only [List.getElem?_toArray, List.getElem?_cons_succ, List.getElem?_cons_zero]; rfl) (by kernel_rfl) (by kernel_rfl) (by kernel_rfl) (by first | exact fun _ _ _ h => h | exact fun _ _ _ h => by cases h.1) (Or.inl ⟨by rfl, ?_⟩) hS ?_
            rotate_left
            · intro w' hS'
              unfold Held at hS'
              obtain ⟨hS1, hS3⟩ := hS'
              have hS2 := hv w' hS1
              clear hS1
              go_simp
              (first | rfl | (rw [if_neg (by omega)]; (first | done | rfl)))
            (try simp only [Act.put, List.setIfInBounds_toArray, List.set_cons_zero, List.set_cons_succ])
            refine wpAnyH_take (i := 28) (v := ?_) (by simp only [List.getElem?_toArray, List.getElem?_cons_succ, List.getElem?_cons_zero]; rfl) (by kernel_rfl) (by kernel_rfl) (by kernel_rfl) (by first | exact fun _ _ _ h => h | exact fun _ _ _ h => by cases h.1) (Or.inl ⟨by rfl, ?_⟩) hS ?_
            rotate_left
            · intro w' hS'
              unfold Held at hS'
              obtain ⟨hS1, hS3⟩ := hS'
              have hS2 := hv w' hS1
              clear hS1
              go_simp
              (first | rfl | (rw [if_neg (by omega)]; (first | done | rfl)))
            (try simp only [Act.put, List.setIfInBounds_toArray, List.set_cons_zero, List.set_cons_succ])
            refine wpAnyH_done (by kernel_rfl) ?_ _
            refine ⟨rfl, rfl, by simp, rfl, hSW⟩
          · skip
            refine wpOp_step rfl (fun K hK => ?_)
            clear hS
            go_simp
            refine (two_any _ _ (by omega) (by omega)).mono ?_
            rintro e u9 ⟨rfl, Hu9⟩
            have zu9 := (Hu9).size
            replace hSW : Below (w1).heap.size (w1) u9 := Below.trans hSW (Below.mono Hu9 zW)
            replace rA1 := (row_below Hu9 zA1).trans rA1
            replace zA1 : A1 < u9.heap.size := by omega
            replace zW : (w1).heap.size ≤ u9.heap.size := by omega
            refine hK _ _ (wpAnyH_same ⟨hSW, rA1⟩ (fun hS => ?_))
            clear hK K Hu9
            refine wpAnyH_all (rs := [6]) (by kernel_rfl) (by simp) ?_
            intro i hi
            obtain rfl := List.mem_singleton.1 hi
            clear hi
            refine wpOp_step rfl (fun K hK => ?_)
            clear hS
            go_simp
            rw [show (#[Value.int .u8 58, Value.int .u8 255] : Array Value) = (u8s [58, 255]).toArray from rfl]
            obtain ⟨A2, hA2⟩ : ∃ A, u9.heap.size = A := ⟨_, rfl⟩
            rw [hA2]
            obtain ⟨u10, hu10⟩ : ∃ U, u9.alloc (.cells (u8s [58, 255]).toArray 5) = U := ⟨_, rfl⟩
            rw [hu10]
            have rA2 : row u10 A2 = (u8s [58, 255]).toArray := by rw [← hu10]; exact row_alloc_at _ _ _ hA2.symm
            have su10 : u10.heap.size = u9.heap.size + 1 := by rw [← hu10]; simp
            have Hu10 : Below u9.heap.size u9 u10 := by rw [← hu10]; exact Below.alloc (Below.refl _ _) (Nat.le_refl _) _
            have zA2 : A2 < u10.heap.size := by omega
            replace rA1 := (row_below Hu10 zA1).trans rA1
            replace zA1 : A1 < u10.heap.size := by omega
            replace hSW : Below (w1).heap.size (w1) u10 := Below.trans hSW (Below.mono Hu10 zW)
            replace zW : (w1).heap.size ≤ u10.heap.size := by omega
            clear Hu10 hu10 su10 hA2
            refine hK _ _ (wpAnyH_next (S2 := Held (fun w' => Below (w1).heap.size (w1) w' ∧ (row w' A1 = (u8s [96, 0, 0, 0]).toArray ∧ row w' A2 = (u8s [58, 255]).toArray))) ⟨hSW, ⟨rA1, rA2⟩⟩ (fun w' h => ⟨h.1, h.2.1⟩) (fun hS => ?_))
            clear hK K
            refine wpAnyH_take (i := 7) (v := ?_) (by simp only [List.getElem?_toArray, List.getElem?_cons_succ, List.getElem?_cons_zero]; rfl) (by kernel_rfl) (by kernel_rfl) (by kernel_rfl) (by first | exact fun _ _ _ h => h | exact fun _ _ _ h => by cases h.1) (Or.inl ⟨by rfl, ?_⟩) hS ?_
            rotate_left
            · intro w' hS'
              unfold Held at hS'
              obtain ⟨hS1, hS3⟩ := hS'
              have hS2 := hv w' hS1
              clear hS1
              go_simp
              (first | rfl | (rw [if_neg (by omega)]; (first | done | rfl)))
            (try simp only [Act.put, List.setIfInBounds_toArray, List.set_cons_zero, List.set_cons_succ])
            refine wpAnyH_take (i := 8) (v := ?_) (by simp only [List.getElem?_toArray, List.getElem?_cons_succ, List.getElem?_cons_zero]; rfl) (by kernel_rfl) (by kernel_rfl) (by kernel_rfl) (by first | exact fun _ _ _ h => h | exact fun _ _ _ h => by cases h.1) (Or.inl ⟨by rfl, ?_⟩) hS ?_
            rotate_left
            · intro w' hS'
              unfold Held at hS'
              obtain ⟨hS1, hS3⟩ := hS'
              have hS2 := hv w' hS1
              clear hS1
              go_simp
              (first | rfl | (rw [if_neg (by omega)]; (first | done | rfl)))
            (try simp only [Act.put, List.setIfInBounds_toArray, List.set_cons_zero, List.set_cons_succ])
            refine wpAnyH_take (i := 12) (v := ?_) (by simp only [List.getElem?_toArray, List.getElem?_cons_succ, List.getElem?_cons_zero]; rfl) (by kernel_rfl) (by kernel_rfl) (by kernel_rfl) (by first | exact fun _ _ _ h => h | exact fun _ _ _ h => by cases h.1) (Or.inl ⟨by rfl, ?_⟩) hS ?_
            rotate_left
            · intro w' hS'
              unfold Held at hS'
              obtain ⟨hS1, hS3⟩ := hS'
              have hS2 := hv w' hS1
              clear hS1
              go_simp
              (first | rfl | (rw [if_neg (by omega)]; (first | done | rfl)))
            (try simp only [Act.put, List.setIfInBounds_toArray, List.set_cons_zero, List.set_cons_succ])
            refine wpAnyH_take (i := 16) (v := ?_) (by simp only [List.getElem?_toArray, List.getElem?_cons_succ, List.getElem?_cons_zero]; rfl) (by kernel_rfl) (by kernel_rfl) (by kernel_rfl) (by first | exact fun _ _ _ h => h | exact fun _ _ _ h => by cases h.1) (Or.inl ⟨by rfl, ?_⟩) hS ?_
            rotate_left
            · intro w' hS'
              unfold Held at hS'
              obtain ⟨hS1, hS3⟩ := hS'
              have hS2 := hv w' hS1
              clear hS1
              go_simp
              (first | rfl | (rw [if_neg (by omega)]; (first | done | rfl)))
            (try simp only [Act.put, List.setIfInBounds_toArray, List.set_cons_zero, List.set_cons_succ])
            refine wpAnyH_take (i := 19) (v := ?_) (by simp only [List.getElem?_toArray, List.getElem?_cons_succ, List.getElem?_cons_zero]; rfl) (by kernel_rfl) (by kernel_rfl) (by kernel_rfl) (by first | exact fun _ _ _ h => h | exact fun _ _ _ h => by cases h.1) (Or.inl ⟨by rfl, ?_⟩) hS ?_
            rotate_left
            · intro w' hS'
              unfold Held at hS'
              obtain ⟨hS1, hS3⟩ := hS'
              have hS2 := hv w' hS1
              clear hS1
              go_simp
              (first | rfl | (rw [if_neg (by omega)]; (first | done | rfl)))
            (try simp only [Act.put, List.setIfInBounds_toArray, List.set_cons_zero, List.set_cons_succ])
            refine wpAnyH_take (i := 23) (v := ?_) (by simp only [List.getElem?_toArray, List.getElem?_cons_succ, List.getElem?_cons_zero]; rfl) (by kernel_rfl) (by kernel_rfl) (by kernel_rfl) (by first | exact fun _ _ _ h => h | exact fun _ _ _ h => by cases h.1) (Or.inl ⟨by rfl, ?_⟩) hS ?_
            rotate_left
            · intro w' hS'
              unfold Held at hS'
              obtain ⟨hS1, hS3⟩ := hS'
              have hS2 := hv w' hS1
              clear hS1
              go_simp
              (first | rfl | (rw [if_neg (by omega)]; (first | done | rfl)))
            (try simp only [Act.put, List.setIfInBounds_toArray, List.set_cons_zero, List.set_cons_succ])
            refine wpAnyH_take (i := 26) (v := ?_) (by simp only [List.getElem?_toArray, List.getElem?_cons_succ, List.getElem?_cons_zero]; rfl) (by kernel_rfl) (by kernel_rfl) (by kernel_rfl) (by first | exact fun _ _ _ h => h | exact fun _ _ _ h => by cases h.1) (Or.inl ⟨by rfl, ?_⟩) hS ?_
            rotate_left
            · intro w' hS'
              unfold Held at hS'
              obtain ⟨hS1, hS3⟩ := hS'
              have hS2 := hv w' hS1
              clear hS1
              go_simp
              (first | rfl | (rw [if_neg (by omega)]; (first | done | rfl)))
            (try simp only [Act.put, List.setIfInBounds_toArray, List.set_cons_zero, List.set_cons_succ])
            refine wpAnyH_take (i := 27) (v := ?_) (by simp only [List.getElem?_toArray, List.getElem?_cons_succ, List.getElem?_cons_zero]; rfl) (by kernel_rfl) (by kernel_rfl) (by kernel_rfl) (by first | exact fun _ _ _ h => h | exact fun _ _ _ h => by cases h.1) (Or.inl ⟨by rfl, ?_⟩) hS ?_
            rotate_left
            · intro w' hS'
              unfold Held at hS'
              obtain ⟨hS1, hS3⟩ := hS'
              have hS2 := hv w' hS1
              clear hS1
              go_simp
              (first | rfl | (rw [if_neg (by omega)]; (first | done | rfl)))
            (try simp only [Act.put, List.setIfInBounds_toArray, List.set_cons_zero, List.set_cons_succ])
            refine wpAnyH_take (i := 28) (v := ?_) (by simp only [List.getElem?_toArray, List.getElem?_cons_succ, List.getElem?_cons_zero]; rfl) (by kernel_rfl) (by kernel_rfl) (by kernel_rfl) (by first | exact fun _ _ _ h => h | exact fun _ _ _ h => by cases h.1) (Or.inl ⟨by rfl, ?_⟩) hS ?_
            rotate_left
            · intro w' hS'
              unfold Held at hS'
              obtain ⟨hS1, hS3⟩ := hS'
              have hS2 := hv w' hS1
              clear hS1
              go_simp
              (first | rfl | (rw [if_neg (by omega)]; (first | done | rfl)))
            (try simp only [Act.put, List.setIfInBounds_toArray, List.set_cons_zero, List.set_cons_succ])
            refine wpAnyH_done (by kernel_rfl) ?_ _
            refine ⟨rfl, rfl, by simp, rfl, hSW⟩
      · skip
        refine wpOp_step rfl (fun K hK => ?_)
        clear hS
        go_simp
        rw [show (#[Value.int .u8 58, Value.int .u8 255] : Array Value) = (u8s [58, 255]).toArray from rfl]
        obtain ⟨A2, hA2⟩ : ∃ A, u1.heap.size = A := ⟨_, rfl⟩
        rw [hA2]
        obtain ⟨u11, hu11⟩ : ∃ U, u1.alloc (.cells (u8s [58, 255]).toArray 5) = U := ⟨_, rfl⟩
        rw [hu11]
        have rA2 : row u11 A2 = (u8s [58, 255]).toArray := by rw [← hu11]; exact row_alloc_at _ _ _ hA2.symm
        have su11 : u11.heap.size = u1.heap.size + 1 := by rw [← hu11]; simp
        have Hu11 : Below u1.heap.size u1 u11 := by rw [← hu11]; exact Below.alloc (Below.refl _ _) (Nat.le_refl _) _
        have zA2 : A2 < u11.heap.size := by omega
        replace rA1 := (row_below Hu11 zA1).trans rA1
        replace zA1 : A1 < u11.heap.size := by omega
        replace hSW : Below (w1).heap.size (w1) u11 := Below.trans hSW (Below.mono Hu11 zW)
        replace zW : (w1).heap.size ≤ u11.heap.size := by omega
        clear Hu11 hu11 su11 hA2
        refine hK _ _ (wpAnyH_next (S2 := Held (fun w' => Below (w1).heap.size (w1) w' ∧ (row w' A1 = (u8s [96, 0, 0, 0]).toArray ∧ row w' A2 = (u8s [58, 255]).toArray))) ⟨hSW, ⟨rA1, rA2⟩⟩ (fun w' h => ⟨h.1, h.2.1⟩) (fun hS => ?_))
        clear hK K
        refine wpAnyH_take (i := 7) (v := ?_) (by simp only [List.getElem?_toArray, List.getElem?_cons_succ, List.getElem?_cons_zero]; rfl) (by kernel_rfl) (by kernel_rfl) (by kernel_rfl) (by first | exact fun _ _ _ h => h | exact fun _ _ _ h => by cases h.1) (Or.inl ⟨by rfl, ?_⟩) hS ?_
        rotate_left
        · intro w' hS'
          unfold Held at hS'
          obtain ⟨hS1, hS3⟩ := hS'
          have hS2 := hv w' hS1
          clear hS1
          go_simp
          (first | rfl | (rw [if_neg (by omega)]; (first | done | rfl)))
        (try simp only [Act.put, List.setIfInBounds_toArray, List.set_cons_zero, List.set_cons_succ])
        refine wpAnyH_all (rs := [4]) (by kernel_rfl) (by simp) ?_
        intro i hi
        obtain rfl := List.mem_singleton.1 hi
        clear hi
        refine wpOp_step rfl (fun K hK => ?_)
        clear hS
        go_simp
        refine (two_any _ _ (by omega) (by omega)).mono ?_
        rintro e u12 ⟨rfl, Hu12⟩
        have zu12 := (Hu12).size
        replace hSW : Below (w1).heap.size (w1) u12 := Below.trans hSW (Below.mono Hu12 zW)
        replace rA1 := (row_below Hu12 zA1).trans rA1
        replace zA1 : A1 < u12.heap.size := by omega
        replace rA2 := (row_below Hu12 zA2).trans rA2
        replace zA2 : A2 < u12.heap.size := by omega
        replace zW : (w1).heap.size ≤ u12.heap.size := by omega
        refine hK _ _ (wpAnyH_same ⟨hSW, ⟨rA1, rA2⟩⟩ (fun hS => ?_))
        clear hK K Hu12
        refine wpAnyH_take (i := 5) (v := ?_) (by simp only [List.getElem?_toArray, List.getElem?_cons_succ, List.getElem?_cons_zero]; rfl) (by kernel_rfl) (by kernel_rfl) (by kernel_rfl) (by first | exact fun _ _ _ h => h | exact fun _ _ _ h => by cases h.1) (Or.inl ⟨by rfl, ?_⟩) hS ?_
        rotate_left
        · intro w' hS'
          unfold Held at hS'
          obtain ⟨hS1, hS3⟩ := hS'
          have hS2 := hv w' hS1
          clear hS1
          go_simp
          (first | rfl | (rw [if_neg (by omega)]; (first | done | rfl)))
        (try simp only [Act.put, List.setIfInBounds_toArray, List.set_cons_zero, List.set_cons_succ])
        refine wpAnyH_take (i := 8) (v := ?_) (by simp only [List.getElem?_toArray, List.getElem?_cons_succ, List.getElem?_cons_zero]; rfl) (by kernel_rfl) (by kernel_rfl) (by kernel_rfl) (by first | exact fun _ _ _ h => h | exact fun _ _ _ h => by cases h.1) (Or.inl ⟨by rfl, ?_⟩) hS ?_
        rotate_left
        · intro w' hS'
          unfold Held at hS'
          obtain ⟨hS1, hS3⟩ := hS'
          have hS2 := hv w' hS1
          clear hS1
          go_simp
          (first | rfl | (rw [if_neg (by omega)]; (first | done | rfl)))
        (try simp only [Act.put, List.setIfInBounds_toArray, List.set_cons_zero, List.set_cons_succ])
        refine wpAnyH_take (i := 12) (v := ?_) (by simp only [List.getElem?_toArray, List.getElem?_cons_succ, List.getElem?_cons_zero]; rfl) (by kernel_rfl) (by kernel_rfl) (by kernel_rfl) (by first | exact fun _ _ _ h => h | exact fun _ _ _ h => by cases h.1) (Or.inl ⟨by rfl, ?_⟩) hS ?_
        rotate_left
        · intro w' hS'
          unfold Held at hS'
          obtain ⟨hS1, hS3⟩ := hS'
          have hS2 := hv w' hS1
          clear hS1
          go_simp
          (first | rfl | (rw [if_neg (by omega)]; (first | done | rfl)))
        (try simp only [Act.put, List.setIfInBounds_toArray, List.set_cons_zero, List.set_cons_succ])
        refine wpAnyH_take (i := 16) (v := ?_) (by simp only [List.getElem?_toArray, List.getElem?_cons_succ, List.getElem?_cons_zero]; rfl) (by kernel_rfl) (by kernel_rfl) (by kernel_rfl) (by first | exact fun _ _ _ h => h | exact fun _ _ _ h => by cases h.1) (Or.inl ⟨by rfl, ?_⟩) hS ?_
        rotate_left
        · intro w' hS'
          unfold Held at hS'
          obtain ⟨hS1, hS3⟩ := hS'
          have hS2 := hv w' hS1
          clear hS1
          go_simp
          (first | rfl | (rw [if_neg (by omega)]; (first | done | rfl)))
        (try simp only [Act.put, List.setIfInBounds_toArray, List.set_cons_zero, List.set_cons_succ])
        refine wpAnyH_take (i := 19) (v := ?_) (by simp only [List.getElem?_toArray, List.getElem?_cons_succ, List.getElem?_cons_zero]; rfl) (by kernel_rfl) (by kernel_rfl) (by kernel_rfl) (by first | exact fun _ _ _ h => h | exact fun _ _ _ h => by cases h.1) (Or.inl ⟨by rfl, ?_⟩) hS ?_
        rotate_left
        · intro w' hS'
          unfold Held at hS'
          obtain ⟨hS1, hS3⟩ := hS'
          have hS2 := hv w' hS1
          clear hS1
          go_simp
          (first | rfl | (rw [if_neg (by omega)]; (first | done | rfl)))
        (try simp only [Act.put, List.setIfInBounds_toArray, List.set_cons_zero, List.set_cons_succ])
        refine wpAnyH_all (rs := [21]) (by kernel_rfl) (by simp) ?_
        intro i hi
        obtain rfl := List.mem_singleton.1 hi
        clear hi
        refine wpOp_step rfl (fun K hK => ?_)
        clear hS
        go_simp
        refine (HS _).mono ?_
        rintro e u13 ⟨rfl, Hu13⟩
        have zu13 := (Hu13).size
        replace hSW : Below (w1).heap.size (w1) u13 := Below.trans hSW (Below.mono Hu13 zW)
        replace rA1 := (row_below Hu13 zA1).trans rA1
        replace zA1 : A1 < u13.heap.size := by omega
        replace rA2 := (row_below Hu13 zA2).trans rA2
        replace zA2 : A2 < u13.heap.size := by omega
        replace zW : (w1).heap.size ≤ u13.heap.size := by omega
        refine hK _ _ (wpAnyH_same ⟨hSW, ⟨rA1, rA2⟩⟩ (fun hS => ?_))
        clear hK K Hu13
        refine wpAnyH_all (rs := [22]) (by kernel_rfl) (by simp) ?_
        intro i hi
        obtain rfl := List.mem_singleton.1 hi
        clear hi
        refine wpOp_step rfl (fun K hK => ?_)
        clear hS
        go_simp
        refine (two_any _ _ (by omega) (by omega)).mono ?_
        rintro e u14 ⟨rfl, Hu14⟩
        have zu14 := (Hu14).size
        replace hSW : Below (w1).heap.size (w1) u14 := Below.trans hSW (Below.mono Hu14 zW)
        replace rA1 := (row_below Hu14 zA1).trans rA1
        replace zA1 : A1 < u14.heap.size := by omega
        replace rA2 := (row_below Hu14 zA2).trans rA2
        replace zA2 : A2 < u14.heap.size := by omega
        replace zW : (w1).heap.size ≤ u14.heap.size := by omega
        refine hK _ _ (wpAnyH_same ⟨hSW, ⟨rA1, rA2⟩⟩ (fun hS => ?_))
        clear hK K Hu14
        refine wpAnyH_take (i := 23) (v := ?_) (by simp only [List.getElem?_toArray, List.getElem?_cons_succ, List.getElem?_cons_zero]; rfl) (by kernel_rfl) (by kernel_rfl) (by kernel_rfl) (by first | exact fun _ _ _ h => h | exact fun _ _ _ h => by cases h.1) (Or.inl ⟨by rfl, ?_⟩) hS ?_
        rotate_left
        · intro w' hS'
          unfold Held at hS'
          obtain ⟨hS1, hS3⟩ := hS'
          have hS2 := hv w' hS1
          clear hS1
          go_simp
          (first | rfl | (rw [if_neg (by omega)]; (first | done | rfl)))
        (try simp only [Act.put, List.setIfInBounds_toArray, List.set_cons_zero, List.set_cons_succ])
        refine wpAnyH_take (i := 26) (v := ?_) (by simp only [List.getElem?_toArray, List.getElem?_cons_succ, List.getElem?_cons_zero]; rfl) (by kernel_rfl) (by kernel_rfl) (by kernel_rfl) (by first | exact fun _ _ _ h => h | exact fun _ _ _ h => by cases h.1) (Or.inl ⟨by rfl, ?_⟩) hS ?_
        rotate_left
        · intro w' hS'
          unfold Held at hS'
          obtain ⟨hS1, hS3⟩ := hS'
          have hS2 := hv w' hS1
          clear hS1
          go_simp
          (first | rfl | (rw [if_neg (by omega)]; (first | done | rfl)))
        (try simp only [Act.put, List.setIfInBounds_toArray, List.set_cons_zero, List.set_cons_succ])
        refine wpAnyH_take (i := 27) (v := ?_) (by simp only [List.getElem?_toArray, List.getElem?_cons_succ, List.getElem?_cons_zero]; rfl) (by kernel_rfl) (by kernel_rfl) (by kernel_rfl) (by first | exact fun _ _ _ h => h | exact fun _ _ _ h => by cases h.1) (Or.inl ⟨by rfl, ?_⟩) hS ?_
        rotate_left
        · intro w' hS'
          unfold Held at hS'
          obtain ⟨hS1, hS3⟩ := hS'
          have hS2 := hv w' hS1
          clear hS1
          go_simp
          (first | rfl | (rw [if_neg (by omega)]; (first | done | rfl)))
        (try simp only [Act.put, List.setIfInBounds_toArray, List.set_cons_zero, List.set_cons_succ])
        refine wpAnyH_take (i := 28) (v := ?_) (by simp only [List.getElem?_toArray, List.getElem?_cons_succ, List.getElem?_cons_zero]; rfl) (by kernel_rfl) (by kernel_rfl) (by kernel_rfl) (by first | exact fun _ _ _ h => h | exact fun _ _ _ h => by cases h.1) (Or.inl ⟨by rfl, ?_⟩) hS ?_
        rotate_left
        · intro w' hS'
          unfold Held at hS'
          obtain ⟨hS1, hS3⟩ := hS'
          have hS2 := hv w' hS1
          clear hS1
          go_simp
          (first | rfl | (rw [if_neg (by omega)]; (first | done | rfl)))
        (try simp only [Act.put, List.setIfInBounds_toArray, List.set_cons_zero, List.set_cons_succ])
        refine wpAnyH_done (by kernel_rfl) ?_ _
        refine ⟨rfl, rfl, by simp, rfl, hSW⟩
    · skip
      refine wpOp_step rfl (fun K hK => ?_)
      clear hS
      go_simp
      refine (two_any _ _ (by omega) (by omega)).mono ?_
      rintro e u15 ⟨rfl, Hu15⟩
      have zu15 := (Hu15).size
      replace hSW : Below (w1).heap.size (w1) u15 := Below.trans hSW (Below.mono Hu15 zW)
      replace zW : (w1).heap.size ≤ u15.heap.size := by omega
      refine hK _ _ (wpAnyH_same ⟨hSW, trivial⟩ (fun hS => ?_))
      clear hK K Hu15
      refine wpAnyH_all (rs := [0, 6, 21]) (by kernel_rfl) (by simp) ?_
      intro i hi
      simp only [List.mem_cons, List.not_mem_nil, or_false] at hi
      rcases hi with rfl | rfl | rfl
      · skip
        refine wpOp_step rfl (fun K hK => ?_)
        clear hS
        go_simp
        rw [show (#[Value.int .u8 96, Value.int .u8 0, Value.int .u8 0, Value.int .u8 0] : Array Value) = (u8s [96, 0, 0, 0]).toArray from rfl]
        obtain ⟨A1, hA1⟩ : ∃ A, u15.heap.size = A := ⟨_, rfl⟩
        rw [hA1]
        obtain ⟨u16, hu16⟩ : ∃ U, u15.alloc (.cells (u8s [96, 0, 0, 0]).toArray 5) = U := ⟨_, rfl⟩
        rw [hu16]
        have rA1 : row u16 A1 = (u8s [96, 0, 0, 0]).toArray := by rw [← hu16]; exact row_alloc_at _ _ _ hA1.symm
        have su16 : u16.heap.size = u15.heap.size + 1 := by rw [← hu16]; simp
        have Hu16 : Below u15.heap.size u15 u16 := by rw [← hu16]; exact Below.alloc (Below.refl _ _) (Nat.le_refl _) _
        have zA1 : A1 < u16.heap.size := by omega
        replace hSW : Below (w1).heap.size (w1) u16 := Below.trans hSW (Below.mono Hu16 zW)
        replace zW : (w1).heap.size ≤ u16.heap.size := by omega
        clear Hu16 hu16 su16 hA1
        refine hK _ _ (wpAnyH_next (S2 := Held (fun w' => Below (w1).heap.size (w1) w' ∧ (row w' A1 = (u8s [96, 0, 0, 0]).toArray))) ⟨hSW, rA1⟩ (fun w' h => ⟨h.1, trivial⟩) (fun hS => ?_))
        clear hK K
        refine wpAnyH_take (i := 1) (v := ?_) (by simp only [List.getElem?_toArray, List.getElem?_cons_succ, List.getElem?_cons_zero]; rfl) (by kernel_rfl) (by kernel_rfl) (by kernel_rfl) (by first | exact fun _ _ _ h => h | exact fun _ _ _ h => by cases h.1) (Or.inl ⟨by rfl, ?_⟩) hS ?_
        rotate_left
        · intro w' hS'
          unfold Held at hS'
          obtain ⟨hS1, hS3⟩ := hS'
          have hS2 := hv w' hS1
          clear hS1
          go_simp
          (first | rfl | (rw [if_neg (by omega)]; (first | done | rfl)))
        (try simp only [Act.put, List.setIfInBounds_toArray, List.set_cons_zero, List.set_cons_succ])
        refine wpAnyH_take (i := 5) (v := ?_) (by simp only [List.getElem?_toArray, List.getElem?_cons_succ, List.getElem?_cons_zero]; rfl) (by kernel_rfl) (by kernel_rfl) (by kernel_rfl) (by first | exact fun _ _ _ h => h | exact fun _ _ _ h => by cases h.1) (Or.inl ⟨by rfl, ?_⟩) hS ?_
        rotate_left
        · intro w' hS'
          unfold Held at hS'
          obtain ⟨hS1, hS3⟩ := hS'
          have hS2 := hv w' hS1
          clear hS1
          go_simp
          (first | rfl | (rw [if_neg (by omega)]; (first | done | rfl)))
        (try simp only [Act.put, List.setIfInBounds_toArray, List.set_cons_zero, List.set_cons_succ])
        refine wpAnyH_all (rs := [6, 21]) (by kernel_rfl) (by simp) ?_
        intro i hi
        simp only [List.mem_cons, List.not_mem_nil, or_false] at hi
        rcases hi with rfl | rfl
        · skip
          refine wpOp_step rfl (fun K hK => ?_)
          clear hS
          go_simp
          rw [show (#[Value.int .u8 58, Value.int .u8 255] : Array Value) = (u8s [58, 255]).toArray from rfl]
          obtain ⟨A2, hA2⟩ : ∃ A, u16.heap.size = A := ⟨_, rfl⟩
          rw [hA2]
          obtain ⟨u17, hu17⟩ : ∃ U, u16.alloc (.cells (u8s [58, 255]).toArray 5) = U := ⟨_, rfl⟩
          rw [hu17]
          have rA2 : row u17 A2 = (u8s [58, 255]).toArray := by rw [← hu17]; exact row_alloc_at _ _ _ hA2.symm
          have su17 : u17.heap.size = u16.heap.size + 1 := by rw [← hu17]; simp
          have Hu17 : Below u16.heap.size u16 u17 := by rw [← hu17]; exact Below.alloc (Below.refl _ _) (Nat.le_refl _) _
          have zA2 : A2 < u17.heap.size := by omega
          replace rA1 := (row_below Hu17 zA1).trans rA1
          replace zA1 : A1 < u17.heap.size := by omega
          replace hSW : Below (w1).heap.size (w1) u17 := Below.trans hSW (Below.mono Hu17 zW)
          replace zW : (w1).heap.size ≤ u17.heap.size := by omega
          clear Hu17 hu17 su17 hA2
          refine hK _ _ (wpAnyH_next (S2 := Held (fun w' => Below (w1).heap.size (w1) w' ∧ (row w' A1 = (u8s [96, 0, 0, 0]).toArray ∧ row w' A2 = (u8s [58, 255]).toArray))) ⟨hSW, ⟨rA1, rA2⟩⟩ (fun w' h => ⟨h.1, h.2.1⟩) (fun hS => ?_))
          clear hK K
          refine wpAnyH_take (i := 7) (v := ?_) (by simp only [List.getElem?_toArray, List.getElem?_cons_succ, List.getElem?_cons_zero]; rfl) (by kernel_rfl) (by kernel_rfl) (by kernel_rfl) (by first | exact fun _ _ _ h => h | exact fun _ _ _ h => by cases h.1) (Or.inl ⟨by rfl, ?_⟩) hS ?_
          rotate_left
          · intro w' hS'
            unfold Held at hS'
            obtain ⟨hS1, hS3⟩ := hS'
            have hS2 := hv w' hS1
            clear hS1
            go_simp
            (first | rfl | (rw [if_neg (by omega)]; (first | done | rfl)))
          (try simp only [Act.put, List.setIfInBounds_toArray, List.set_cons_zero, List.set_cons_succ])
          refine wpAnyH_take (i := 8) (v := ?_) (by simp only [List.getElem?_toArray, List.getElem?_cons_succ, List.getElem?_cons_zero]; rfl) (by kernel_rfl) (by kernel_rfl) (by kernel_rfl) (by first | exact fun _ _ _ h => h | exact fun _ _ _ h => by cases h.1) (Or.inl ⟨by rfl, ?_⟩) hS ?_
          rotate_left
          · intro w' hS'
            unfold Held at hS'
            obtain ⟨hS1, hS3⟩ := hS'
            have hS2 := hv w' hS1
            clear hS1
            go_simp
            (first | rfl | (rw [if_neg (by omega)]; (first | done | rfl)))
          (try simp only [Act.put, List.setIfInBounds_toArray, List.set_cons_zero, List.set_cons_succ])
          refine wpAnyH_take (i := 12) (v := ?_) (by simp only [List.getElem?_toArray, List.getElem?_cons_succ, List.getElem?_cons_zero]; rfl) (by kernel_rfl) (by kernel_rfl) (by kernel_rfl) (by first | exact fun _ _ _ h => h | exact fun _ _ _ h => by cases h.1) (Or.inl ⟨by rfl, ?_⟩) hS ?_
          rotate_left
          · intro w' hS'
            unfold Held at hS'
            obtain ⟨hS1, hS3⟩ := hS'
            have hS2 := hv w' hS1
            clear hS1
            go_simp
            (first | rfl | (rw [if_neg (by omega)]; (first | done | rfl)))
          (try simp only [Act.put, List.setIfInBounds_toArray, List.set_cons_zero, List.set_cons_succ])
          refine wpAnyH_take (i := 16) (v := ?_) (by simp only [List.getElem?_toArray, List.getElem?_cons_succ, List.getElem?_cons_zero]; rfl) (by kernel_rfl) (by kernel_rfl) (by kernel_rfl) (by first | exact fun _ _ _ h => h | exact fun _ _ _ h => by cases h.1) (Or.inl ⟨by rfl, ?_⟩) hS ?_
          rotate_left
          · intro w' hS'
            unfold Held at hS'
            obtain ⟨hS1, hS3⟩ := hS'
            have hS2 := hv w' hS1
            clear hS1
            go_simp
            (first | rfl | (rw [if_neg (by omega)]; (first | done | rfl)))
          (try simp only [Act.put, List.setIfInBounds_toArray, List.set_cons_zero, List.set_cons_succ])
          refine wpAnyH_take (i := 19) (v := ?_) (by simp only [List.getElem?_toArray, List.getElem?_cons_succ, List.getElem?_cons_zero]; rfl) (by kernel_rfl) (by kernel_rfl) (by kernel_rfl) (by first | exact fun _ _ _ h => h | exact fun _ _ _ h => by cases h.1) (Or.inl ⟨by rfl, ?_⟩) hS ?_
          rotate_left
          · intro w' hS'
            unfold Held at hS'
            obtain ⟨hS1, hS3⟩ := hS'
            have hS2 := hv w' hS1
            clear hS1
            go_simp
            (first | rfl | (rw [if_neg (by omega)]; (first | done | rfl)))
          (try simp only [Act.put, List.setIfInBounds_toArray, List.set_cons_zero, List.set_cons_succ])
          refine wpAnyH_all (rs := [21]) (by kernel_rfl) (by simp) ?_
          intro i hi
          obtain rfl := List.mem_singleton.1 hi
          clear hi
          refine wpOp_step rfl (fun K hK => ?_)
          clear hS
          go_simp
          refine (HS _).mono ?_
          rintro e u18 ⟨rfl, Hu18⟩
          have zu18 := (Hu18).size
          replace hSW : Below (w1).heap.size (w1) u18 := Below.trans hSW (Below.mono Hu18 zW)
          replace rA1 := (row_below Hu18 zA1).trans rA1
          replace zA1 : A1 < u18.heap.size := by omega
          replace rA2 := (row_below Hu18 zA2).trans rA2
          replace zA2 : A2 < u18.heap.size := by omega
          replace zW : (w1).heap.size ≤ u18.heap.size := by omega
          refine hK _ _ (wpAnyH_same ⟨hSW, ⟨rA1, rA2⟩⟩ (fun hS => ?_))
          clear hK K Hu18
          refine wpAnyH_all (rs := [22]) (by kernel_rfl) (by simp) ?_
          intro i hi
          obtain rfl := List.mem_singleton.1 hi
          clear hi
          refine wpOp_step rfl (fun K hK => ?_)
          clear hS
          go_simp
          refine (two_any _ _ (by omega) (by omega)).mono ?_
          rintro e u19 ⟨rfl, Hu19⟩
          have zu19 := (Hu19).size
          replace hSW : Below (w1).heap.size (w1) u19 := Below.trans hSW (Below.mono Hu19 zW)
          replace rA1 := (row_below Hu19 zA1).trans rA1
          replace zA1 : A1 < u19.heap.size := by omega
          replace rA2 := (row_below Hu19 zA2).trans rA2
          replace zA2 : A2 < u19.heap.size := by omega
          replace zW : (w1).heap.size ≤ u19.heap.size := by omega
          refine hK _ _ (wpAnyH_same ⟨hSW, ⟨rA1, rA2⟩⟩ (fun hS => ?_))
          clear hK K Hu19
          refine wpAnyH_take (i := 23) (v := ?_) (by simp only [List.getElem?_toArray, List.getElem?_cons_succ, List.getElem?_cons_zero]; rfl) (by kernel_rfl) (by kernel_rfl) (by kernel_rfl) (by first | exact fun _ _ _ h => h | exact fun _ _ _ h => by cases h.1) (Or.inl ⟨by rfl, ?_⟩) hS ?_
          rotate_left
          · intro w' hS'
            unfold Held at hS'
            obtain ⟨hS1, hS3⟩ := hS'
            have hS2 := hv w' hS1
            clear hS1
            go_simp
            (first | rfl | (rw [if_neg (by omega)]; (first | done | rfl)))
          (try simp only [Act.put, List.setIfInBounds_toArray, List.set_cons_zero, List.set_cons_succ])
          refine wpAnyH_take (i := 26) (v := ?_) (by simp only [List.getElem?_toArray, List.getElem?_cons_succ, List.getElem?_cons_zero]; rfl) (by kernel_rfl) (by kernel_rfl) (by kernel_rfl) (by first | exact fun _ _ _ h => h | exact fun _ _ _ h => by cases h.1) (Or.inl ⟨by rfl, ?_⟩) hS ?_
          rotate_left
          · intro w' hS'
            unfold Held at hS'
            obtain ⟨hS1, hS3⟩ := hS'
            have hS2 := hv w' hS1
            clear hS1
            go_simp
            (first | rfl | (rw [if_neg (by omega)]; (first | done | rfl)))
          (try simp only [Act.put, List.setIfInBounds_toArray, List.set_cons_zero, List.set_cons_succ])
          refine wpAnyH_take (i := 27) (v := ?_) (by simp only [List.getElem?_toArray, List.getElem?_cons_succ, List.getElem?_cons_zero]; rfl) (by kernel_rfl) (by kernel_rfl) (by kernel_rfl) (by first | exact fun _ _ _ h => h | exact fun _ _ _ h => by cases h.1) (Or.inl ⟨by rfl, ?_⟩) hS ?_
          rotate_left
          · intro w' hS'
            unfold Held at hS'
            obtain ⟨hS1, hS3⟩ := hS'
            have hS2 := hv w' hS1
            clear hS1
            go_simp
            (first | rfl | (rw [if_neg (by omega)]; (first | done | rfl)))
          (try simp only [Act.put, List.setIfInBounds_toArray, List.set_cons_zero, List.set_cons_succ])
          refine wpAnyH_take (i := 28) (v := ?_) (by simp only [List.getElem?_toArray, List.getElem?_cons_succ, List.getElem?_cons_zero]; rfl) (by kernel_rfl) (by kernel_rfl) (by kernel_rfl) (by first | exact fun _ _ _ h => h | exact fun _ _ _ h => by cases h.1) (Or.inl ⟨by rfl, ?_⟩) hS ?_
          rotate_left
          · intro w' hS'
            unfold Held at hS'
            obtain ⟨hS1, hS3⟩ := hS'
            have hS2 := hv w' hS1
            clear hS1
            go_simp
            (first | rfl | (rw [if_neg (by omega)]; (first | done | rfl)))
          (try simp only [Act.put, List.setIfInBounds_toArray, List.set_cons_zero, List.set_cons_succ])
          refine wpAnyH_done (by kernel_rfl) ?_ _
          refine ⟨rfl, rfl, by simp, rfl, hSW⟩
        · skip
          refine wpOp_step rfl (fun K hK => ?_)
          clear hS
          go_simp
          refine (HS _).mono ?_
          rintro e u20 ⟨rfl, Hu20⟩
          have zu20 := (Hu20).size
          replace hSW : Below (w1).heap.size (w1) u20 := Below.trans hSW (Below.mono Hu20 zW)
          replace rA1 := (row_below Hu20 zA1).trans rA1
          replace zA1 : A1 < u20.heap.size := by omega
          replace zW : (w1).heap.size ≤ u20.heap.size := by omega
          refine hK _ _ (wpAnyH_same ⟨hSW, rA1⟩ (fun hS => ?_))
          clear hK K Hu20
          refine wpAnyH_all (rs := [6, 22]) (by kernel_rfl) (by simp) ?_
          intro i hi
          simp only [List.mem_cons, List.not_mem_nil, or_false] at hi
          rcases hi with rfl | rfl
          · skip
            refine wpOp_step rfl (fun K hK => ?_)
            clear hS
            go_simp
            rw [show (#[Value.int .u8 58, Value.int .u8 255] : Array Value) = (u8s [58, 255]).toArray from rfl]
            obtain ⟨A2, hA2⟩ : ∃ A, u20.heap.size = A := ⟨_, rfl⟩
            rw [hA2]
            obtain ⟨u21, hu21⟩ : ∃ U, u20.alloc (.cells (u8s [58, 255]).toArray 5) = U := ⟨_, rfl⟩
            rw [hu21]
            have rA2 : row u21 A2 = (u8s [58, 255]).toArray := by rw [← hu21]; exact row_alloc_at _ _ _ hA2.symm
            have su21 : u21.heap.size = u20.heap.size + 1 := by rw [← hu21]; simp
            have Hu21 : Below u20.heap.size u20 u21 := by rw [← hu21]; exact Below.alloc (Below.refl _ _) (Nat.le_refl _) _
            have zA2 : A2 < u21.heap.size := by omega
            replace rA1 := (row_below Hu21 zA1).trans rA1
            replace zA1 : A1 < u21.heap.size := by omega
            replace hSW : Below (w1).heap.size (w1) u21 := Below.trans hSW (Below.mono Hu21 zW)
            replace zW : (w1).heap.size ≤ u21.heap.size := by omega
            clear Hu21 hu21 su21 hA2
            refine hK _ _ (wpAnyH_next (S2 := Held (fun w' => Below (w1).heap.size (w1) w' ∧ (row w' A1 = (u8s [96, 0, 0, 0]).toArray ∧ row w' A2 = (u8s [58, 255]).toArray))) ⟨hSW, ⟨rA1, rA2⟩⟩ (fun w' h => ⟨h.1, h.2.1⟩) (fun hS => ?_))
            clear hK K
            refine wpAnyH_take (i := 7) (v := ?_) (by simp only [List.getElem?_toArray, List.getElem?_cons_succ, List.getElem?_cons_zero]; rfl) (by kernel_rfl) (by kernel_rfl) (by kernel_rfl) (by first | exact fun _ _ _ h => h | exact fun _ _ _ h => by cases h.1) (Or.inl ⟨by rfl, ?_⟩) hS ?_
            rotate_left
            · intro w' hS'
              unfold Held at hS'
              obtain ⟨hS1, hS3⟩ := hS'
              have hS2 := hv w' hS1
              clear hS1
              go_simp
              (first | rfl | (rw [if_neg (by omega)]; (first | done | rfl)))
            (try simp only [Act.put, List.setIfInBounds_toArray, List.set_cons_zero, List.set_cons_succ])
            refine wpAnyH_take (i := 8) (v := ?_) (by simp only [List.getElem?_toArray, List.getElem?_cons_succ, List.getElem?_cons_zero]; rfl) (by kernel_rfl) (by kernel_rfl) (by kernel_rfl) (by first | exact fun _ _ _ h => h | exact fun _ _ _ h => by cases h.1) (Or.inl ⟨by rfl, ?_⟩) hS ?_
            rotate_left
            · intro w' hS'
              unfold Held at hS'
              obtain ⟨hS1, hS3⟩ := hS'
              have hS2 := hv w' hS1
              clear hS1
              go_simp
              (first | rfl | (rw [if_neg (by omega)]; (first | done | rfl)))
            (try simp only [Act.put, List.setIfInBounds_toArray, List.set_cons_zero, List.set_cons_succ])
            refine wpAnyH_take (i := 12) (v := ?_) (by simp only [List.getElem?_toArray, List.getElem?_cons_succ, List.getElem?_cons_zero]; rfl) (by kernel_rfl) (by kernel_rfl) (by kernel_rfl) (by first | exact fun _ _ _ h => h | exact fun _ _ _ h => by cases h.1) (Or.inl ⟨by rfl, ?_⟩) hS ?_
            rotate_left
            · intro w' hS'
              unfold Held at hS'
              obtain ⟨hS1, hS3⟩ := hS'
              have hS2 := hv w' hS1
              clear hS1
              go_simp
              (first | rfl | (rw [if_neg (by omega)]; (first | done | rfl)))
            (try simp only [Act.put, List.setIfInBounds_toArray, List.set_cons_zero, List.set_cons_succ])
            refine wpAnyH_take (i := 16) (v := ?_) (by simp only [List.getElem?_toArray, List.getElem?_cons_succ, List.getElem?_cons_zero]; rfl) (by kernel_rfl) (by kernel_rfl) (by kernel_rfl) (by first | exact fun _ _ _ h => h | exact fun _ _ _ h => by cases h.1) (Or.inl ⟨by rfl, ?_⟩) hS ?_
            rotate_left
            · intro w' hS'
              unfold Held at hS'
              obtain ⟨hS1, hS3⟩ := hS'
              have hS2 := hv w' hS1
              clear hS1
              go_simp
              (first | rfl | (rw [if_neg (by omega)]; (first | done | rfl)))
            (try simp only [Act.put, List.setIfInBounds_toArray, List.set_cons_zero, List.set_cons_succ])
            refine wpAnyH_take (i := 19) (v := ?_) (by simp only [List.getElem?_toArray, List.getElem?_cons_succ, List.getElem?_cons_zero]; rfl) (by kernel_rfl) (by kernel_rfl) (by kernel_rfl) (by first | exact fun _ _ _ h => h | exact fun _ _ _ h => by cases h.1) (Or.inl ⟨by rfl, ?_⟩) hS ?_
            rotate_left
            · intro w' hS'
              unfold Held at hS'
              obtain ⟨hS1, hS3⟩ := hS'
              have hS2 := hv w' hS1
              clear hS1
              go_simp
              (first | rfl | (rw [if_neg (by omega)]; (first | done | rfl)))
            (try simp only [Act.put, List.setIfInBounds_toArray, List.set_cons_zero, List.set_cons_succ])
            refine wpAnyH_all (rs := [22]) (by kernel_rfl) (by simp) ?_
            intro i hi
            obtain rfl := List.mem_singleton.1 hi
            clear hi
            refine wpOp_step rfl (fun K hK => ?_)
            clear hS
            go_simp
            refine (two_any _ _ (by omega) (by omega)).mono ?_
            rintro e u22 ⟨rfl, Hu22⟩
            have zu22 := (Hu22).size
            replace hSW : Below (w1).heap.size (w1) u22 := Below.trans hSW (Below.mono Hu22 zW)
            replace rA1 := (row_below Hu22 zA1).trans rA1
            replace zA1 : A1 < u22.heap.size := by omega
            replace rA2 := (row_below Hu22 zA2).trans rA2
            replace zA2 : A2 < u22.heap.size := by omega
            replace zW : (w1).heap.size ≤ u22.heap.size := by omega
            refine hK _ _ (wpAnyH_same ⟨hSW, ⟨rA1, rA2⟩⟩ (fun hS => ?_))
            clear hK K Hu22
            refine wpAnyH_take (i := 23) (v := ?_) (by simp only [List.getElem?_toArray, List.getElem?_cons_succ, List.getElem?_cons_zero]; rfl) (by kernel_rfl) (by kernel_rfl) (by kernel_rfl) (by first | exact fun _ _ _ h => h | exact fun _ _ _ h => by cases h.1) (Or.inl ⟨by rfl, ?_⟩) hS ?_
            rotate_left
            · intro w' hS'
              unfold Held at hS'
              obtain ⟨hS1, hS3⟩ := hS'
              have hS2 := hv w' hS1
              clear hS1
              go_simp
              (first | rfl | (rw [if_neg (by omega)]; (first | done | rfl)))
            (try simp only [Act.put, List.setIfInBounds_toArray, List.set_cons_zero, List.set_cons_succ])
            refine wpAnyH_take (i := 26) (v := ?_) (by simp only [List.getElem?_toArray, List.getElem?_cons_succ, List.getElem?_cons_zero]; rfl) (by kernel_rfl) (by kernel_rfl) (by kernel_rfl) (by first | exact fun _ _ _ h => h | exact fun _ _ _ h => by cases h.1) (Or.inl ⟨by rfl, ?_⟩) hS ?_
            rotate_left
            · intro w' hS'
              unfold Held at hS'
              obtain ⟨hS1, hS3⟩ := hS'
              have hS2 := hv w' hS1
              clear hS1
              go_simp
              (first | rfl | (rw [if_neg (by omega)]; (first | done | rfl)))
            (try simp only [Act.put, List.setIfInBounds_toArray, List.set_cons_zero, List.set_cons_succ])
            refine wpAnyH_take (i := 27) (v := ?_) (by simp only [List.getElem?_toArray, List.getElem?_cons_succ, List.getElem?_cons_zero]; rfl) (by kernel_rfl) (by kernel_rfl) (by kernel_rfl) (by first | exact fun _ _ _ h => h | exact fun _ _ _ h => by cases h.1) (Or.inl ⟨by rfl, ?_⟩) hS ?_
            rotate_left
            · intro w' hS'
              unfold Held at hS'
              obtain ⟨hS1, hS3⟩ := hS'
              have hS2 := hv w' hS1
              clear hS1
              go_simp
              (first | rfl | (rw [if_neg (by omega)]; (first | done | rfl)))
            (try simp only [Act.put, List.setIfInBounds_toArray, List.set_cons_zero, List.set_cons_succ])
            refine wpAnyH_take (i := 28) (v := ?_) (by simp only [List.getElem?_toArray, List.getElem?_cons_succ, List.getElem?_cons_zero]; rfl) (by kernel_rfl) (by kernel_rfl) (by kernel_rfl) (by first | exact fun _ _ _ h => h | exact fun _ _ _ h => by cases h.1) (Or.inl ⟨by rfl, ?_⟩) hS ?_
            rotate_left
            · intro w' hS'
              unfold Held at hS'
              obtain ⟨hS1, hS3⟩ := hS'
              have hS2 := hv w' hS1
              clear hS1
              go_simp
              (first | rfl | (rw [if_neg (by omega)]; (first | done | rfl)))
            (try simp only [Act.put, List.setIfInBounds_toArray, List.set_cons_zero, List.set_cons_succ])
            refine wpAnyH_done (by kernel_rfl) ?_ _
            refine ⟨rfl, rfl, by simp, rfl, hSW⟩
          · skip
            refine wpOp_step rfl (fun K hK => ?_)
            clear hS
            go_simp
            refine (two_any _ _ (by omega) (by omega)).mono ?_
            rintro e u23 ⟨rfl, Hu23⟩
            have zu23 := (Hu23).size
            replace hSW : Below (w1).heap.size (w1) u23 := Below.trans hSW (Below.mono Hu23 zW)
            replace rA1 := (row_below Hu23 zA1).trans rA1
            replace zA1 : A1 < u23.heap.size := by omega
            replace zW : (w1).heap.size ≤ u23.heap.size := by omega
            refine hK _ _ (wpAnyH_same ⟨hSW, rA1⟩ (fun hS => ?_))
            clear hK K Hu23
            refine wpAnyH_all (rs := [6]) (by kernel_rfl) (by simp) ?_
            intro i hi
            obtain rfl := List.mem_singleton.1 hi
            clear hi
            refine wpOp_step rfl (fun K hK => ?_)
            clear hS
            go_simp
            rw [show (#[Value.int .u8 58, Value.int .u8 255] : Array Value) = (u8s [58, 255]).toArray from rfl]
            obtain ⟨A2, hA2⟩ : ∃ A, u23.heap.size = A := ⟨_, rfl⟩
            rw [hA2]
            obtain ⟨u24, hu24⟩ : ∃ U, u23.alloc (.cells (u8s [58, 255]).toArray 5) = U := ⟨_, rfl⟩
            rw [hu24]
            have rA2 : row u24 A2 = (u8s [58, 255]).toArray := by rw [← hu24]; exact row_alloc_at _ _ _ hA2.symm
            have su24 : u24.heap.size = u23.heap.size + 1 := by rw [← hu24]; simp
            have Hu24 : Below u23.heap.size u23 u24 := by rw [← hu24]; exact Below.alloc (Below.refl _ _) (Nat.le_refl _) _
            have zA2 : A2 < u24.heap.size := by omega
            replace rA1 := (row_below Hu24 zA1).trans rA1
            replace zA1 : A1 < u24.heap.size := by omega
            replace hSW : Below (w1).heap.size (w1) u24 := Below.trans hSW (Below.mono Hu24 zW)
            replace zW : (w1).heap.size ≤ u24.heap.size := by omega
            clear Hu24 hu24 su24 hA2
            refine hK _ _ (wpAnyH_next (S2 := Held (fun w' => Below (w1).heap.size (w1) w' ∧ (row w' A1 = (u8s [96, 0, 0, 0]).toArray ∧ row w' A2 = (u8s [58, 255]).toArray))) ⟨hSW, ⟨rA1, rA2⟩⟩ (fun w' h => ⟨h.1, h.2.1⟩) (fun hS => ?_))
            clear hK K
            refine wpAnyH_take (i := 7) (v := ?_) (by simp only [List.getElem?_toArray, List.getElem?_cons_succ, List.getElem?_cons_zero]; rfl) (by kernel_rfl) (by kernel_rfl) (by kernel_rfl) (by first | exact fun _ _ _ h => h | exact fun _ _ _ h => by cases h.1) (Or.inl ⟨by rfl, ?_⟩) hS ?_
            rotate_left
            · intro w' hS'
              unfold Held at hS'
              obtain ⟨hS1, hS3⟩ := hS'
              have hS2 := hv w' hS1
              clear hS1
              go_simp
              (first | rfl | (rw [if_neg (by omega)]; (first | done | rfl)))
            (try simp only [Act.put, List.setIfInBounds_toArray, List.set_cons_zero, List.set_cons_succ])
            refine wpAnyH_take (i := 8) (v := ?_) (by simp only [List.getElem?_toArray, List.getElem?_cons_succ, List.getElem?_cons_zero]; rfl) (by kernel_rfl) (by kernel_rfl) (by kernel_rfl) (by first | exact fun _ _ _ h => h | exact fun _ _ _ h => by cases h.1) (Or.inl ⟨by rfl, ?_⟩) hS ?_
            rotate_left
            · intro w' hS'
              unfold Held at hS'
              obtain ⟨hS1, hS3⟩ := hS'
              have hS2 := hv w' hS1
              clear hS1
              go_simp
              (first | rfl | (rw [if_neg (by omega)]; (first | done | rfl)))
            (try simp only [Act.put, List.setIfInBounds_toArray, List.set_cons_zero, List.set_cons_succ])
            refine wpAnyH_take (i := 12) (v := ?_) (by simp only [List.getElem?_toArray, List.getElem?_cons_succ, List.getElem?_cons_zero]; rfl) (by kernel_rfl) (by kernel_rfl) (by kernel_rfl) (by first | exact fun _ _ _ h => h | exact fun _ _ _ h => by cases h.1) (Or.inl ⟨by rfl, ?_⟩) hS ?_
            rotate_left
            · intro w' hS'
              unfold Held at hS'
              obtain ⟨hS1, hS3⟩ := hS'
              have hS2 := hv w' hS1
              clear hS1
              go_simp
              (first | rfl | (rw [if_neg (by omega)]; (first | done | rfl)))
            (try simp only [Act.put, List.setIfInBounds_toArray, List.set_cons_zero, List.set_cons_succ])
            refine wpAnyH_take (i := 16) (v := ?_) (by simp only [List.getElem?_toArray, List.getElem?_cons_succ, List.getElem?_cons_zero]; rfl) (by kernel_rfl) (by kernel_rfl) (by kernel_rfl) (by first | exact fun _ _ _ h => h | exact fun _ _ _ h => by cases h.1) (Or.inl ⟨by rfl, ?_⟩) hS ?_
            rotate_left
            · intro w' hS'
              unfold Held at hS'
              obtain ⟨hS1, hS3⟩ := hS'
              have hS2 := hv w' hS1
              clear hS1
              go_simp
              (first | rfl | (rw [if_neg (by omega)]; (first | done | rfl)))
            (try simp only [Act.put, List.setIfInBounds_toArray, List.set_cons_zero, List.set_cons_succ])
            refine wpAnyH_take (i := 19) (v := ?_) (by simp only [List.getElem?_toArray, List.getElem?_cons_succ, List.getElem?_cons_zero]; rfl) (by kernel_rfl) (by kernel_rfl) (by kernel_rfl) (by first | exact fun _ _ _ h => h | exact fun _ _ _ h => by cases h.1) (Or.inl ⟨by rfl, ?_⟩) hS ?_
            rotate_left
            · intro w' hS'
              unfold Held at hS'
              obtain ⟨hS1, hS3⟩ := hS'
              have hS2 := hv w' hS1
              clear hS1
              go_simp
              (first | rfl | (rw [if_neg (by omega)]; (first | done | rfl)))
            (try simp only [Act.put, List.setIfInBounds_toArray, List.set_cons_zero, List.set_cons_succ])
            refine wpAnyH_take (i := 23) (v := ?_) (by simp only [List.getElem?_toArray, List.getElem?_cons_succ, List.getElem?_cons_zero]; rfl) (by kernel_rfl) (by kernel_rfl) (by kernel_rfl) (by first | exact fun _ _ _ h => h | exact fun _ _ _ h => by cases h.1) (Or.inl ⟨by rfl, ?_⟩) hS ?_
            rotate_left
            · intro w' hS'
              unfold Held at hS'
              obtain ⟨hS1, hS3⟩ := hS'
              have hS2 := hv w' hS1
              clear hS1
              go_simp
              (first | rfl | (rw [if_neg (by omega)]; (first | done | rfl)))
            (try simp only [Act.put, List.setIfInBounds_toArray, List.set_cons_zero, List.set_cons_succ])
            refine wpAnyH_take (i := 26) (v := ?_) (by simp only [List.getElem?_toArray, List.getElem?_cons_succ, List.getElem?_cons_zero]; rfl) (by kernel_rfl) (by kernel_rfl) (by kernel_rfl) (by first | exact fun _ _ _ h => h | exact fun _ _ _ h => by cases h.1) (Or.inl ⟨by rfl, ?_⟩) hS ?_
            rotate_left
            · intro w' hS'
              unfold Held at hS'
              obtain ⟨hS1, hS3⟩ := hS'
              have hS2 := hv w' hS1
              clear hS1
              go_simp
              (first | rfl | (rw [if_neg (by omega)]; (first | done | rfl)))
            (try simp only [Act.put, List.setIfInBounds_toArray, List.set_cons_zero, List.set_cons_succ])
            refine wpAnyH_take (i := 27) (v := ?_) (by simp only [List.getElem?_toArray, List.getElem?_cons_succ, List.getElem?_cons_zero]; rfl) (by kernel_rfl) (by kernel_rfl) (by kernel_rfl) (by first | exact fun _ _ _ h => h | exact fun _ _ _ h => by cases h.1) (Or.inl ⟨by rfl, ?_⟩) hS ?_
            rotate_left
            · intro w' hS'
              unfold Held at hS'
              obtain ⟨hS1, hS3⟩ := hS'
              have hS2 := hv w' hS1
              clear hS1
              go_simp
              (first | rfl | (rw [if_neg (by omega)]; (first | done | rfl)))
            (try simp only [Act.put, List.setIfInBounds_toArray, List.set_cons_zero, List.set_cons_succ])
            refine wpAnyH_take (i := 28) (v := ?_) (by simp only [List.getElem?_toArray, List.getElem?_cons_succ, List.getElem?_cons_zero]; rfl) (by kernel_rfl) (by kernel_rfl) (by kernel_rfl) (by first | exact fun _ _ _ h => h | exact fun _ _ _ h => by cases h.1) (Or.inl ⟨by rfl, ?_⟩) hS ?_
            rotate_left
            · intro w' hS'
              unfold Held at hS'
              obtain ⟨hS1, hS3⟩ := hS'
              have hS2 := hv w' hS1
              clear hS1
              go_simp
              (first | rfl | (rw [if_neg (by omega)]; (first | done | rfl)))
            (try simp only [Act.put, List.setIfInBounds_toArray, List.set_cons_zero, List.set_cons_succ])
            refine wpAnyH_done (by kernel_rfl) ?_ _
            refine ⟨rfl, rfl, by simp, rfl, hSW⟩
      · skip
        refine wpOp_step rfl (fun K hK => ?_)
        clear hS
        go_simp
        rw [show (#[Value.int .u8 58, Value.int .u8 255] : Array Value) = (u8s [58, 255]).toArray from rfl]
        obtain ⟨A2, hA2⟩ : ∃ A, u15.heap.size = A := ⟨_, rfl⟩
        rw [hA2]
        obtain ⟨u25, hu25⟩ : ∃ U, u15.alloc (.cells (u8s [58, 255]).toArray 5) = U := ⟨_, rfl⟩
        rw [hu25]
        have rA2 : row u25 A2 = (u8s [58, 255]).toArray := by rw [← hu25]; exact row_alloc_at _ _ _ hA2.symm
        have su25 : u25.heap.size = u15.heap.size + 1 := by rw [← hu25]; simp
        have Hu25 : Below u15.heap.size u15 u25 := by rw [← hu25]; exact Below.alloc (Below.refl _ _) (Nat.le_refl _) _
        have zA2 : A2 < u25.heap.size := by omega
        replace hSW : Below (w1).heap.size (w1) u25 := Below.trans hSW (Below.mono Hu25 zW)
        replace zW : (w1).heap.size ≤ u25.heap.size := by omega
        clear Hu25 hu25 su25 hA2
        refine hK _ _ (wpAnyH_next (S2 := Held (fun w' => Below (w1).heap.size (w1) w' ∧ (row w' A2 = (u8s [58, 255]).toArray))) ⟨hSW, rA2⟩ (fun w' h => ⟨h.1, trivial⟩) (fun hS => ?_))
        clear hK K
        refine wpAnyH_take (i := 7) (v := ?_) (by simp only [List.getElem?_toArray, List.getElem?_cons_succ, List.getElem?_cons_zero]; rfl) (by kernel_rfl) (by kernel_rfl) (by kernel_rfl) (by first | exact fun _ _ _ h => h | exact fun _ _ _ h => by cases h.1) (Or.inl ⟨by rfl, ?_⟩) hS ?_
        rotate_left
        · intro w' hS'
          unfold Held at hS'
          obtain ⟨hS1, hS3⟩ := hS'
          have hS2 := hv w' hS1
          clear hS1
          go_simp
          (first | rfl | (rw [if_neg (by omega)]; (first | done | rfl)))
        (try simp only [Act.put, List.setIfInBounds_toArray, List.set_cons_zero, List.set_cons_succ])
        refine wpAnyH_all (rs := [0, 21]) (by kernel_rfl) (by simp) ?_
        intro i hi
        simp only [List.mem_cons, List.not_mem_nil, or_false] at hi
        rcases hi with rfl | rfl
        · skip
          refine wpOp_step rfl (fun K hK => ?_)
          clear hS
          go_simp
          rw [show (#[Value.int .u8 96, Value.int .u8 0, Value.int .u8 0, Value.int .u8 0] : Array Value) = (u8s [96, 0, 0, 0]).toArray from rfl]
          obtain ⟨A1, hA1⟩ : ∃ A, u25.heap.size = A := ⟨_, rfl⟩
          rw [hA1]
          obtain ⟨u26, hu26⟩ : ∃ U, u25.alloc (.cells (u8s [96, 0, 0, 0]).toArray 5) = U := ⟨_, rfl⟩
          rw [hu26]
          have rA1 : row u26 A1 = (u8s [96, 0, 0, 0]).toArray := by rw [← hu26]; exact row_alloc_at _ _ _ hA1.symm
          have su26 : u26.heap.size = u25.heap.size + 1 := by rw [← hu26]; simp
          have Hu26 : Below u25.heap.size u25 u26 := by rw [← hu26]; exact Below.alloc (Below.refl _ _) (Nat.le_refl _) _
          have zA1 : A1 < u26.heap.size := by omega
          replace rA2 := (row_below Hu26 zA2).trans rA2
          replace zA2 : A2 < u26.heap.size := by omega
          replace hSW : Below (w1).heap.size (w1) u26 := Below.trans hSW (Below.mono Hu26 zW)
          replace zW : (w1).heap.size ≤ u26.heap.size := by omega
          clear Hu26 hu26 su26 hA1
          refine hK _ _ (wpAnyH_next (S2 := Held (fun w' => Below (w1).heap.size (w1) w' ∧ (row w' A2 = (u8s [58, 255]).toArray ∧ row w' A1 = (u8s [96, 0, 0, 0]).toArray))) ⟨hSW, ⟨rA2, rA1⟩⟩ (fun w' h => ⟨h.1, h.2.1⟩) (fun hS => ?_))
          clear hK K
          refine wpAnyH_take (i := 1) (v := ?_) (by simp only [List.getElem?_toArray, List.getElem?_cons_succ, List.getElem?_cons_zero]; rfl) (by kernel_rfl) (by kernel_rfl) (by kernel_rfl) (by first | exact fun _ _ _ h => h | exact fun _ _ _ h => by cases h.1) (Or.inl ⟨by rfl, ?_⟩) hS ?_
          rotate_left
          · intro w' hS'
            unfold Held at hS'
            obtain ⟨hS1, hS3⟩ := hS'
            have hS2 := hv w' hS1
            clear hS1
            go_simp
            (first | rfl | (rw [if_neg (by omega)]; (first | done | rfl)))
          (try simp only [Act.put, List.setIfInBounds_toArray, List.set_cons_zero, List.set_cons_succ])
          refine wpAnyH_take (i := 5) (v := ?_) (by simp only [List.getElem?_toArray, List.getElem?_cons_succ, List.getElem?_cons_zero]; rfl) (by kernel_rfl) (by kernel_rfl) (by kernel_rfl) (by first | exact fun _ _ _ h => h | exact fun _ _ _ h => by cases h.1) (Or.inl ⟨by rfl, ?_⟩) hS ?_
          rotate_left
          · intro w' hS'
            unfold Held at hS'
            obtain ⟨hS1, hS3⟩ := hS'
            have hS2 := hv w' hS1
            clear hS1
            go_simp
            (first | rfl | (rw [if_neg (by omega)]; (first | done | rfl)))
          (try simp only [Act.put, List.setIfInBounds_toArray, List.set_cons_zero, List.set_cons_succ])
          refine wpAnyH_take (i := 8) (v := ?_) (by simp only [List.getElem?_toArray, List.getElem?_cons_succ, List.getElem?_cons_zero]; rfl) (by kernel_rfl) (by kernel_rfl) (by kernel_rfl) (by first | exact fun _ _ _ h => h | exact fun _ _ _ h => by cases h.1) (Or.inl ⟨by rfl, ?_⟩) hS ?_
          rotate_left
          · intro w' hS'
            unfold Held at hS'
            obtain ⟨hS1, hS3⟩ := hS'
            have hS2 := hv w' hS1
            clear hS1
            go_simp
            (first | rfl | (rw [if_neg (by omega)]; (first | done | rfl)))
          (try simp only [Act.put, List.setIfInBounds_toArray, List.set_cons_zero, List.set_cons_succ])
          refine wpAnyH_take (i := 12) (v := ?_) (by simp only [List.getElem?_toArray, List.getElem?_cons_succ, List.getElem?_cons_zero]; rfl) (by kernel_rfl) (by kernel_rfl) (by kernel_rfl) (by first | exact fun _ _ _ h => h | exact fun _ _ _ h => by cases h.1) (Or.inl ⟨by rfl, ?_⟩) hS ?_
          rotate_left
          · intro w' hS'
            unfold Held at hS'
            obtain ⟨hS1, hS3⟩ := hS'
            have hS2 := hv w' hS1
            clear hS1
            go_simp
            (first | rfl | (rw [if_neg (by omega)]; (first | done | rfl)))
          (try simp only [Act.put, List.setIfInBounds_toArray, List.set_cons_zero, List.set_cons_succ])
          refine wpAnyH_take (i := 16) (v := ?_) (by simp only [List.getElem?_toArray, List.getElem?_cons_succ, List.getElem?_cons_zero]; rfl) (by kernel_rfl) (by kernel_rfl) (by kernel_rfl) (by first | exact fun _ _ _ h => h | exact fun _ _ _ h => by cases h.1) (Or.inl ⟨by rfl, ?_⟩) hS ?_
          rotate_left
          · intro w' hS'
            unfold Held at hS'
            obtain ⟨hS1, hS3⟩ := hS'
            have hS2 := hv w' hS1
            clear hS1
            go_simp
            (first | rfl | (rw [if_neg (by omega)]; (first | done | rfl)))
          (try simp only [Act.put, List.setIfInBounds_toArray, List.set_cons_zero, List.set_cons_succ])
          refine wpAnyH_take (i := 19) (v := ?_) (by simp only [List.getElem?_toArray, List.getElem?_cons_succ, List.getElem?_cons_zero]; rfl) (by kernel_rfl) (by kernel_rfl) (by kernel_rfl) (by first | exact fun _ _ _ h => h | exact fun _ _ _ h => by cases h.1) (Or.inl ⟨by rfl, ?_⟩) hS ?_
          rotate_left
          · intro w' hS'
            unfold Held at hS'
            obtain ⟨hS1, hS3⟩ := hS'
            have hS2 := hv w' hS1
            clear hS1
            go_simp
            (first | rfl | (rw [if_neg (by omega)]; (first | done | rfl)))
          (try simp only [Act.put, List.setIfInBounds_toArray, List.set_cons_zero, List.set_cons_succ])
          refine wpAnyH_all (rs := [21]) (by kernel_rfl) (by simp) ?_
          intro i hi
          obtain rfl := List.mem_singleton.1 hi
          clear hi
          refine wpOp_step rfl (fun K hK => ?_)
          clear hS
          go_simp
          refine (HS _).mono ?_
          rintro e u27 ⟨rfl, Hu27⟩
          have zu27 := (Hu27).size
          replace hSW : Below (w1).heap.size (w1) u27 := Below.trans hSW (Below.mono Hu27 zW)
          replace rA2 := (row_below Hu27 zA2).trans rA2
          replace zA2 : A2 < u27.heap.size := by omega
          replace rA1 := (row_below Hu27 zA1).trans rA1
          replace zA1 : A1 < u27.heap.size := by omega
          replace zW : (w1).heap.size ≤ u27.heap.size := by omega
          refine hK _ _ (wpAnyH_same ⟨hSW, ⟨rA2, rA1⟩⟩ (fun hS => ?_))
          clear hK K Hu27
          refine wpAnyH_all (rs := [22]) (by kernel_rfl) (by simp) ?_
          intro i hi
          obtain rfl := List.mem_singleton.1 hi
          clear hi
          refine wpOp_step rfl (fun K hK => ?_)
          clear hS
          go_simp
          refine (two_any _ _ (by omega) (by omega)).mono ?_
          rintro e u28 ⟨rfl, Hu28⟩
          have zu28 := (Hu28).size
          replace hSW : Below (w1).heap.size (w1) u28 := Below.trans hSW (Below.mono Hu28 zW)
          replace rA2 := (row_below Hu28 zA2).trans rA2
          replace zA2 : A2 < u28.heap.size := by omega
          replace rA1 := (row_below Hu28 zA1).trans rA1
          replace zA1 : A1 < u28.heap.size := by omega
          replace zW : (w1).heap.size ≤ u28.heap.size := by omega
          refine hK _ _ (wpAnyH_same ⟨hSW, ⟨rA2, rA1⟩⟩ (fun hS => ?_))
          clear hK K Hu28
          refine wpAnyH_take (i := 23) (v := ?_) (by simp only [List.getElem?_toArray, List.getElem?_cons_succ, List.getElem?_cons_zero]; rfl) (by kernel_rfl) (by kernel_rfl) (by kernel_rfl) (by first | exact fun _ _ _ h => h | exact fun _ _ _ h => by cases h.1) (Or.inl ⟨by rfl, ?_⟩) hS ?_
          rotate_left
          · intro w' hS'
            unfold Held at hS'
            obtain ⟨hS1, hS3⟩ := hS'
            have hS2 := hv w' hS1
            clear hS1
            go_simp
            (first | rfl | (rw [if_neg (by omega)]; (first | done | rfl)))
          (try simp only [Act.put, List.setIfInBounds_toArray, List.set_cons_zero, List.set_cons_succ])
          refine wpAnyH_take (i := 26) (v := ?_) (by simp only [List.getElem?_toArray, List.getElem?_cons_succ, List.getElem?_cons_zero]; rfl) (by kernel_rfl) (by kernel_rfl) (by kernel_rfl) (by first | exact fun _ _ _ h => h | exact fun _ _ _ h => by cases h.1) (Or.inl ⟨by rfl, ?_⟩) hS ?_
          rotate_left
          · intro w' hS'
            unfold Held at hS'
            obtain ⟨hS1, hS3⟩ := hS'
            have hS2 := hv w' hS1
            clear hS1
            go_simp
            (first | rfl | (rw [if_neg (by omega)]; (first | done | rfl)))
          (try simp only [Act.put, List.setIfInBounds_toArray, List.set_cons_zero, List.set_cons_succ])
          refine wpAnyH_take (i := 27) (v := ?_) (by simp only [List.getElem?_toArray, List.getElem?_cons_succ, List.getElem?_cons_zero]; rfl) (by kernel_rfl) (by kernel_rfl) (by kernel_rfl) (by first | exact fun _ _ _ h => h | exact fun _ _ _ h => by cases h.1) (Or.inl ⟨by rfl, ?_⟩) hS ?_
          rotate_left
          · intro w' hS'
            unfold Held at hS'
            obtain ⟨hS1, hS3⟩ := hS'
            have hS2 := hv w' hS1
            clear hS1
            go_simp
            (first | rfl | (rw [if_neg (by omega)]; (first | done | rfl)))
          (try simp only [Act.put, List.setIfInBounds_toArray, List.set_cons_zero, List.set_cons_succ])
          refine wpAnyH_take (i := 28) (v := ?_) (by simp only [List.getElem?_toArray, List.getElem?_cons_succ, List.getElem?_cons_zero]; rfl) (by kernel_rfl) (by kernel_rfl) (by kernel_rfl) (by first | exact fun _ _ _ h => h | exact fun _ _ _ h => by cases h.1) (Or.inl ⟨by rfl, ?_⟩) hS ?_
          rotate_left
          · intro w' hS'
            unfold Held at hS'
            obtain ⟨hS1, hS3⟩ := hS'
            have hS2 := hv w' hS1
            clear hS1
            go_simp
            (first | rfl | (rw [if_neg (by omega)]; (first | done | rfl)))
          (try simp only [Act.put, List.setIfInBounds_toArray, List.set_cons_zero, List.set_cons_succ])
          refine wpAnyH_done (by kernel_rfl) ?_ _
          refine ⟨rfl, rfl, by simp, rfl, hSW⟩
        · skip
          refine wpOp_step rfl (fun K hK => ?_)
          clear hS
          go_simp
          refine (HS _).mono ?_
          rintro e u29 ⟨rfl, Hu29⟩
          have zu29 := (Hu29).size
          replace hSW : Below (w1).heap.size (w1) u29 := Below.trans hSW (Below.mono Hu29 zW)
          replace rA2 := (row_below Hu29 zA2).trans rA2
          replace zA2 : A2 < u29.heap.size := by omega
          replace zW : (w1).heap.size ≤ u29.heap.size := by omega
          refine hK _ _ (wpAnyH_same ⟨hSW, rA2⟩ (fun hS => ?_))
          clear hK K Hu29
          refine wpAnyH_all (rs := [0, 22]) (by kernel_rfl) (by simp) ?_
          intro i hi
          simp only [List.mem_cons, List.not_mem_nil, or_false] at hi
          rcases hi with rfl | rfl
          · skip
            refine wpOp_step rfl (fun K hK => ?_)
            clear hS
            go_simp
            rw [show (#[Value.int .u8 96, Value.int .u8 0, Value.int .u8 0, Value.int .u8 0] : Array Value) = (u8s [96, 0, 0, 0]).toArray from rfl]
            obtain ⟨A1, hA1⟩ : ∃ A, u29.heap.size = A := ⟨_, rfl⟩
            rw [hA1]
            obtain ⟨u30, hu30⟩ : ∃ U, u29.alloc (.cells (u8s [96, 0, 0, 0]).toArray 5) = U := ⟨_, rfl⟩
            rw [hu30]
            have rA1 : row u30 A1 = (u8s [96, 0, 0, 0]).toArray := by rw [← hu30]; exact row_alloc_at _ _ _ hA1.symm
            have su30 : u30.heap.size = u29.heap.size + 1 := by rw [← hu30]; simp
            have Hu30 : Below u29.heap.size u29 u30 := by rw [← hu30]; exact Below.alloc (Below.refl _ _) (Nat.le_refl _) _
            have zA1 : A1 < u30.heap.size := by omega
            replace rA2 := (row_below Hu30 zA2).trans rA2
            replace zA2 : A2 < u30.heap.size := by omega
            replace hSW : Below (w1).heap.size (w1) u30 := Below.trans hSW (Below.mono Hu30 zW)
            replace zW : (w1).heap.size ≤ u30.heap.size := by omega
            clear Hu30 hu30 su30 hA1
            refine hK _ _ (wpAnyH_next (S2 := Held (fun w' => Below (w1).heap.size (w1) w' ∧ (row w' A2 = (u8s [58, 255]).toArray ∧ row w' A1 = (u8s [96, 0, 0, 0]).toArray))) ⟨hSW, ⟨rA2, rA1⟩⟩ (fun w' h => ⟨h.1, h.2.1⟩) (fun hS => ?_))
            clear hK K
            refine wpAnyH_take (i := 1) (v := ?_) (by simp only [List.getElem?_toArray, List.getElem?_cons_succ, List.getElem?_cons_zero]; rfl) (by kernel_rfl) (by kernel_rfl) (by kernel_rfl) (by first | exact fun _ _ _ h => h | exact fun _ _ _ h => by cases h.1) (Or.inl ⟨by rfl, ?_⟩) hS ?_
            rotate_left
            · intro w' hS'
              unfold Held at hS'
              obtain ⟨hS1, hS3⟩ := hS'
              have hS2 := hv w' hS1
              clear hS1
              go_simp
              (first | rfl | (rw [if_neg (by omega)]; (first | done | rfl)))
            (try simp only [Act.put, List.setIfInBounds_toArray, List.set_cons_zero, List.set_cons_succ])
            refine wpAnyH_take (i := 5) (v := ?_) (by simp only [List.getElem?_toArray, List.getElem?_cons_succ, List.getElem?_cons_zero]; rfl) (by kernel_rfl) (by kernel_rfl) (by kernel_rfl) (by first | exact fun _ _ _ h => h | exact fun _ _ _ h => by cases h.1) (Or.inl ⟨by rfl, ?_⟩) hS ?_
            rotate_left
            · intro w' hS'
              unfold Held at hS'
              obtain ⟨hS1, hS3⟩ := hS'
              have hS2 := hv w' hS1
              clear hS1
              go_simp
              (first | rfl | (rw [if_neg (by omega)]; (first | done | rfl)))
            (try simp only [Act.put, List.setIfInBounds_toArray, List.set_cons_zero, List.set_cons_succ])
            refine wpAnyH_take (i := 8) (v := ?_) (by simp only [List.getElem?_toArray, List.getElem?_cons_succ, List.getElem?_cons_zero]; rfl) (by kernel_rfl) (by kernel_rfl) (by kernel_rfl) (by first | exact fun _ _ _ h => h | exact fun _ _ _ h => by cases h.1) (Or.inl ⟨by rfl, ?_⟩) hS ?_
            rotate_left
            · intro w' hS'
              unfold Held at hS'
              obtain ⟨hS1, hS3⟩ := hS'
              have hS2 := hv w' hS1
              clear hS1
              go_simp
              (first | rfl | (rw [if_neg (by omega)]; (first | done | rfl)))
            (try simp only [Act.put, List.setIfInBounds_toArray, List.set_cons_zero, List.set_cons_succ])
            refine wpAnyH_take (i := 12) (v := ?_) (by simp only [List.getElem?_toArray, List.getElem?_cons_succ, List.getElem?_cons_zero]; rfl) (by kernel_rfl) (by kernel_rfl) (by kernel_rfl) (by first | exact fun _ _ _ h => h | exact fun _ _ _ h => by cases h.1) (Or.inl ⟨by rfl, ?_⟩) hS ?_
            rotate_left
            · intro w' hS'
              unfold Held at hS'
              obtain ⟨hS1, hS3⟩ := hS'
              have hS2 := hv w' hS1
              clear hS1
              go_simp
              (first | rfl | (rw [if_neg (by omega)]; (first | done | rfl)))
            (try simp only [Act.put, List.setIfInBounds_toArray, List.set_cons_zero, List.set_cons_succ])
            refine wpAnyH_take (i := 16) (v := ?_) (by simp only [List.getElem?_toArray, List.getElem?_cons_succ, List.getElem?_cons_zero]; rfl) (by kernel_rfl) (by kernel_rfl) (by kernel_rfl) (by first | exact fun _ _ _ h => h | exact fun _ _ _ h => by cases h.1) (Or.inl ⟨by rfl, ?_⟩) hS ?_
            rotate_left
            · intro w' hS'
              unfold Held at hS'
              obtain ⟨hS1, hS3⟩ := hS'
              have hS2 := hv w' hS1
              clear hS1
              go_simp
              (first | rfl | (rw [if_neg (by omega)]; (first | done | rfl)))
            (try simp only [Act.put, List.setIfInBounds_toArray, List.set_cons_zero, List.set_cons_succ])
            refine wpAnyH_take (i := 19) (v := ?_) (by simp only [List.getElem?_toArray, List.getElem?_cons_succ, List.getElem?_cons_zero]; rfl) (by kernel_rfl) (by kernel_rfl) (by kernel_rfl) (by first | exact fun _ _ _ h => h | exact fun _ _ _ h => by cases h.1) (Or.inl ⟨by rfl, ?_⟩) hS ?_
            rotate_left
            · intro w' hS'
              unfold Held at hS'
              obtain ⟨hS1, hS3⟩ := hS'
              have hS2 := hv w' hS1
              clear hS1
              go_simp
              (first | rfl | (rw [if_neg (by omega)]; (first | done | rfl)))
            (try simp only [Act.put, List.setIfInBounds_toArray, List.set_cons_zero, List.set_cons_succ])
            refine wpAnyH_all (rs := [22]) (by kernel_rfl) (by simp) ?_
            intro i hi
            obtain rfl := List.mem_singleton.1 hi
            clear hi
            refine wpOp_step rfl (fun K hK => ?_)
            clear hS
            go_simp
            refine (two_any _ _ (by omega) (by omega)).mono ?_
            rintro e u31 ⟨rfl, Hu31⟩
            have zu31 := (Hu31).size
            replace hSW : Below (w1).heap.size (w1) u31 := Below.trans hSW (Below.mono Hu31 zW)
            replace rA2 := (row_below Hu31 zA2).trans rA2
            replace zA2 : A2 < u31.heap.size := by omega
            replace rA1 := (row_below Hu31 zA1).trans rA1
            replace zA1 : A1 < u31.heap.size := by omega
            replace zW : (w1).heap.size ≤ u31.heap.size := by omega
            refine hK _ _ (wpAnyH_same ⟨hSW, ⟨rA2, rA1⟩⟩ (fun hS => ?_))
            clear hK K Hu31
            refine wpAnyH_take (i := 23) (v := ?_) (by simp only [List.getElem?_toArray, List.getElem?_cons_succ, List.getElem?_cons_zero]; rfl) (by kernel_rfl) (by kernel_rfl) (by kernel_rfl) (by first | exact fun _ _ _ h => h | exact fun _ _ _ h => by cases h.1) (Or.inl ⟨by rfl, ?_⟩) hS ?_
            rotate_left
            · intro w' hS'
              unfold Held at hS'
              obtain ⟨hS1, hS3⟩ := hS'
              have hS2 := hv w' hS1
              clear hS1
              go_simp
              (first | rfl | (rw [if_neg (by omega)]; (first | done | rfl)))
            (try simp only [Act.put, List.setIfInBounds_toArray, List.set_cons_zero, List.set_cons_succ])
            refine wpAnyH_take (i := 26) (v := ?_) (by simp only [List.getElem?_toArray, List.getElem?_cons_succ, List.getElem?_cons_zero]; rfl) (by kernel_rfl) (by kernel_rfl) (by kernel_rfl) (by first | exact fun _ _ _ h => h | exact fun _ _ _ h => by cases h.1) (Or.inl ⟨by rfl, ?_⟩) hS ?_
            rotate_left
            · intro w' hS'
              unfold Held at hS'
              obtain ⟨hS1, hS3⟩ := hS'
              have hS2 := hv w' hS1
              clear hS1
              go_simp
              (first | rfl | (rw [if_neg (by omega)]; (first | done | rfl)))
            (try simp only [Act.put, List.setIfInBounds_toArray, List.set_cons_zero, List.set_cons_succ])
            refine wpAnyH_take (i := 27) (v := ?_) (by simp only [List.getElem?_toArray, List.getElem?_cons_succ, List.getElem?_cons_zero]; rfl) (by kernel_rfl) (by kernel_rfl) (by kernel_rfl) (by first | exact fun _ _ _ h => h | exact fun _ _ _ h => by cases h.1) (Or.inl ⟨by rfl, ?_⟩) hS ?_
            rotate_left
            · intro w' hS'
              unfold Held at hS'
              obtain ⟨hS1, hS3⟩ := hS'
              have hS2 := hv w' hS1
              clear hS1
              go_simp
              (first | rfl | (rw [if_neg (by omega)]; (first | done | rfl)))
            (try simp only [Act.put, List.setIfInBounds_toArray, List.set_cons_zero, List.set_cons_succ])
            refine wpAnyH_take (i := 28) (v := ?_) (by simp only [List.getElem?_toArray, List.getElem?_cons_succ, List.getElem?_cons_zero]; rfl) (by kernel_rfl) (by kernel_rfl) (by kernel_rfl) (by first | exact fun _ _ _ h => h | exact fun _ _ _ h => by cases h.1) (Or.inl ⟨by rfl, ?_⟩) hS ?_
            rotate_left
            · intro w' hS'
              unfold Held at hS'
              obtain ⟨hS1, hS3⟩ := hS'
              have hS2 := hv w' hS1
              clear hS1
              go_simp
              (first | rfl | (rw [if_neg (by omega)]; (first | done | rfl)))
            (try simp only [Act.put, List.setIfInBounds_toArray, List.set_cons_zero, List.set_cons_succ])
            refine wpAnyH_done (by kernel_rfl) ?_ _
            refine ⟨rfl, rfl, by simp, rfl, hSW⟩
          · skip
            refine wpOp_step rfl (fun K hK => ?_)
            clear hS
            go_simp
            refine (two_any _ _ (by omega) (by omega)).mono ?_
            rintro e u32 ⟨rfl, Hu32⟩
            have zu32 := (Hu32).size
            replace hSW : Below (w1).heap.size (w1) u32 := Below.trans hSW (Below.mono Hu32 zW)
            replace rA2 := (row_below Hu32 zA2).trans rA2
            replace zA2 : A2 < u32.heap.size := by omega
            replace zW : (w1).heap.size ≤ u32.heap.size := by omega
            refine hK _ _ (wpAnyH_same ⟨hSW, rA2⟩ (fun hS => ?_))
            clear hK K Hu32
            refine wpAnyH_all (rs := [0]) (by kernel_rfl) (by simp) ?_
            intro i hi
            obtain rfl := List.mem_singleton.1 hi
            clear hi
            refine wpOp_step rfl (fun K hK => ?_)
            clear hS
            go_simp
            rw [show (#[Value.int .u8 96, Value.int .u8 0, Value.int .u8 0, Value.int .u8 0] : Array Value) = (u8s [96, 0, 0, 0]).toArray from rfl]
            obtain ⟨A1, hA1⟩ : ∃ A, u32.heap.size = A := ⟨_, rfl⟩
            rw [hA1]
            obtain ⟨u33, hu33⟩ : ∃ U, u32.alloc (.cells (u8s [96, 0, 0, 0]).toArray 5) = U := ⟨_, rfl⟩
            rw [hu33]
            have rA1 : row u33 A1 = (u8s [96, 0, 0, 0]).toArray := by rw [← hu33]; exact row_alloc_at _ _ _ hA1.symm
            have su33 : u33.heap.size = u32.heap.size + 1 := by rw [← hu33]; simp
            have Hu33 : Below u32.heap.size u32 u33 := by rw [← hu33]; exact Below.alloc (Below.refl _ _) (Nat.le_refl _) _
            have zA1 : A1 < u33.heap.size := by omega
            replace rA2 := (row_below Hu33 zA2).trans rA2
            replace zA2 : A2 < u33.heap.size := by omega
            replace hSW : Below (w1).heap.size (w1) u33 := Below.trans hSW (Below.mono Hu33 zW)
            replace zW : (w1).heap.size ≤ u33.heap.size := by omega
            clear Hu33 hu33 su33 hA1
            refine hK _ _ (wpAnyH_next (S2 := Held (fun w' => Below (w1).heap.size (w1) w' ∧ (row w' A2 = (u8s [58, 255]).toArray ∧ row w' A1 = (u8s [96, 0, 0, 0]).toArray))) ⟨hSW, ⟨rA2, rA1⟩⟩ (fun w' h => ⟨h.1, h.2.1⟩) (fun hS => ?_))
            clear hK K
            refine wpAnyH_take (i := 1) (v := ?_) (by simp only [List.getElem?_toArray, List.getElem?_cons_succ, List.getElem?_cons_zero]; rfl) (by kernel_rfl) (by kernel_rfl) (by kernel_rfl) (by first | exact fun _ _ _ h => h | exact fun _ _ _ h => by cases h.1) (Or.inl ⟨by rfl, ?_⟩) hS ?_
            rotate_left
            · intro w' hS'
              unfold Held at hS'
              obtain ⟨hS1, hS3⟩ := hS'
              have hS2 := hv w' hS1
              clear hS1
              go_simp
              (first | rfl | (rw [if_neg (by omega)]; (first | done | rfl)))
            (try simp only [Act.put, List.setIfInBounds_toArray, List.set_cons_zero, List.set_cons_succ])
            refine wpAnyH_take (i := 5) (v := ?_) (by simp only [List.getElem?_toArray, List.getElem?_cons_succ, List.getElem?_cons_zero]; rfl) (by kernel_rfl) (by kernel_rfl) (by kernel_rfl) (by first | exact fun _ _ _ h => h | exact fun _ _ _ h => by cases h.1) (Or.inl ⟨by rfl, ?_⟩) hS ?_
            rotate_left
            · intro w' hS'
              unfold Held at hS'
              obtain ⟨hS1, hS3⟩ := hS'
              have hS2 := hv w' hS1
              clear hS1
              go_simp
              (first | rfl | (rw [if_neg (by omega)]; (first | done | rfl)))
            (try simp only [Act.put, List.setIfInBounds_toArray, List.set_cons_zero, List.set_cons_succ])
            refine wpAnyH_take (i := 8) (v := ?_) (by simp only [List.getElem?_toArray, List.getElem?_cons_succ, List.getElem?_cons_zero]; rfl) (by kernel_rfl) (by kernel_rfl) (by kernel_rfl) (by first | exact fun _ _ _ h => h | exact fun _ _ _ h => by cases h.1) (Or.inl ⟨by rfl, ?_⟩) hS ?_
            rotate_left
            · intro w' hS'
              unfold Held at hS'
              obtain ⟨hS1, hS3⟩ := hS'
              have hS2 := hv w' hS1
              clear hS1
              go_simp
              (first | rfl | (rw [if_neg (by omega)]; (first | done | rfl)))
            (try simp only [Act.put, List.setIfInBounds_toArray, List.set_cons_zero, List.set_cons_succ])
            refine wpAnyH_take (i := 12) (v := ?_) (by simp only [List.getElem?_toArray, List.getElem?_cons_succ, List.getElem?_cons_zero]; rfl) (by kernel_rfl) (by kernel_rfl) (by kernel_rfl) (by first | exact fun _ _ _ h => h | exact fun _ _ _ h => by cases h.1) (Or.inl ⟨by rfl, ?_⟩) hS ?_
            rotate_left
            · intro w' hS'
              unfold Held at hS'
              obtain ⟨hS1, hS3⟩ := hS'
              have hS2 := hv w' hS1
              clear hS1
              go_simp
              (first | rfl | (rw [if_neg (by omega)]; (first | done | rfl)))
            (try simp only [Act.put, List.setIfInBounds_toArray, List.set_cons_zero, List.set_cons_succ])
            refine wpAnyH_take (i := 16) (v := ?_) (by simp only [List.getElem?_toArray, List.getElem?_cons_succ, List.getElem?_cons_zero]; rfl) (by kernel_rfl) (by kernel_rfl) (by kernel_rfl) (by first | exact fun _ _ _ h => h | exact fun _ _ _ h => by cases h.1) (Or.inl ⟨by rfl, ?_⟩) hS ?_
            rotate_left
            · intro w' hS'
              unfold Held at hS'
              obtain ⟨hS1, hS3⟩ := hS'
              have hS2 := hv w' hS1
              clear hS1
              go_simp
              (first | rfl | (rw [if_neg (by omega)]; (first | done | rfl)))
            (try simp only [Act.put, List.setIfInBounds_toArray, List.set_cons_zero, List.set_cons_succ])
            refine wpAnyH_take (i := 19) (v := ?_) (by simp only [List.getElem?_toArray, List.getElem?_cons_succ, List.getElem?_cons_zero]; rfl) (by kernel_rfl) (by kernel_rfl) (by kernel_rfl) (by first | exact fun _ _ _ h => h | exact fun _ _ _ h => by cases h.1) (Or.inl ⟨by rfl, ?_⟩) hS ?_
            rotate_left
            · intro w' hS'
              unfold Held at hS'
              obtain ⟨hS1, hS3⟩ := hS'
              have hS2 := hv w' hS1
              clear hS1
              go_simp
              (first | rfl | (rw [if_neg (by omega)]; (first | done | rfl)))
            (try simp only [Act.put, List.setIfInBounds_toArray, List.set_cons_zero, List.set_cons_succ])
            refine wpAnyH_take (i := 23) (v := ?_) (by simp only [List.getElem?_toArray, List.getElem?_cons_succ, List.getElem?_cons_zero]; rfl) (by kernel_rfl) (by kernel_rfl) (by kernel_rfl) (by first | exact fun _ _ _ h => h | exact fun _ _ _ h => by cases h.1) (Or.inl ⟨by rfl, ?_⟩) hS ?_
            rotate_left
            · intro w' hS'
              unfold Held at hS'
              obtain ⟨hS1, hS3⟩ := hS'
              have hS2 := hv w' hS1
              clear hS1
              go_simp
              (first | rfl | (rw [if_neg (by omega)]; (first | done | rfl)))
            (try simp only [Act.put, List.setIfInBounds_toArray, List.set_cons_zero, List.set_cons_succ])
            refine wpAnyH_take (i := 26) (v := ?_) (by simp only [List.getElem?_toArray, List.getElem?_cons_succ, List.getElem?_cons_zero]; rfl) (by kernel_rfl) (by kernel_rfl) (by kernel_rfl) (by first | exact fun _ _ _ h => h | exact fun _ _ _ h => by cases h.1) (Or.inl ⟨by rfl, ?_⟩) hS ?_
            rotate_left
            · intro w' hS'
              unfold Held at hS'
              obtain ⟨hS1, hS3⟩ := hS'
              have hS2 := hv w' hS1
              clear hS1
              go_simp
              (first | rfl | (rw [if_neg (by omega)]; (first | done | rfl)))
            (try simp only [Act.put, List.setIfInBounds_toArray, List.set_cons_zero, List.set_cons_succ])
            refine wpAnyH_take (i := 27) (v := ?_) (by simp only [List.getElem?_toArray, List.getElem?_cons_succ, List.getElem?_cons_zero]; rfl) (by kernel_rfl) (by kernel_rfl) (by kernel_rfl) (by first | exact fun _ _ _ h => h | exact fun _ _ _ h => by cases h.1) (Or.inl ⟨by rfl, ?_⟩) hS ?_
            rotate_left
            · intro w' hS'
              unfold Held at hS'
              obtain ⟨hS1, hS3⟩ := hS'
              have hS2 := hv w' hS1
              clear hS1
              go_simp
              (first | rfl | (rw [if_neg (by omega)]; (first | done | rfl)))
            (try simp only [Act.put, List.setIfInBounds_toArray, List.set_cons_zero, List.set_cons_succ])
            refine wpAnyH_take (i := 28) (v := ?_) (by simp only [List.getElem?_toArray, List.getElem?_cons_succ, List.getElem?_cons_zero]; rfl) (by kernel_rfl) (by kernel_rfl) (by kernel_rfl) (by first | exact fun _ _ _ h => h | exact fun _ _ _ h => by cases h.1) (Or.inl ⟨by rfl, ?_⟩) hS ?_
            rotate_left
            · intro w' hS'
              unfold Held at hS'
              obtain ⟨hS1, hS3⟩ := hS'
              have hS2 := hv w' hS1
              clear hS1
              go_simp
              (first | rfl | (rw [if_neg (by omega)]; (first | done | rfl)))
            (try simp only [Act.put, List.setIfInBounds_toArray, List.set_cons_zero, List.set_cons_succ])
            refine wpAnyH_done (by kernel_rfl) ?_ _
            refine ⟨rfl, rfl, by simp, rfl, hSW⟩
      · skip
        refine wpOp_step rfl (fun K hK => ?_)
        clear hS
        go_simp
        refine (HS _).mono ?_
        rintro e u34 ⟨rfl, Hu34⟩
        have zu34 := (Hu34).size
        replace hSW : Below (w1).heap.size (w1) u34 := Below.trans hSW (Below.mono Hu34 zW)
        replace zW : (w1).heap.size ≤ u34.heap.size := by omega
        refine hK _ _ (wpAnyH_same ⟨hSW, trivial⟩ (fun hS => ?_))
        clear hK K Hu34
        refine wpAnyH_all (rs := [0, 6, 22]) (by kernel_rfl) (by simp) ?_
        intro i hi
        simp only [List.mem_cons, List.not_mem_nil, or_false] at hi
        rcases hi with rfl | rfl | rfl
        · skip
          refine wpOp_step rfl (fun K hK => ?_)
          clear hS
          go_simp
          rw [show (#[Value.int .u8 96, Value.int .u8 0, Value.int .u8 0, Value.int .u8 0] : Array Value) = (u8s [96, 0, 0, 0]).toArray from rfl]
          obtain ⟨A1, hA1⟩ : ∃ A, u34.heap.size = A := ⟨_, rfl⟩
          rw [hA1]
          obtain ⟨u35, hu35⟩ : ∃ U, u34.alloc (.cells (u8s [96, 0, 0, 0]).toArray 5) = U := ⟨_, rfl⟩
          rw [hu35]
          have rA1 : row u35 A1 = (u8s [96, 0, 0, 0]).toArray := by rw [← hu35]; exact row_alloc_at _ _ _ hA1.symm
          have su35 : u35.heap.size = u34.heap.size + 1 := by rw [← hu35]; simp
          have Hu35 : Below u34.heap.size u34 u35 := by rw [← hu35]; exact Below.alloc (Below.refl _ _) (Nat.le_refl _) _
          have zA1 : A1 < u35.heap.size := by omega
          replace hSW : Below (w1).heap.size (w1) u35 := Below.trans hSW (Below.mono Hu35 zW)
          replace zW : (w1).heap.size ≤ u35.heap.size := by omega
          clear Hu35 hu35 su35 hA1
          refine hK _ _ (wpAnyH_next (S2 := Held (fun w' => Below (w1).heap.size (w1) w' ∧ (row w' A1 = (u8s [96, 0, 0, 0]).toArray))) ⟨hSW, rA1⟩ (fun w' h => ⟨h.1, trivial⟩) (fun hS => ?_))
          clear hK K
          refine wpAnyH_take (i := 1) (v := ?_) (by simp only [List.getElem?_toArray, List.getElem?_cons_succ, List.getElem?_cons_zero]; rfl) (by kernel_rfl) (by kernel_rfl) (by kernel_rfl) (by first | exact fun _ _ _ h => h | exact fun _ _ _ h => by cases h.1) (Or.inl ⟨by rfl, ?_⟩) hS ?_
          rotate_left
          · intro w' hS'
            unfold Held at hS'
            obtain ⟨hS1, hS3⟩ := hS'
            have hS2 := hv w' hS1
            clear hS1
            go_simp
            (first | rfl | (rw [if_neg (by omega)]; (first | done | rfl)))
          (try simp only [Act.put, List.setIfInBounds_toArray, List.set_cons_zero, List.set_cons_succ])
          refine wpAnyH_take (i := 5) (v := ?_) (by simp only [List.getElem?_toArray, List.getElem?_cons_succ, List.getElem?_cons_zero]; rfl) (by kernel_rfl) (by kernel_rfl) (by kernel_rfl) (by first | exact fun _ _ _ h => h | exact fun _ _ _ h => by cases h.1) (Or.inl ⟨by rfl, ?_⟩) hS ?_
          rotate_left
          · intro w' hS'
            unfold Held at hS'
            obtain ⟨hS1, hS3⟩ := hS'
            have hS2 := hv w' hS1
            clear hS1
            go_simp
            (first | rfl | (rw [if_neg (by omega)]; (first | done | rfl)))
          (try simp only [Act.put, List.setIfInBounds_toArray, List.set_cons_zero, List.set_cons_succ])
          refine wpAnyH_all (rs := [6, 22]) (by kernel_rfl) (by simp) ?_
          intro i hi
          simp only [List.mem_cons, List.not_mem_nil, or_false] at hi
          rcases hi with rfl | rfl
          · skip
            refine wpOp_step rfl (fun K hK => ?_)
            clear hS
            go_simp
            rw [show (#[Value.int .u8 58, Value.int .u8 255] : Array Value) = (u8s [58, 255]).toArray from rfl]
            obtain ⟨A2, hA2⟩ : ∃ A, u35.heap.size = A := ⟨_, rfl⟩
            rw [hA2]
            obtain ⟨u36, hu36⟩ : ∃ U, u35.alloc (.cells (u8s [58, 255]).toArray 5) = U := ⟨_, rfl⟩
            rw [hu36]
            have rA2 : row u36 A2 = (u8s [58, 255]).toArray := by rw [← hu36]; exact row_alloc_at _ _ _ hA2.symm
            have su36 : u36.heap.size = u35.heap.size + 1 := by rw [← hu36]; simp
            have Hu36 : Below u35.heap.size u35 u36 := by rw [← hu36]; exact Below.alloc (Below.refl _ _) (Nat.le_refl _) _
            have zA2 : A2 < u36.heap.size := by omega
            replace rA1 := (row_below Hu36 zA1).trans rA1
            replace zA1 : A1 < u36.heap.size := by omega
            replace hSW : Below (w1).heap.size (w1) u36 := Below.trans hSW (Below.mono Hu36 zW)
            replace zW : (w1).heap.size ≤ u36.heap.size := by omega
            clear Hu36 hu36 su36 hA2
            refine hK _ _ (wpAnyH_next (S2 := Held (fun w' => Below (w1).heap.size (w1) w' ∧ (row w' A1 = (u8s [96, 0, 0, 0]).toArray ∧ row w' A2 = (u8s [58, 255]).toArray))) ⟨hSW, ⟨rA1, rA2⟩⟩ (fun w' h => ⟨h.1, h.2.1⟩) (fun hS => ?_))
            clear hK K
            refine wpAnyH_take (i := 7) (v := ?_) (by simp only [List.getElem?_toArray, List.getElem?_cons_succ, List.getElem?_cons_zero]; rfl) (by kernel_rfl) (by kernel_rfl) (by kernel_rfl) (by first | exact fun _ _ _ h => h | exact fun _ _ _ h => by cases h.1) (Or.inl ⟨by rfl, ?_⟩) hS ?_
            rotate_left
            · intro w' hS'
              unfold Held at hS'
              obtain ⟨hS1, hS3⟩ := hS'
              have hS2 := hv w' hS1
              clear hS1
              go_simp
              (first | rfl | (rw [if_neg (by omega)]; (first | done | rfl)))
            (try simp only [Act.put, List.setIfInBounds_toArray, List.set_cons_zero, List.set_cons_succ])
            refine wpAnyH_take (i := 8) (v := ?_) (by simp only [List.getElem?_toArray, List.getElem?_cons_succ, List.getElem?_cons_zero]; rfl) (by kernel_rfl) (by kernel_rfl) (by kernel_rfl) (by first | exact fun _ _ _ h => h | exact fun _ _ _ h => by cases h.1) (Or.inl ⟨by rfl, ?_⟩) hS ?_
            rotate_left
            · intro w' hS'
              unfold Held at hS'
              obtain ⟨hS1, hS3⟩ := hS'
              have hS2 := hv w' hS1
              clear hS1
              go_simp
              (first | rfl | (rw [if_neg (by omega)]; (first | done | rfl)))
            (try simp only [Act.put, List.setIfInBounds_toArray, List.set_cons_zero, List.set_cons_succ])
            refine wpAnyH_take (i := 12) (v := ?_) (by simp only [List.getElem?_toArray, List.getElem?_cons_succ, List.getElem?_cons_zero]; rfl) (by kernel_rfl) (by kernel_rfl) (by kernel_rfl) (by first | exact fun _ _ _ h => h | exact fun _ _ _ h => by cases h.1) (Or.inl ⟨by rfl, ?_⟩) hS ?_
            rotate_left
            · intro w' hS'
              unfold Held at hS'
              obtain ⟨hS1, hS3⟩ := hS'
              have hS2 := hv w' hS1
              clear hS1
              go_simp
              (first | rfl | (rw [if_neg (by omega)]; (first | done | rfl)))
            (try simp only [Act.put, List.setIfInBounds_toArray, List.set_cons_zero, List.set_cons_succ])
            refine wpAnyH_take (i := 16) (v := ?_) (by simp only [List.getElem?_toArray, List.getElem?_cons_succ, List.getElem?_cons_zero]; rfl) (by kernel_rfl) (by kernel_rfl) (by kernel_rfl) (by first | exact fun _ _ _ h => h | exact fun _ _ _ h => by cases h.1) (Or.inl ⟨by rfl, ?_⟩) hS ?_
            rotate_left
            · intro w' hS'
              unfold Held at hS'
              obtain ⟨hS1, hS3⟩ := hS'
              have hS2 := hv w' hS1
              clear hS1
              go_simp
              (first | rfl | (rw [if_neg (by omega)]; (first | done | rfl)))
            (try simp only [Act.put, List.setIfInBounds_toArray, List.set_cons_zero, List.set_cons_succ])
            refine wpAnyH_take (i := 19) (v := ?_) (by simp only [List.getElem?_toArray, List.getElem?_cons_succ, List.getElem?_cons_zero]; rfl) (by kernel_rfl) (by kernel_rfl) (by kernel_rfl) (by first | exact fun _ _ _ h => h | exact fun _ _ _ h => by cases h.1) (Or.inl ⟨by rfl, ?_⟩) hS ?_
            rotate_left
            · intro w' hS'
              unfold Held at hS'
              obtain ⟨hS1, hS3⟩ := hS'
              have hS2 := hv w' hS1
              clear hS1
              go_simp
              (first | rfl | (rw [if_neg (by omega)]; (first | done | rfl)))
            (try simp only [Act.put, List.setIfInBounds_toArray, List.set_cons_zero, List.set_cons_succ])
            refine wpAnyH_all (rs := [22]) (by kernel_rfl) (by simp) ?_
            intro i hi
            obtain rfl := List.mem_singleton.1 hi
            clear hi
            refine wpOp_step rfl (fun K hK => ?_)
            clear hS
            go_simp
            refine (two_any _ _ (by omega) (by omega)).mono ?_
            rintro e u37 ⟨rfl, Hu37⟩
            have zu37 := (Hu37).size
            replace hSW : Below (w1).heap.size (w1) u37 := Below.trans hSW (Below.mono Hu37 zW)
            replace rA1 := (row_below Hu37 zA1).trans rA1
            replace zA1 : A1 < u37.heap.size := by omega
            replace rA2 := (row_below Hu37 zA2).trans rA2
            replace zA2 : A2 < u37.heap.size := by omega
            replace zW : (w1).heap.size ≤ u37.heap.size := by omega
            refine hK _ _ (wpAnyH_same ⟨hSW, ⟨rA1, rA2⟩⟩ (fun hS => ?_))
            clear hK K Hu37
            refine wpAnyH_take (i := 23) (v := ?_) (by simp only [List.getElem?_toArray, List.getElem?_cons_succ, List.getElem?_cons_zero]; rfl) (by kernel_rfl) (by kernel_rfl) (by kernel_rfl) (by first | exact fun _ _ _ h => h | exact fun _ _ _ h => by cases h.1) (Or.inl ⟨by rfl, ?_⟩) hS ?_
            rotate_left
            · intro w' hS'
              unfold Held at hS'
              obtain ⟨hS1, hS3⟩ := hS'
              have hS2 := hv w' hS1
              clear hS1
              go_simp
              (first | rfl | (rw [if_neg (by omega)]; (first | done | rfl)))
            (try simp only [Act.put, List.setIfInBounds_toArray, List.set_cons_zero, List.set_cons_succ])
            refine wpAnyH_take (i := 26) (v := ?_) (by simp only [List.getElem?_toArray, List.getElem?_cons_succ, List.getElem?_cons_zero]; rfl) (by kernel_rfl) (by kernel_rfl) (by kernel_rfl) (by first | exact fun _ _ _ h => h | exact fun _ _ _ h => by cases h.1) (Or.inl ⟨by rfl, ?_⟩) hS ?_
            rotate_left
            · intro w' hS'
              unfold Held at hS'
              obtain ⟨hS1, hS3⟩ := hS'
              have hS2 := hv w' hS1
              clear hS1
              go_simp
              (first | rfl | (rw [if_neg (by omega)]; (first | done | rfl)))
            (try simp only [Act.put, List.setIfInBounds_toArray, List.set_cons_zero, List.set_cons_succ])
            refine wpAnyH_take (i := 27) (v := ?_) (by simp only [List.getElem?_toArray, List.getElem?_cons_succ, List.getElem?_cons_zero]; rfl) (by kernel_rfl) (by kernel_rfl) (by kernel_rfl) (by first | exact fun _ _ _ h => h | exact fun _ _ _ h => by cases h.1) (Or.inl ⟨by rfl, ?_⟩) hS ?_
            rotate_left
            · intro w' hS'
              unfold Held at hS'
              obtain ⟨hS1, hS3⟩ := hS'
              have hS2 := hv w' hS1
              clear hS1
              go_simp
              (first | rfl | (rw [if_neg (by omega)]; (first | done | rfl)))
            (try simp only [Act.put, List.setIfInBounds_toArray, List.set_cons_zero, List.set_cons_succ])
            refine wpAnyH_take (i := 28) (v := ?_) (by simp only [List.getElem?_toArray, List.getElem?_cons_succ, List.getElem?_cons_zero]; rfl) (by kernel_rfl) (by kernel_rfl) (by kernel_rfl) (by first | exact fun _ _ _ h => h | exact fun _ _ _ h => by cases h.1) (Or.inl ⟨by rfl, ?_⟩) hS ?_
            rotate_left
            · intro w' hS'
              unfold Held at hS'
              obtain ⟨hS1, hS3⟩ := hS'
              have hS2 := hv w' hS1
              clear hS1
              go_simp
              (first | rfl | (rw [if_neg (by omega)]; (first | done | rfl)))
            (try simp only [Act.put, List.setIfInBounds_toArray, List.set_cons_zero, List.set_cons_succ])
            refine wpAnyH_done (by kernel_rfl) ?_ _
            refine ⟨rfl, rfl, by simp, rfl, hSW⟩
          · skip
            refine wpOp_step rfl (fun K hK => ?_)
            clear hS
            go_simp
            refine (two_any _ _ (by omega) (by omega)).mono ?_
            rintro e u38 ⟨rfl, Hu38⟩
            have zu38 := (Hu38).size
            replace hSW : Below (w1).heap.size (w1) u38 := Below.trans hSW (Below.mono Hu38 zW)
            replace rA1 := (row_below Hu38 zA1).trans rA1
            replace zA1 : A1 < u38.heap.size := by omega
            replace zW : (w1).heap.size ≤ u38.heap.size := by omega
            refine hK _ _ (wpAnyH_same ⟨hSW, rA1⟩ (fun hS => ?_))
            clear hK K Hu38
            refine wpAnyH_all (rs := [6]) (by kernel_rfl) (by simp) ?_
            intro i hi
            obtain rfl := List.mem_singleton.1 hi
            clear hi
            refine wpOp_step rfl (fun K hK => ?_)
            clear hS
            go_simp
            rw [show (#[Value.int .u8 58, Value.int .u8 255] : Array Value) = (u8s [58, 255]).toArray from rfl]
            obtain ⟨A2, hA2⟩ : ∃ A, u38.heap.size = A := ⟨_, rfl⟩
            rw [hA2]
            obtain ⟨u39, hu39⟩ : ∃ U, u38.alloc (.cells (u8s [58, 255]).toArray 5) = U := ⟨_, rfl⟩
            rw [hu39]
            have rA2 : row u39 A2 = (u8s [58, 255]).toArray := by rw [← hu39]; exact row_alloc_at _ _ _ hA2.symm
            have su39 : u39.heap.size = u38.heap.size + 1 := by rw [← hu39]; simp
            have Hu39 : Below u38.heap.size u38 u39 := by rw [← hu39]; exact Below.alloc (Below.refl _ _) (Nat.le_refl _) _
            have zA2 : A2 < u39.heap.size := by omega
            replace rA1 := (row_below Hu39 zA1).trans rA1
            replace zA1 : A1 < u39.heap.size := by omega
            replace hSW : Below (w1).heap.size (w1) u39 := Below.trans hSW (Below.mono Hu39 zW)
            replace zW : (w1).heap.size ≤ u39.heap.size := by omega
            clear Hu39 hu39 su39 hA2
            refine hK _ _ (wpAnyH_next (S2 := Held (fun w' => Below (w1).heap.size (w1) w' ∧ (row w' A1 = (u8s [96, 0, 0, 0]).toArray ∧ row w' A2 = (u8s [58, 255]).toArray))) ⟨hSW, ⟨rA1, rA2⟩⟩ (fun w' h => ⟨h.1, h.2.1⟩) (fun hS => ?_))
            clear hK K
            refine wpAnyH_take (i := 7) (v := ?_) (by simp only [List.getElem?_toArray, List.getElem?_cons_succ, List.getElem?_cons_zero]; rfl) (by kernel_rfl) (by kernel_rfl) (by kernel_rfl) (by first | exact fun _ _ _ h => h | exact fun _ _ _ h => by cases h.1) (Or.inl ⟨by rfl, ?_⟩) hS ?_
            rotate_left
            · intro w' hS'
              unfold Held at hS'
              obtain ⟨hS1, hS3⟩ := hS'
              have hS2 := hv w' hS1
              clear hS1
              go_simp
              (first | rfl | (rw [if_neg (by omega)]; (first | done | rfl)))
            (try simp only [Act.put, List.setIfInBounds_toArray, List.set_cons_zero, List.set_cons_succ])
            refine wpAnyH_take (i := 8) (v := ?_) (by simp only [List.getElem?_toArray, List.getElem?_cons_succ, List.getElem?_cons_zero]; rfl) (by kernel_rfl) (by kernel_rfl) (by kernel_rfl) (by first | exact fun _ _ _ h => h | exact fun _ _ _ h => by cases h.1) (Or.inl ⟨by rfl, ?_⟩) hS ?_
            rotate_left
            · intro w' hS'
              unfold Held at hS'
              obtain ⟨hS1, hS3⟩ := hS'
              have hS2 := hv w' hS1
              clear hS1
              go_simp
              (first | rfl | (rw [if_neg (by omega)]; (first | done | rfl)))
            (try simp only [Act.put, List.setIfInBounds_toArray, List.set_cons_zero, List.set_cons_succ])
            refine wpAnyH_take (i := 12) (v := ?_) (by simp only [List.getElem?_toArray, List.getElem?_cons_succ, List.getElem?_cons_zero]; rfl) (by kernel_rfl) (by kernel_rfl) (by kernel_rfl) (by first | exact fun _ _ _ h => h | exact fun _ _ _ h => by cases h.1) (Or.inl ⟨by rfl, ?_⟩) hS ?_
            rotate_left
            · intro w' hS'
              unfold Held at hS'
              obtain ⟨hS1, hS3⟩ := hS'
              have hS2 := hv w' hS1
              clear hS1
              go_simp
              (first | rfl | (rw [if_neg (by omega)]; (first | done | rfl)))
            (try simp only [Act.put, List.setIfInBounds_toArray, List.set_cons_zero, List.set_cons_succ])
            refine wpAnyH_take (i := 16) (v := ?_) (by simp only [List.getElem?_toArray, List.getElem?_cons_succ, List.getElem?_cons_zero]; rfl) (by kernel_rfl) (by kernel_rfl) (by kernel_rfl) (by first | exact fun _ _ _ h => h | exact fun _ _ _ h => by cases h.1) (Or.inl ⟨by rfl, ?_⟩) hS ?_
            rotate_left
            · intro w' hS'
              unfold Held at hS'
              obtain ⟨hS1, hS3⟩ := hS'
              have hS2 := hv w' hS1
              clear hS1
              go_simp
              (first | rfl | (rw [if_neg (by omega)]; (first | done | rfl)))
            (try simp only [Act.put, List.setIfInBounds_toArray, List.set_cons_zero, List.set_cons_succ])
            refine wpAnyH_take (i := 19) (v := ?_) (by simp only [List.getElem?_toArray, List.getElem?_cons_succ, List.getElem?_cons_zero]; rfl) (by kernel_rfl) (by kernel_rfl) (by kernel_rfl) (by first | exact fun _ _ _ h => h | exact fun _ _ _ h => by cases h.1) (Or.inl ⟨by rfl, ?_⟩) hS ?_
            rotate_left
            · intro w' hS'
              unfold Held at hS'
              obtain ⟨hS1, hS3⟩ := hS'
              have hS2 := hv w' hS1
              clear hS1
              go_simp
              (first | rfl | (rw [if_neg (by omega)]; (first | done | rfl)))
            (try simp only [Act.put, List.setIfInBounds_toArray, List.set_cons_zero, List.set_cons_succ])
            refine wpAnyH_take (i := 23) (v := ?_) (by simp only [List.getElem?_toArray, List.getElem?_cons_succ, List.getElem?_cons_zero]; rfl) (by kernel_rfl) (by kernel_rfl) (by kernel_rfl) (by first | exact fun _ _ _ h => h | exact fun _ _ _ h => by cases h.1) (Or.inl ⟨by rfl, ?_⟩) hS ?_
            rotate_left
            · intro w' hS'
              unfold Held at hS'
              obtain ⟨hS1, hS3⟩ := hS'
              have hS2 := hv w' hS1
              clear hS1
              go_simp
              (first | rfl | (rw [if_neg (by omega)]; (first | done | rfl)))
            (try simp only [Act.put, List.setIfInBounds_toArray, List.set_cons_zero, List.set_cons_succ])
            refine wpAnyH_take (i := 26) (v := ?_) (by simp only [List.getElem?_toArray, List.getElem?_cons_succ, List.getElem?_cons_zero]; rfl) (by kernel_rfl) (by kernel_rfl) (by kernel_rfl) (by first | exact fun _ _ _ h => h | exact fun _ _ _ h => by cases h.1) (Or.inl ⟨by rfl, ?_⟩) hS ?_
            rotate_left
            · intro w' hS'
              unfold Held at hS'
              obtain ⟨hS1, hS3⟩ := hS'
              have hS2 := hv w' hS1
              clear hS1
              go_simp
              (first | rfl | (rw [if_neg (by omega)]; (first | done | rfl)))
            (try simp only [Act.put, List.setIfInBounds_toArray, List.set_cons_zero, List.set_cons_succ])
            refine wpAnyH_take (i := 27) (v := ?_) (by simp only [List.getElem?_toArray, List.getElem?_cons_succ, List.getElem?_cons_zero]; rfl) (by kernel_rfl) (by kernel_rfl) (by kernel_rfl) (by first | exact fun _ _ _ h => h | exact fun _ _ _ h => by cases h.1) (Or.inl ⟨by rfl, ?_⟩) hS ?_
            rotate_left
            · intro w' hS'
              unfold Held at hS'
              obtain ⟨hS1, hS3⟩ := hS'
              have hS2 := hv w' hS1
              clear hS1
              go_simp
              (first | rfl | (rw [if_neg (by omega)]; (first | done | rfl)))
            (try simp only [Act.put, List.setIfInBounds_toArray, List.set_cons_zero, List.set_cons_succ])
            refine wpAnyH_take (i := 28) (v := ?_) (by simp only [List.getElem?_toArray, List.getElem?_cons_succ, List.getElem?_cons_zero]; rfl) (by kernel_rfl) (by kernel_rfl) (by kernel_rfl) (by first | exact fun _ _ _ h => h | exact fun _ _ _ h => by cases h.1) (Or.inl ⟨by rfl, ?_⟩) hS ?_
            rotate_left
            · intro w' hS'
              unfold Held at hS'
              obtain ⟨hS1, hS3⟩ := hS'
              have hS2 := hv w' hS1
              clear hS1
              go_simp
              (first | rfl | (rw [if_neg (by omega)]; (first | done | rfl)))
            (try simp only [Act.put, List.setIfInBounds_toArray, List.set_cons_zero, List.set_cons_succ])
            refine wpAnyH_done (by kernel_rfl) ?_ _
            refine ⟨rfl, rfl, by simp, rfl, hSW⟩
        · skip
          refine wpOp_step rfl (fun K hK => ?_)
          clear hS
          go_simp
          rw [show (#[Value.int .u8 58, Value.int .u8 255] : Array Value) = (u8s [58, 255]).toArray from rfl]
          obtain ⟨A2, hA2⟩ : ∃ A, u34.heap.size = A := ⟨_, rfl⟩
          rw [hA2]
          obtain ⟨u40, hu40⟩ : ∃ U, u34.alloc (.cells (u8s [58, 255]).toArray 5) = U := ⟨_, rfl⟩
          rw [hu40]
          have rA2 : row u40 A2 = (u8s [58, 255]).toArray := by rw [← hu40]; exact row_alloc_at _ _ _ hA2.symm
          have su40 : u40.heap.size = u34.heap.size + 1 := by rw [← hu40]; simp
          have Hu40 : Below u34.heap.size u34 u40 := by rw [← hu40]; exact Below.alloc (Below.refl _ _) (Nat.le_refl _) _
          have zA2 : A2 < u40.heap.size := by omega
          replace hSW : Below (w1).heap.size (w1) u40 := Below.trans hSW (Below.mono Hu40 zW)
          replace zW : (w1).heap.size ≤ u40.heap.size := by omega
          clear Hu40 hu40 su40 hA2
          refine hK _ _ (wpAnyH_next (S2 := Held (fun w' => Below (w1).heap.size (w1) w' ∧ (row w' A2 = (u8s [58, 255]).toArray))) ⟨hSW, rA2⟩ (fun w' h => ⟨h.1, trivial⟩) (fun hS => ?_))
          clear hK K
          refine wpAnyH_take (i := 7) (v := ?_) (by simp only [List.getElem?_toArray, List.getElem?_cons_succ, List.getElem?_cons_zero]; rfl) (by kernel_rfl) (by kernel_rfl) (by kernel_rfl) (by first | exact fun _ _ _ h => h | exact fun _ _ _ h => by cases h.1) (Or.inl ⟨by rfl, ?_⟩) hS ?_
          rotate_left
          · intro w' hS'
            unfold Held at hS'
            obtain ⟨hS1, hS3⟩ := hS'
            have hS2 := hv w' hS1
            clear hS1
            go_simp
            (first | rfl | (rw [if_neg (by omega)]; (first | done | rfl)))
          (try simp only [Act.put, List.setIfInBounds_toArray, List.set_cons_zero, List.set_cons_succ])
          refine wpAnyH_all (rs := [0, 22]) (by kernel_rfl) (by simp) ?_
          intro i hi
          simp only [List.mem_cons, List.not_mem_nil, or_false] at hi
          rcases hi with rfl | rfl
          · skip
            refine wpOp_step rfl (fun K hK => ?_)
            clear hS
            go_simp
            rw [show (#[Value.int .u8 96, Value.int .u8 0, Value.int .u8 0, Value.int .u8 0] : Array Value) = (u8s [96, 0, 0, 0]).toArray from rfl]
            obtain ⟨A1, hA1⟩ : ∃ A, u40.heap.size = A := ⟨_, rfl⟩
            rw [hA1]
            obtain ⟨u41, hu41⟩ : ∃ U, u40.alloc (.cells (u8s [96, 0, 0, 0]).toArray 5) = U := ⟨_, rfl⟩
            rw [hu41]
            have rA1 : row u41 A1 = (u8s [96, 0, 0, 0]).toArray := by rw [← hu41]; exact row_alloc_at _ _ _ hA1.symm
            have su41 : u41.heap.size = u40.heap.size + 1 := by rw [← hu41]; simp
            have Hu41 : Below u40.heap.size u40 u41 := by rw [← hu41]; exact Below.alloc (Below.refl _ _) (Nat.le_refl _) _
            have zA1 : A1 < u41.heap.size := by omega
            replace rA2 := (row_below Hu41 zA2).trans rA2
            replace zA2 : A2 < u41.heap.size := by omega
            replace hSW : Below (w1).heap.size (w1) u41 := Below.trans hSW (Below.mono Hu41 zW)
            replace zW : (w1).heap.size ≤ u41.heap.size := by omega
            clear Hu41 hu41 su41 hA1
            refine hK _ _ (wpAnyH_next (S2 := Held (fun w' => Below (w1).heap.size (w1) w' ∧ (row w' A2 = (u8s [58, 255]).toArray ∧ row w' A1 = (u8s [96, 0, 0, 0]).toArray))) ⟨hSW, ⟨rA2, rA1⟩⟩ (fun w' h => ⟨h.1, h.2.1⟩) (fun hS => ?_))
            clear hK K
            refine wpAnyH_take (i := 1) (v := ?_) (by simp only [List.getElem?_toArray, List.getElem?_cons_succ, List.getElem?_cons_zero]; rfl) (by kernel_rfl) (by kernel_rfl) (by kernel_rfl) (by first | exact fun _ _ _ h => h | exact fun _ _ _ h => by cases h.1) (Or.inl ⟨by rfl, ?_⟩) hS ?_
            rotate_left
            · intro w' hS'
              unfold Held at hS'
              obtain ⟨hS1, hS3⟩ := hS'
              have hS2 := hv w' hS1
              clear hS1
              go_simp
              (first | rfl | (rw [if_neg (by omega)]; (first | done | rfl)))
            (try simp only [Act.put, List.setIfInBounds_toArray, List.set_cons_zero, List.set_cons_succ])
            refine wpAnyH_take (i := 5) (v := ?_) (by simp only [List.getElem?_toArray, List.getElem?_cons_succ, List.getElem?_cons_zero]; rfl) (by kernel_rfl) (by kernel_rfl) (by kernel_rfl) (by first | exact fun _ _ _ h => h | exact fun _ _ _ h => by cases h.1) (Or.inl ⟨by rfl, ?_⟩) hS ?_
            rotate_left
            · intro w' hS'
              unfold Held at hS'
              obtain ⟨hS1, hS3⟩ := hS'
              have hS2 := hv w' hS1
              clear hS1
              go_simp
              (first | rfl | (rw [if_neg (by omega)]; (first | done | rfl)))
            (try simp only [Act.put, List.setIfInBounds_toArray, List.set_cons_zero, List.set_cons_succ])
            refine wpAnyH_take (i := 8) (v := ?_) (by simp only [List.getElem?_toArray, List.getElem?_cons_succ, List.getElem?_cons_zero]; rfl) (by kernel_rfl) (by kernel_rfl) (by kernel_rfl) (by first | exact fun _ _ _ h => h | exact fun _ _ _ h => by cases h.1) (Or.inl ⟨by rfl, ?_⟩) hS ?_
            rotate_left
            · intro w' hS'
              unfold Held at hS'
              obtain ⟨hS1, hS3⟩ := hS'
              have hS2 := hv w' hS1
              clear hS1
              go_simp
              (first | rfl | (rw [if_neg (by omega)]; (first | done | rfl)))
            (try simp only [Act.put, List.setIfInBounds_toArray, List.set_cons_zero, List.set_cons_succ])
            refine wpAnyH_take (i := 12) (v := ?_) (by simp only [List.getElem?_toArray, List.getElem?_cons_succ, List.getElem?_cons_zero]; rfl) (by kernel_rfl) (by kernel_rfl) (by kernel_rfl) (by first | exact fun _ _ _ h => h | exact fun _ _ _ h => by cases h.1) (Or.inl ⟨by rfl, ?_⟩) hS ?_
            rotate_left
            · intro w' hS'
              unfold Held at hS'
              obtain ⟨hS1, hS3⟩ := hS'
              have hS2 := hv w' hS1
              clear hS1
              go_simp
              (first | rfl | (rw [if_neg (by omega)]; (first | done | rfl)))
            (try simp only [Act.put, List.setIfInBounds_toArray, List.set_cons_zero, List.set_cons_succ])
            refine wpAnyH_take (i := 16) (v := ?_) (by simp only [List.getElem?_toArray, List.getElem?_cons_succ, List.getElem?_cons_zero]; rfl) (by kernel_rfl) (by kernel_rfl) (by kernel_rfl) (by first | exact fun _ _ _ h => h | exact fun _ _ _ h => by cases h.1) (Or.inl ⟨by rfl, ?_⟩) hS ?_
            rotate_left
            · intro w' hS'
              unfold Held at hS'
              obtain ⟨hS1, hS3⟩ := hS'
              have hS2 := hv w' hS1
              clear hS1
              go_simp
              (first | rfl | (rw [if_neg (by omega)]; (first | done | rfl)))
            (try simp only [Act.put, List.setIfInBounds_toArray, List.set_cons_zero, List.set_cons_succ])
            refine wpAnyH_take (i := 19) (v := ?_) (by simp only [List.getElem?_toArray, List.getElem?_cons_succ, List.getElem?_cons_zero]; rfl) (by kernel_rfl) (by kernel_rfl) (by kernel_rfl) (by first | exact fun _ _ _ h => h | exact fun _ _ _ h => by cases h.1) (Or.inl ⟨by rfl, ?_⟩) hS ?_
            rotate_left
            · intro w' hS'
              unfold Held at hS'
              obtain ⟨hS1, hS3⟩ := hS'
              have hS2 := hv w' hS1
              clear hS1
              go_simp
              (first | rfl | (rw [if_neg (by omega)]; (first | done | rfl)))
            (try simp only [Act.put, List.setIfInBounds_toArray, List.set_cons_zero, List.set_cons_succ])
            refine wpAnyH_all (rs := [22]) (by kernel_rfl) (by simp) ?_
            intro i hi
            obtain rfl := List.mem_singleton.1 hi
            clear hi
            refine wpOp_step rfl (fun K hK => ?_)
            clear hS
            go_simp
            refine (two_any _ _ (by omega) (by omega)).mono ?_
            rintro e u42 ⟨rfl, Hu42⟩
            have zu42 := (Hu42).size
            replace hSW : Below (w1).heap.size (w1) u42 := Below.trans hSW (Below.mono Hu42 zW)
            replace rA2 := (row_below Hu42 zA2).trans rA2
            replace zA2 : A2 < u42.heap.size := by omega
            replace rA1 := (row_below Hu42 zA1).trans rA1
            replace zA1 : A1 < u42.heap.size := by omega
            replace zW : (w1).heap.size ≤ u42.heap.size := by omega
            refine hK _ _ (wpAnyH_same ⟨hSW, ⟨rA2, rA1⟩⟩ (fun hS => ?_))
            clear hK K Hu42
            refine wpAnyH_take (i := 23) (v := ?_) (by simp only [List.getElem?_toArray, List.getElem?_cons_succ, List.getElem?_cons_zero]; rfl) (by kernel_rfl) (by kernel_rfl) (by kernel_rfl) (by first | exact fun _ _ _ h => h | exact fun _ _ _ h => by cases h.1) (Or.inl ⟨by rfl, ?_⟩) hS ?_
            rotate_left
            · intro w' hS'
              unfold Held at hS'
              obtain ⟨hS1, hS3⟩ := hS'
              have hS2 := hv w' hS1
              clear hS1
              go_simp
              (first | rfl | (rw [if_neg (by omega)]; (first | done | rfl)))
            (try simp only [Act.put, List.setIfInBounds_toArray, List.set_cons_zero, List.set_cons_succ])
            refine wpAnyH_take (i := 26) (v := ?_) (by simp only [List.getElem?_toArray, List.getElem?_cons_succ, List.getElem?_cons_zero]; rfl) (by kernel_rfl) (by kernel_rfl) (by kernel_rfl) (by first | exact fun _ _ _ h => h | exact fun _ _ _ h => by cases h.1) (Or.inl ⟨by rfl, ?_⟩) hS ?_
            rotate_left
            · intro w' hS'
              unfold Held at hS'
              obtain ⟨hS1, hS3⟩ := hS'
              have hS2 := hv w' hS1
              clear hS1
              go_simp
              (first | rfl | (rw [if_neg (by omega)]; (first | done | rfl)))
            (try simp only [Act.put, List.setIfInBounds_toArray, List.set_cons_zero, List.set_cons_succ])
            refine wpAnyH_take (i := 27) (v := ?_) (by simp only [List.getElem?_toArray, List.getElem?_cons_succ, List.getElem?_cons_zero]; rfl) (by kernel_rfl) (by kernel_rfl) (by kernel_rfl) (by first | exact fun _ _ _ h => h | exact fun _ _ _ h => by cases h.1) (Or.inl ⟨by rfl, ?_⟩) hS ?_
            rotate_left
            · intro w' hS'
              unfold Held at hS'
              obtain ⟨hS1, hS3⟩ := hS'
              have hS2 := hv w' hS1
              clear hS1
              go_simp
              (first | rfl | (rw [if_neg (by omega)]; (first | done | rfl)))
            (try simp only [Act.put, List.setIfInBounds_toArray, List.set_cons_zero, List.set_cons_succ])
            refine wpAnyH_take (i := 28) (v := ?_) (by simp only [List.getElem?_toArray, List.getElem?_cons_succ, List.getElem?_cons_zero]; rfl) (by kernel_rfl) (by kernel_rfl) (by kernel_rfl) (by first | exact fun _ _ _ h => h | exact fun _ _ _ h => by cases h.1) (Or.inl ⟨by rfl, ?_⟩) hS ?_
            rotate_left
            · intro w' hS'
              unfold Held at hS'
              obtain ⟨hS1, hS3⟩ := hS'
              have hS2 := hv w' hS1
              clear hS1
              go_simp
              (first | rfl | (rw [if_neg (by omega)]; (first | done | rfl)))
            (try simp only [Act.put, List.setIfInBounds_toArray, List.set_cons_zero, List.set_cons_succ])
            refine wpAnyH_done (by kernel_rfl) ?_ _
            refine ⟨rfl, rfl, by simp, rfl, hSW⟩
          · skip
            refine wpOp_step rfl (fun K hK => ?_)
            clear hS
            go_simp
            refine (two_any _ _ (by omega) (by omega)).mono ?_
            rintro e u43 ⟨rfl, Hu43⟩
            have zu43 := (Hu43).size
            replace hSW : Below (w1).heap.size (w1) u43 := Below.trans hSW (Below.mono Hu43 zW)
            replace rA2 := (row_below Hu43 zA2).trans rA2
            replace zA2 : A2 < u43.heap.size := by omega
            replace zW : (w1).heap.size ≤ u43.heap.size := by omega
            refine hK _ _ (wpAnyH_same ⟨hSW, rA2⟩ (fun hS => ?_))
            clear hK K Hu43
            refine wpAnyH_all (rs := [0]) (by kernel_rfl) (by simp) ?_
            intro i hi
            obtain rfl := List.mem_singleton.1 hi
            clear hi
            refine wpOp_step rfl (fun K hK => ?_)
            clear hS
            go_simp
            rw [show (#[Value.int .u8 96, Value.int .u8 0, Value.int .u8 0, Value.int .u8 0] : Array Value) = (u8s [96, 0, 0, 0]).toArray from rfl]
            obtain ⟨A1, hA1⟩ : ∃ A, u43.heap.size = A := ⟨_, rfl⟩
            rw [hA1]
            obtain ⟨u44, hu44⟩ : ∃ U, u43.alloc (.cells (u8s [96, 0, 0, 0]).toArray 5) = U := ⟨_, rfl⟩
            rw [hu44]
            have rA1 : row u44 A1 = (u8s [96, 0, 0, 0]).toArray := by rw [← hu44]; exact row_alloc_at _ _ _ hA1.symm
            have su44 : u44.heap.size = u43.heap.size + 1 := by rw [← hu44]; simp
            have Hu44 : Below u43.heap.size u43 u44 := by rw [← hu44]; exact Below.alloc (Below.refl _ _) (Nat.le_refl _) _
            have zA1 : A1 < u44.heap.size := by omega
            replace rA2 := (row_below Hu44 zA2).trans rA2
            replace zA2 : A2 < u44.heap.size := by omega
            replace hSW : Below (w1).heap.size (w1) u44 := Below.trans hSW (Below.mono Hu44 zW)
            replace zW : (w1).heap.size ≤ u44.heap.size := by omega
            clear Hu44 hu44 su44 hA1
            refine hK _ _ (wpAnyH_next (S2 := Held (fun w' => Below (w1).heap.size (w1) w' ∧ (row w' A2 = (u8s [58, 255]).toArray ∧ row w' A1 = (u8s [96, 0, 0, 0]).toArray))) ⟨hSW, ⟨rA2, rA1⟩⟩ (fun w' h => ⟨h.1, h.2.1⟩) (fun hS => ?_))
            clear hK K
            refine wpAnyH_take (i := 1) (v := ?_) (by simp only [List.getElem?_toArray, List.getElem?_cons_succ, List.getElem?_cons_zero]; rfl) (by kernel_rfl) (by kernel_rfl) (by kernel_rfl) (by first | exact fun _ _ _ h => h | exact fun _ _ _ h => by cases h.1) (Or.inl ⟨by rfl, ?_⟩) hS ?_
            rotate_left
            · intro w' hS'
              unfold Held at hS'
              obtain ⟨hS1, hS3⟩ := hS'
              have hS2 := hv w' hS1
              clear hS1
              go_simp
              (first | rfl | (rw [if_neg (by omega)]; (first | done | rfl)))
            (try simp only [Act.put, List.setIfInBounds_toArray, List.set_cons_zero, List.set_cons_succ])
            refine wpAnyH_take (i := 5) (v := ?_) (by simp only [List.getElem?_toArray, List.getElem?_cons_succ, List.getElem?_cons_zero]; rfl) (by kernel_rfl) (by kernel_rfl) (by kernel_rfl) (by first | exact fun _ _ _ h => h | exact fun _ _ _ h => by cases h.1) (Or.inl ⟨by rfl, ?_⟩) hS ?_
            rotate_left
            · intro w' hS'
              unfold Held at hS'
              obtain ⟨hS1, hS3⟩ := hS'
              have hS2 := hv w' hS1
              clear hS1
              go_simp
              (first | rfl | (rw [if_neg (by omega)]; (first | done | rfl)))
            (try simp only [Act.put, List.setIfInBounds_toArray, List.set_cons_zero, List.set_cons_succ])
            refine wpAnyH_take (i := 8) (v := ?_) (by simp only [List.getElem?_toArray, List.getElem?_cons_succ, List.getElem?_cons_zero]; rfl) (by kernel_rfl) (by kernel_rfl) (by kernel_rfl) (by first | exact fun _ _ _ h => h | exact fun _ _ _ h => by cases h.1) (Or.inl ⟨by rfl, ?_⟩) hS ?_
            rotate_left
            · intro w' hS'
              unfold Held at hS'
              obtain ⟨hS1, hS3⟩ := hS'
              have hS2 := hv w' hS1
              clear hS1
              go_simp
              (first | rfl | (rw [if_neg (by omega)]; (first | done | rfl)))
            (try simp only [Act.put, List.setIfInBounds_toArray, List.set_cons_zero, List.set_cons_succ])
            refine wpAnyH_take (i := 12) (v := ?_) (by simp only [List.getElem?_toArray, List.getElem?_cons_succ, List.getElem?_cons_zero]; rfl) (by kernel_rfl) (by kernel_rfl) (by kernel_rfl) (by first | exact fun _ _ _ h => h | exact fun _ _ _ h => by cases h.1) (Or.inl ⟨by rfl, ?_⟩) hS ?_
            rotate_left
            · intro w' hS'
              unfold Held at hS'
              obtain ⟨hS1, hS3⟩ := hS'
              have hS2 := hv w' hS1
              clear hS1
              go_simp
              (first | rfl | (rw [if_neg (by omega)]; (first | done | rfl)))
            (try simp only [Act.put, List.setIfInBounds_toArray, List.set_cons_zero, List.set_cons_succ])
            refine wpAnyH_take (i := 16) (v := ?_) (by simp only [List.getElem?_toArray, List.getElem?_cons_succ, List.getElem?_cons_zero]; rfl) (by kernel_rfl) (by kernel_rfl) (by kernel_rfl) (by first | exact fun _ _ _ h => h | exact fun _ _ _ h => by cases h.1) (Or.inl ⟨by rfl, ?_⟩) hS ?_
            rotate_left
            · intro w' hS'
              unfold Held at hS'
              obtain ⟨hS1, hS3⟩ := hS'
              have hS2 := hv w' hS1
              clear hS1
              go_simp
              (first | rfl | (rw [if_neg (by omega)]; (first | done | rfl)))
            (try simp only [Act.put, List.setIfInBounds_toArray, List.set_cons_zero, List.set_cons_succ])
            refine wpAnyH_take (i := 19) (v := ?_) (by simp only [List.getElem?_toArray, List.getElem?_cons_succ, List.getElem?_cons_zero]; rfl) (by kernel_rfl) (by kernel_rfl) (by kernel_rfl) (by first | exact fun _ _ _ h => h | exact fun _ _ _ h => by cases h.1) (Or.inl ⟨by rfl, ?_⟩) hS ?_
            rotate_left
            · intro w' hS'
              unfold Held at hS'
              obtain ⟨hS1, hS3⟩ := hS'
              have hS2 := hv w' hS1
              clear hS1
              go_simp
              (first | rfl | (rw [if_neg (by omega)]; (first | done | rfl)))
            (try simp only [Act.put, List.setIfInBounds_toArray, List.set_cons_zero, List.set_cons_succ])
            refine wpAnyH_take (i := 23) (v := ?_) (by simp only [List.getElem?_toArray, List.getElem?_cons_succ, List.getElem?_cons_zero]; rfl) (by kernel_rfl) (by kernel_rfl) (by kernel_rfl) (by first | exact fun _ _ _ h => h | exact fun _ _ _ h => by cases h.1) (Or.inl ⟨by rfl, ?_⟩) hS ?_
            rotate_left
            · intro w' hS'
              unfold Held at hS'
              obtain ⟨hS1, hS3⟩ := hS'
              have hS2 := hv w' hS1
              clear hS1
              go_simp
              (first | rfl | (rw [if_neg (by omega)]; (first | done | rfl)))
            (try simp only [Act.put, List.setIfInBounds_toArray, List.set_cons_zero, List.set_cons_succ])
            refine wpAnyH_take (i := 26) (v := ?_) (by simp only [List.getElem?_toArray, List.getElem?_cons_succ, List.getElem?_cons_zero]; rfl) (by kernel_rfl) (by kernel_rfl) (by kernel_rfl) (by first | exact fun _ _ _ h => h | exact fun _ _ _ h => by cases h.1) (Or.inl ⟨by rfl, ?_⟩) hS ?_
            rotate_left
            · intro w' hS'
              unfold Held at hS'
              obtain ⟨hS1, hS3⟩ := hS'
              have hS2 := hv w' hS1
              clear hS1
              go_simp
              (first | rfl | (rw [if_neg (by omega)]; (first | done | rfl)))
            (try simp only [Act.put, List.setIfInBounds_toArray, List.set_cons_zero, List.set_cons_succ])
            refine wpAnyH_take (i := 27) (v := ?_) (by simp only [List.getElem?_toArray, List.getElem?_cons_succ, List.getElem?_cons_zero]; rfl) (by kernel_rfl) (by kernel_rfl) (by kernel_rfl) (by first | exact fun _ _ _ h => h | exact fun _ _ _ h => by cases h.1) (Or.inl ⟨by rfl, ?_⟩) hS ?_
            rotate_left
            · intro w' hS'
              unfold Held at hS'
              obtain ⟨hS1, hS3⟩ := hS'
              have hS2 := hv w' hS1
              clear hS1
              go_simp
              (first | rfl | (rw [if_neg (by omega)]; (first | done | rfl)))
            (try simp only [Act.put, List.setIfInBounds_toArray, List.set_cons_zero, List.set_cons_succ])
            refine wpAnyH_take (i := 28) (v := ?_) (by simp only [List.getElem?_toArray, List.getElem?_cons_succ, List.getElem?_cons_zero]; rfl) (by kernel_rfl) (by kernel_rfl) (by kernel_rfl) (by first | exact fun _ _ _ h => h | exact fun _ _ _ h => by cases h.1) (Or.inl ⟨by rfl, ?_⟩) hS ?_
            rotate_left
            · intro w' hS'
              unfold Held at hS'
              obtain ⟨hS1, hS3⟩ := hS'
              have hS2 := hv w' hS1
              clear hS1
              go_simp
              (first | rfl | (rw [if_neg (by omega)]; (first | done | rfl)))
            (try simp only [Act.put, List.setIfInBounds_toArray, List.set_cons_zero, List.set_cons_succ])
            refine wpAnyH_done (by kernel_rfl) ?_ _
            refine ⟨rfl, rfl, by simp, rfl, hSW⟩
        · skip
          refine wpOp_step rfl (fun K hK => ?_)
          clear hS
          go_simp
          refine (two_any _ _ (by omega) (by omega)).mono ?_
          rintro e u45 ⟨rfl, Hu45⟩
          have zu45 := (Hu45).size
          replace hSW : Below (w1).heap.size (w1) u45 := Below.trans hSW (Below.mono Hu45 zW)
          replace zW : (w1).heap.size ≤ u45.heap.size := by omega
          refine hK _ _ (wpAnyH_same ⟨hSW, trivial⟩ (fun hS => ?_))
          clear hK K Hu45
          refine wpAnyH_all (rs := [0, 6]) (by kernel_rfl) (by simp) ?_
          intro i hi
          simp only [List.mem_cons, List.not_mem_nil, or_false] at hi
          rcases hi with rfl | rfl
          · skip
            refine wpOp_step rfl (fun K hK => ?_)
            clear hS
            go_simp
            rw [show (#[Value.int .u8 96, Value.int .u8 0, Value.int .u8 0, Value.int .u8 0] : Array Value) = (u8s [96, 0, 0, 0]).toArray from rfl]
            obtain ⟨A1, hA1⟩ : ∃ A, u45.heap.size = A := ⟨_, rfl⟩
            rw [hA1]
            obtain ⟨u46, hu46⟩ : ∃ U, u45.alloc (.cells (u8s [96, 0, 0, 0]).toArray 5) = U := ⟨_, rfl⟩
            rw [hu46]
            have rA1 : row u46 A1 = (u8s [96, 0, 0, 0]).toArray := by rw [← hu46]; exact row_alloc_at _ _ _ hA1.symm
            have su46 : u46.heap.size = u45.heap.size + 1 := by rw [← hu46]; simp
            have Hu46 : Below u45.heap.size u45 u46 := by rw [← hu46]; exact Below.alloc (Below.refl _ _) (Nat.le_refl _) _
            have zA1 : A1 < u46.heap.size := by omega
            replace hSW : Below (w1).heap.size (w1) u46 := Below.trans hSW (Below.mono Hu46 zW)
            replace zW : (w1).heap.size ≤ u46.heap.size := by omega
            clear Hu46 hu46 su46 hA1
            refine hK _ _ (wpAnyH_next (S2 := Held (fun w' => Below (w1).heap.size (w1) w' ∧ (row w' A1 = (u8s [96, 0, 0, 0]).toArray))) ⟨hSW, rA1⟩ (fun w' h => ⟨h.1, trivial⟩) (fun hS => ?_))
            clear hK K
            refine wpAnyH_take (i := 1) (v := ?_) (by simp only [List.getElem?_toArray, List.getElem?_cons_succ, List.getElem?_cons_zero]; rfl) (by kernel_rfl) (by kernel_rfl) (by kernel_rfl) (by first | exact fun _ _ _ h => h | exact fun _ _ _ h => by cases h.1) (Or.inl ⟨by rfl, ?_⟩) hS ?_
            rotate_left
            · intro w' hS'
              unfold Held at hS'
              obtain ⟨hS1, hS3⟩ := hS'
              have hS2 := hv w' hS1
              clear hS1
              go_simp
              (first | rfl | (rw [if_neg (by omega)]; (first | done | rfl)))
            (try simp only [Act.put, List.setIfInBounds_toArray, List.set_cons_zero, List.set_cons_succ])
            refine wpAnyH_take (i := 5) (v := ?_) (by simp only [List.getElem?_toArray, List.getElem?_cons_succ, List.getElem?_cons_zero]; rfl) (by kernel_rfl) (by kernel_rfl) (by kernel_rfl) (by first | exact fun _ _ _ h => h | exact fun _ _ _ h => by cases h.1) (Or.inl ⟨by rfl, ?_⟩) hS ?_
            rotate_left
            · intro w' hS'
              unfold Held at hS'
              obtain ⟨hS1, hS3⟩ := hS'
              have hS2 := hv w' hS1
              clear hS1
              go_simp
              (first | rfl | (rw [if_neg (by omega)]; (first | done | rfl)))
            (try simp only [Act.put, List.setIfInBounds_toArray, List.set_cons_zero, List.set_cons_succ])
            refine wpAnyH_all (rs := [6]) (by kernel_rfl) (by simp) ?_
            intro i hi
            obtain rfl := List.mem_singleton.1 hi
            clear hi
            refine wpOp_step rfl (fun K hK => ?_)
            clear hS
            go_simp
            rw [show (#[Value.int .u8 58, Value.int .u8 255] : Array Value) = (u8s [58, 255]).toArray from rfl]
            obtain ⟨A2, hA2⟩ : ∃ A, u46.heap.size = A := ⟨_, rfl⟩
            rw [hA2]
            obtain ⟨u47, hu47⟩ : ∃ U, u46.alloc (.cells (u8s [58, 255]).toArray 5) = U := ⟨_, rfl⟩
            rw [hu47]
            have rA2 : row u47 A2 = (u8s [58, 255]).toArray := by rw [← hu47]; exact row_alloc_at _ _ _ hA2.symm
            have su47 : u47.heap.size = u46.heap.size + 1 := by rw [← hu47]; simp
            have Hu47 : Below u46.heap.size u46 u47 := by rw [← hu47]; exact Below.alloc (Below.refl _ _) (Nat.le_refl _) _
            have zA2 : A2 < u47.heap.size := by omega
            replace rA1 := (row_below Hu47 zA1).trans rA1
            replace zA1 : A1 < u47.heap.size := by omega
            replace hSW : Below (w1).heap.size (w1) u47 := Below.trans hSW (Below.mono Hu47 zW)
            replace zW : (w1).heap.size ≤ u47.heap.size := by omega
            clear Hu47 hu47 su47 hA2
            refine hK _ _ (wpAnyH_next (S2 := Held (fun w' => Below (w1).heap.size (w1) w' ∧ (row w' A1 = (u8s [96, 0, 0, 0]).toArray ∧ row w' A2 = (u8s [58, 255]).toArray))) ⟨hSW, ⟨rA1, rA2⟩⟩ (fun w' h => ⟨h.1, h.2.1⟩) (fun hS => ?_))
            clear hK K
            refine wpAnyH_take (i := 7) (v := ?_) (by simp only [List.getElem?_toArray, List.getElem?_cons_succ, List.getElem?_cons_zero]; rfl) (by kernel_rfl) (by kernel_rfl) (by kernel_rfl) (by first | exact fun _ _ _ h => h | exact fun _ _ _ h => by cases h.1) (Or.inl ⟨by rfl, ?_⟩) hS ?_
            rotate_left
            · intro w' hS'
              unfold Held at hS'
              obtain ⟨hS1, hS3⟩ := hS'
              have hS2 := hv w' hS1
              clear hS1
              go_simp
              (first | rfl | (rw [if_neg (by omega)]; (first | done | rfl)))
            (try simp only [Act.put, List.setIfInBounds_toArray, List.set_cons_zero, List.set_cons_succ])
            refine wpAnyH_take (i := 8) (v := ?_) (by simp only [List.getElem?_toArray, List.getElem?_cons_succ, List.getElem?_cons_zero]; rfl) (by kernel_rfl) (by kernel_rfl) (by kernel_rfl) (by first | exact fun _ _ _ h => h | exact fun _ _ _ h => by cases h.1) (Or.inl ⟨by rfl, ?_⟩) hS ?_
            rotate_left
            · intro w' hS'
              unfold Held at hS'
              obtain ⟨hS1, hS3⟩ := hS'
              have hS2 := hv w' hS1
              clear hS1
              go_simp
              (first | rfl | (rw [if_neg (by omega)]; (first | done | rfl)))
            (try simp only [Act.put, List.setIfInBounds_toArray, List.set_cons_zero, List.set_cons_succ])
            refine wpAnyH_take (i := 12) (v := ?_) (by simp only [List.getElem?_toArray, List.getElem?_cons_succ, List.getElem?_cons_zero]; rfl) (by kernel_rfl) (by kernel_rfl) (by kernel_rfl) (by first | exact fun _ _ _ h => h | exact fun _ _ _ h => by cases h.1) (Or.inl ⟨by rfl, ?_⟩) hS ?_
            rotate_left
            · intro w' hS'
              unfold Held at hS'
              obtain ⟨hS1, hS3⟩ := hS'
              have hS2 := hv w' hS1
              clear hS1
              go_simp
              (first | rfl | (rw [if_neg (by omega)]; (first | done | rfl)))
            (try simp only [Act.put, List.setIfInBounds_toArray, List.set_cons_zero, List.set_cons_succ])
            refine wpAnyH_take (i := 16) (v := ?_) (by simp only [List.getElem?_toArray, List.getElem?_cons_succ, List.getElem?_cons_zero]; rfl) (by kernel_rfl) (by kernel_rfl) (by kernel_rfl) (by first | exact fun _ _ _ h => h | exact fun _ _ _ h => by cases h.1) (Or.inl ⟨by rfl, ?_⟩) hS ?_
            rotate_left
            · intro w' hS'
              unfold Held at hS'
              obtain ⟨hS1, hS3⟩ := hS'
              have hS2 := hv w' hS1
              clear hS1
              go_simp
              (first | rfl | (rw [if_neg (by omega)]; (first | done | rfl)))
            (try simp only [Act.put, List.setIfInBounds_toArray, List.set_cons_zero, List.set_cons_succ])
            refine wpAnyH_take (i := 19) (v := ?_) (by simp only [List.getElem?_toArray, List.getElem?_cons_succ, List.getElem?_cons_zero]; rfl) (by kernel_rfl) (by kernel_rfl) (by kernel_rfl) (by first | exact fun _ _ _ h => h | exact fun _ _ _ h => by cases h.1) (Or.inl ⟨by rfl, ?_⟩) hS ?_
            rotate_left
            · intro w' hS'
              unfold Held at hS'
              obtain ⟨hS1, hS3⟩ := hS'
              have hS2 := hv w' hS1
              clear hS1
              go_simp
              (first | rfl | (rw [if_neg (by omega)]; (first | done | rfl)))
            (try simp only [Act.put, List.setIfInBounds_toArray, List.set_cons_zero, List.set_cons_succ])
            refine wpAnyH_take (i := 23) (v := ?_) (by simp only [List.getElem?_toArray, List.getElem?_cons_succ, List.getElem?_cons_zero]; rfl) (by kernel_rfl) (by kernel_rfl) (by kernel_rfl) (by first | exact fun _ _ _ h => h | exact fun _ _ _ h => by cases h.1) (Or.inl ⟨by rfl, ?_⟩) hS ?_
            rotate_left
            · intro w' hS'
              unfold Held at hS'
              obtain ⟨hS1, hS3⟩ := hS'
              have hS2 := hv w' hS1
              clear hS1
              go_simp
              (first | rfl | (rw [if_neg (by omega)]; (first | done | rfl)))
            (try simp only [Act.put, List.setIfInBounds_toArray, List.set_cons_zero, List.set_cons_succ])
            refine wpAnyH_take (i := 26) (v := ?_) (by simp only [List.getElem?_toArray, List.getElem?_cons_succ, List.getElem?_cons_zero]; rfl) (by kernel_rfl) (by kernel_rfl) (by kernel_rfl) (by first | exact fun _ _ _ h => h | exact fun _ _ _ h => by cases h.1) (Or.inl ⟨by rfl, ?_⟩) hS ?_
            rotate_left
            · intro w' hS'
              unfold Held at hS'
              obtain ⟨hS1, hS3⟩ := hS'
              have hS2 := hv w' hS1
              clear hS1
              go_simp
              (first | rfl | (rw [if_neg (by omega)]; (first | done | rfl)))
            (try simp only [Act.put, List.setIfInBounds_toArray, List.set_cons_zero, List.set_cons_succ])
            refine wpAnyH_take (i := 27) (v := ?_) (by simp only [List.getElem?_toArray, List.getElem?_cons_succ, List.getElem?_cons_zero]; rfl) (by kernel_rfl) (by kernel_rfl) (by kernel_rfl) (by first | exact fun _ _ _ h => h | exact fun _ _ _ h => by cases h.1) (Or.inl ⟨by rfl, ?_⟩) hS ?_
            rotate_left
            · intro w' hS'
              unfold Held at hS'
              obtain ⟨hS1, hS3⟩ := hS'
              have hS2 := hv w' hS1
              clear hS1
              go_simp
              (first | rfl | (rw [if_neg (by omega)]; (first | done | rfl)))
            (try simp only [Act.put, List.setIfInBounds_toArray, List.set_cons_zero, List.set_cons_succ])
            refine wpAnyH_take (i := 28) (v := ?_) (by simp only [List.getElem?_toArray, List.getElem?_cons_succ, List.getElem?_cons_zero]; rfl) (by kernel_rfl) (by kernel_rfl) (by kernel_rfl) (by first | exact fun _ _ _ h => h | exact fun _ _ _ h => by cases h.1) (Or.inl ⟨by rfl, ?_⟩) hS ?_
            rotate_left
            · intro w' hS'
              unfold Held at hS'
              obtain ⟨hS1, hS3⟩ := hS'
              have hS2 := hv w' hS1
              clear hS1
              go_simp
              (first | rfl | (rw [if_neg (by omega)]; (first | done | rfl)))
            (try simp only [Act.put, List.setIfInBounds_toArray, List.set_cons_zero, List.set_cons_succ])
            refine wpAnyH_done (by kernel_rfl) ?_ _
            refine ⟨rfl, rfl, by simp, rfl, hSW⟩
          · skip
            refine wpOp_step rfl (fun K hK => ?_)
            clear hS
            go_simp
            rw [show (#[Value.int .u8 58, Value.int .u8 255] : Array Value) = (u8s [58, 255]).toArray from rfl]
            obtain ⟨A2, hA2⟩ : ∃ A, u45.heap.size = A := ⟨_, rfl⟩
            rw [hA2]
            obtain ⟨u48, hu48⟩ : ∃ U, u45.alloc (.cells (u8s [58, 255]).toArray 5) = U := ⟨_, rfl⟩
            rw [hu48]
            have rA2 : row u48 A2 = (u8s [58, 255]).toArray := by rw [← hu48]; exact row_alloc_at _ _ _ hA2.symm
            have su48 : u48.heap.size = u45.heap.size + 1 := by rw [← hu48]; simp
            have Hu48 : Below u45.heap.size u45 u48 := by rw [← hu48]; exact Below.alloc (Below.refl _ _) (Nat.le_refl _) _
            have zA2 : A2 < u48.heap.size := by omega
            replace hSW : Below (w1).heap.size (w1) u48 := Below.trans hSW (Below.mono Hu48 zW)
            replace zW : (w1).heap.size ≤ u48.heap.size := by omega
            clear Hu48 hu48 su48 hA2
            refine hK _ _ (wpAnyH_next (S2 := Held (fun w' => Below (w1).heap.size (w1) w' ∧ (row w' A2 = (u8s [58, 255]).toArray))) ⟨hSW, rA2⟩ (fun w' h => ⟨h.1, trivial⟩) (fun hS => ?_))
            clear hK K
            refine wpAnyH_take (i := 7) (v := ?_) (by simp only [List.getElem?_toArray, List.getElem?_cons_succ, List.getElem?_cons_zero]; rfl) (by kernel_rfl) (by kernel_rfl) (by kernel_rfl) (by first | exact fun _ _ _ h => h | exact fun _ _ _ h => by cases h.1) (Or.inl ⟨by rfl, ?_⟩) hS ?_
            rotate_left
            · intro w' hS'
              unfold Held at hS'
              obtain ⟨hS1, hS3⟩ := hS'
              have hS2 := hv w' hS1
              clear hS1
              go_simp
              (first | rfl | (rw [if_neg (by omega)]; (first | done | rfl)))
            (try simp only [Act.put, List.setIfInBounds_toArray, List.set_cons_zero, List.set_cons_succ])
            refine wpAnyH_all (rs := [0]) (by kernel_rfl) (by simp) ?_
            intro i hi
            obtain rfl := List.mem_singleton.1 hi
            clear hi
            refine wpOp_step rfl (fun K hK => ?_)
            clear hS
            go_simp
            rw [show (#[Value.int .u8 96, Value.int .u8 0, Value.int .u8 0, Value.int .u8 0] : Array Value) = (u8s [96, 0, 0, 0]).toArray from rfl]
            obtain ⟨A1, hA1⟩ : ∃ A, u48.heap.size = A := ⟨_, rfl⟩
            rw [hA1]
            obtain ⟨u49, hu49⟩ : ∃ U, u48.alloc (.cells (u8s [96, 0, 0, 0]).toArray 5) = U := ⟨_, rfl⟩
            rw [hu49]
            have rA1 : row u49 A1 = (u8s [96, 0, 0, 0]).toArray := by rw [← hu49]; exact row_alloc_at _ _ _ hA1.symm
            have su49 : u49.heap.size = u48.heap.size + 1 := by rw [← hu49]; simp
            have Hu49 : Below u48.heap.size u48 u49 := by rw [← hu49]; exact Below.alloc (Below.refl _ _) (Nat.le_refl _) _
            have zA1 : A1 < u49.heap.size := by omega
            replace rA2 := (row_below Hu49 zA2).trans rA2
            replace zA2 : A2 < u49.heap.size := by omega
            replace hSW : Below (w1).heap.size (w1) u49 := Below.trans hSW (Below.mono Hu49 zW)
            replace zW : (w1).heap.size ≤ u49.heap.size := by omega
            clear Hu49 hu49 su49 hA1
            refine hK _ _ (wpAnyH_next (S2 := Held (fun w' => Below (w1).heap.size (w1) w' ∧ (row w' A2 = (u8s [58, 255]).toArray ∧ row w' A1 = (u8s [96, 0, 0, 0]).toArray))) ⟨hSW, ⟨rA2, rA1⟩⟩ (fun w' h => ⟨h.1, h.2.1⟩) (fun hS => ?_))
            clear hK K
            refine wpAnyH_take (i := 1) (v := ?_) (by simp only [List.getElem?_toArray, List.getElem?_cons_succ, List.getElem?_cons_zero]; rfl) (by kernel_rfl) (by kernel_rfl) (by kernel_rfl) (by first | exact fun _ _ _ h => h | exact fun _ _ _ h => by cases h.1) (Or.inl ⟨by rfl, ?_⟩) hS ?_
            rotate_left
            · intro w' hS'
              unfold Held at hS'
              obtain ⟨hS1, hS3⟩ := hS'
              have hS2 := hv w' hS1
              clear hS1
              go_simp
              (first | rfl | (rw [if_neg (by omega)]; (first | done | rfl)))
            (try simp only [Act.put, List.setIfInBounds_toArray, List.set_cons_zero, List.set_cons_succ])
            refine wpAnyH_take (i := 5) (v := ?_) (by simp only [List.getElem?_toArray, List.getElem?_cons_succ, List.getElem?_cons_zero]; rfl) (by kernel_rfl) (by kernel_rfl) (by kernel_rfl) (by first | exact fun _ _ _ h => h | exact fun _ _ _ h => by cases h.1) (Or.inl ⟨by rfl, ?_⟩) hS ?_
            rotate_left
            · intro w' hS'
              unfold Held at hS'
              obtain ⟨hS1, hS3⟩ := hS'
              have hS2 := hv w' hS1
              clear hS1
              go_simp
              (first | rfl | (rw [if_neg (by omega)]; (first | done | rfl)))
            (try simp only [Act.put, List.setIfInBounds_toArray, List.set_cons_zero, List.set_cons_succ])
            refine wpAnyH_take (i := 8) (v := ?_) (by simp only [List.getElem?_toArray, List.getElem?_cons_succ, List.getElem?_cons_zero]; rfl) (by kernel_rfl) (by kernel_rfl) (by kernel_rfl) (by first | exact fun _ _ _ h => h | exact fun _ _ _ h => by cases h.1) (Or.inl ⟨by rfl, ?_⟩) hS ?_
            rotate_left
            · intro w' hS'
              unfold Held at hS'
              obtain ⟨hS1, hS3⟩ := hS'
              have hS2 := hv w' hS1
              clear hS1
              go_simp
              (first | rfl | (rw [if_neg (by omega)]; (first | done | rfl)))
            (try simp only [Act.put, List.setIfInBounds_toArray, List.set_cons_zero, List.set_cons_succ])
            refine wpAnyH_take (i := 12) (v := ?_) (by simp only [List.getElem?_toArray, List.getElem?_cons_succ, List.getElem?_cons_zero]; rfl) (by kernel_rfl) (by kernel_rfl) (by kernel_rfl) (by first | exact fun _ _ _ h => h | exact fun _ _ _ h => by cases h.1) (Or.inl ⟨by rfl, ?_⟩) hS ?_
            rotate_left
            · intro w' hS'
              unfold Held at hS'
              obtain ⟨hS1, hS3⟩ := hS'
              have hS2 := hv w' hS1
              clear hS1
              go_simp
              (first | rfl | (rw [if_neg (by omega)]; (first | done | rfl)))
            (try simp only [Act.put, List.setIfInBounds_toArray, List.set_cons_zero, List.set_cons_succ])
            refine wpAnyH_take (i := 16) (v := ?_) (by simp only [List.getElem?_toArray, List.getElem?_cons_succ, List.getElem?_cons_zero]; rfl) (by kernel_rfl) (by kernel_rfl) (by kernel_rfl) (by first | exact fun _ _ _ h => h | exact fun _ _ _ h => by cases h.1) (Or.inl ⟨by rfl, ?_⟩) hS ?_
            rotate_left
            · intro w' hS'
              unfold Held at hS'
              obtain ⟨hS1, hS3⟩ := hS'
              have hS2 := hv w' hS1
              clear hS1
              go_simp
              (first | rfl | (rw [if_neg (by omega)]; (first | done | rfl)))
            (try simp only [Act.put, List.setIfInBounds_toArray, List.set_cons_zero, List.set_cons_succ])
            refine wpAnyH_take (i := 19) (v := ?_) (by simp only [List.getElem?_toArray, List.getElem?_cons_succ, List.getElem?_cons_zero]; rfl) (by kernel_rfl) (by kernel_rfl) (by kernel_rfl) (by first | exact fun _ _ _ h => h | exact fun _ _ _ h => by cases h.1) (Or.inl ⟨by rfl, ?_⟩) hS ?_
            rotate_left
            · intro w' hS'
              unfold Held at hS'
              obtain ⟨hS1, hS3⟩ := hS'
              have hS2 := hv w' hS1
              clear hS1
              go_simp
              (first | rfl | (rw [if_neg (by omega)]; (first | done | rfl)))
            (try simp only [Act.put, List.setIfInBounds_toArray, List.set_cons_zero, List.set_cons_succ])
            refine wpAnyH_take (i := 23) (v := ?_) (by simp only [List.getElem?_toArray, List.getElem?_cons_succ, List.getElem?_cons_zero]; rfl) (by kernel_rfl) (by kernel_rfl) (by kernel_rfl) (by first | exact fun _ _ _ h => h | exact fun _ _ _ h => by cases h.1) (Or.inl ⟨by rfl, ?_⟩) hS ?_
            rotate_left
            · intro w' hS'
              unfold Held at hS'
              obtain ⟨hS1, hS3⟩ := hS'
              have hS2 := hv w' hS1
              clear hS1
              go_simp
              (first | rfl | (rw [if_neg (by omega)]; (first | done | rfl)))
            (try simp only [Act.put, List.setIfInBounds_toArray, List.set_cons_zero, List.set_cons_succ])
            refine wpAnyH_take (i := 26) (v := ?_) (by simp only [List.getElem?_toArray, List.getElem?_cons_succ, List.getElem?_cons_zero]; rfl) (by kernel_rfl) (by kernel_rfl) (by kernel_rfl) (by first | exact fun _ _ _ h => h | exact fun _ _ _ h => by cases h.1) (Or.inl ⟨by rfl, ?_⟩) hS ?_
            rotate_left
            · intro w' hS'
              unfold Held at hS'
              obtain ⟨hS1, hS3⟩ := hS'
              have hS2 := hv w' hS1
              clear hS1
              go_simp
              (first | rfl | (rw [if_neg (by omega)]; (first | done | rfl)))
            (try simp only [Act.put, List.setIfInBounds_toArray, List.set_cons_zero, List.set_cons_succ])
            refine wpAnyH_take (i := 27) (v := ?_) (by simp only [List.getElem?_toArray, List.getElem?_cons_succ, List.getElem?_cons_zero]; rfl) (by kernel_rfl) (by kernel_rfl) (by kernel_rfl) (by first | exact fun _ _ _ h => h | exact fun _ _ _ h => by cases h.1) (Or.inl ⟨by rfl, ?_⟩) hS ?_
            rotate_left
            · intro w' hS'
              unfold Held at hS'
              obtain ⟨hS1, hS3⟩ := hS'
              have hS2 := hv w' hS1
              clear hS1
              go_simp
              (first | rfl | (rw [if_neg (by omega)]; (first | done | rfl)))
            (try simp only [Act.put, List.setIfInBounds_toArray, List.set_cons_zero, List.set_cons_succ])
            refine wpAnyH_take (i := 28) (v := ?_) (by simp only [List.getElem?_toArray, List.getElem?_cons_succ, List.getElem?_cons_zero]; rfl) (by kernel_rfl) (by kernel_rfl) (by kernel_rfl) (by first | exact fun _ _ _ h => h | exact fun _ _ _ h => by cases h.1) (Or.inl ⟨by rfl, ?_⟩) hS ?_
            rotate_left
            · intro w' hS'
              unfold Held at hS'
              obtain ⟨hS1, hS3⟩ := hS'
              have hS2 := hv w' hS1
              clear hS1
              go_simp
              (first | rfl | (rw [if_neg (by omega)]; (first | done | rfl)))
            (try simp only [Act.put, List.setIfInBounds_toArray, List.set_cons_zero, List.set_cons_succ])
            refine wpAnyH_done (by kernel_rfl) ?_ _
            refine ⟨rfl, rfl, by simp, rfl, hSW⟩
    · skip
      refine wpOp_step rfl (fun K hK => ?_)
      clear hS
      go_simp
      rw [show (#[Value.int .u8 58, Value.int .u8 255] : Array Value) = (u8s [58, 255]).toArray from rfl]
      obtain ⟨A2, hA2⟩ : ∃ A, u0.heap.size = A := ⟨_, rfl⟩
      rw [hA2]
      obtain ⟨u50, hu50⟩ : ∃ U, u0.alloc (.cells (u8s [58, 255]).toArray 5) = U := ⟨_, rfl⟩
      rw [hu50]
      have rA2 : row u50 A2 = (u8s [58, 255]).toArray := by rw [← hu50]; exact row_alloc_at _ _ _ hA2.symm
      have su50 : u50.heap.size = u0.heap.size + 1 := by rw [← hu50]; simp
      have Hu50 : Below u0.heap.size u0 u50 := by rw [← hu50]; exact Below.alloc (Below.refl _ _) (Nat.le_refl _) _
      have zA2 : A2 < u50.heap.size := by omega
      replace hSW : Below (w1).heap.size (w1) u50 := Below.trans hSW (Below.mono Hu50 zW)
      replace zW : (w1).heap.size ≤ u50.heap.size := by omega
      clear Hu50 hu50 su50 hA2
      refine hK _ _ (wpAnyH_next (S2 := Held (fun w' => Below (w1).heap.size (w1) w' ∧ (row w' A2 = (u8s [58, 255]).toArray))) ⟨hSW, rA2⟩ (fun w' h => ⟨h.1, trivial⟩) (fun hS => ?_))
      clear hK K
      refine wpAnyH_take (i := 7) (v := ?_) (by simp only [List.getElem?_toArray, List.getElem?_cons_succ, List.getElem?_cons_zero]; rfl) (by kernel_rfl) (by kernel_rfl) (by kernel_rfl) (by first | exact fun _ _ _ h => h | exact fun _ _ _ h => by cases h.1) (Or.inl ⟨by rfl, ?_⟩) hS ?_
      rotate_left
      · intro w' hS'
        unfold Held at hS'
        obtain ⟨hS1, hS3⟩ := hS'
        have hS2 := hv w' hS1
        clear hS1
        go_simp
        (first | rfl | (rw [if_neg (by omega)]; (first | done | rfl)))
      (try simp only [Act.put, List.setIfInBounds_toArray, List.set_cons_zero, List.set_cons_succ])
      refine wpAnyH_all (rs := [0, 4]) (by kernel_rfl) (by simp) ?_
      intro i hi
      simp only [List.mem_cons, List.not_mem_nil, or_false] at hi
      rcases hi with rfl | rfl
      · skip
        refine wpOp_step rfl (fun K hK => ?_)
        clear hS
        go_simp
        rw [show (#[Value.int .u8 96, Value.int .u8 0, Value.int .u8 0, Value.int .u8 0] : Array Value) = (u8s [96, 0, 0, 0]).toArray from rfl]
        obtain ⟨A1, hA1⟩ : ∃ A, u50.heap.size = A := ⟨_, rfl⟩
        rw [hA1]
        obtain ⟨u51, hu51⟩ : ∃ U, u50.alloc (.cells (u8s [96, 0, 0, 0]).toArray 5) = U := ⟨_, rfl⟩
        rw [hu51]
        have rA1 : row u51 A1 = (u8s [96, 0, 0, 0]).toArray := by rw [← hu51]; exact row_alloc_at _ _ _ hA1.symm
        have su51 : u51.heap.size = u50.heap.size + 1 := by rw [← hu51]; simp
        have Hu51 : Below u50.heap.size u50 u51 := by rw [← hu51]; exact Below.alloc (Below.refl _ _) (Nat.le_refl _) _
        have zA1 : A1 < u51.heap.size := by omega
        replace rA2 := (row_below Hu51 zA2).trans rA2
        replace zA2 : A2 < u51.heap.size := by omega
        replace hSW : Below (w1).heap.size (w1) u51 := Below.trans hSW (Below.mono Hu51 zW)
        replace zW : (w1).heap.size ≤ u51.heap.size := by omega
        clear Hu51 hu51 su51 hA1
        refine hK _ _ (wpAnyH_next (S2 := Held (fun w' => Below (w1).heap.size (w1) w' ∧ (row w' A2 = (u8s [58, 255]).toArray ∧ row w' A1 = (u8s [96, 0, 0, 0]).toArray))) ⟨hSW, ⟨rA2, rA1⟩⟩ (fun w' h => ⟨h.1, h.2.1⟩) (fun hS => ?_))
        clear hK K
        refine wpAnyH_take (i := 1) (v := ?_) (by simp only [List.getElem?_toArray, List.getElem?_cons_succ, List.getElem?_cons_zero]; rfl) (by kernel_rfl) (by kernel_rfl) (by kernel_rfl) (by first | exact fun _ _ _ h => h | exact fun _ _ _ h => by cases h.1) (Or.inl ⟨by rfl, ?_⟩) hS ?_
        rotate_left
        · intro w' hS'
          unfold Held at hS'
          obtain ⟨hS1, hS3⟩ := hS'
          have hS2 := hv w' hS1
          clear hS1
          go_simp
          (first | rfl | (rw [if_neg (by omega)]; (first | done | rfl)))
        (try simp only [Act.put, List.setIfInBounds_toArray, List.set_cons_zero, List.set_cons_succ])
        refine wpAnyH_all (rs := [4]) (by kernel_rfl) (by simp) ?_
        intro i hi
        obtain rfl := List.mem_singleton.1 hi
        clear hi
        refine wpOp_step rfl (fun K hK => ?_)
        clear hS
        go_simp
        refine (two_any _ _ (by omega) (by omega)).mono ?_
        rintro e u52 ⟨rfl, Hu52⟩
        have zu52 := (Hu52).size
        replace hSW : Below (w1).heap.size (w1) u52 := Below.trans hSW (Below.mono Hu52 zW)
        replace rA2 := (row_below Hu52 zA2).trans rA2
        replace zA2 : A2 < u52.heap.size := by omega
        replace rA1 := (row_below Hu52 zA1).trans rA1
        replace zA1 : A1 < u52.heap.size := by omega
        replace zW : (w1).heap.size ≤ u52.heap.size := by omega
        refine hK _ _ (wpAnyH_same ⟨hSW, ⟨rA2, rA1⟩⟩ (fun hS => ?_))
        clear hK K Hu52
        refine wpAnyH_take (i := 5) (v := ?_) (by simp only [List.getElem?_toArray, List.getElem?_cons_succ, List.getElem?_cons_zero]; rfl) (by kernel_rfl) (by kernel_rfl) (by kernel_rfl) (by first | exact fun _ _ _ h => h | exact fun _ _ _ h => by cases h.1) (Or.inl ⟨by rfl, ?_⟩) hS ?_
        rotate_left
        · intro w' hS'
          unfold Held at hS'
          obtain ⟨hS1, hS3⟩ := hS'
          have hS2 := hv w' hS1
          clear hS1
          go_simp
          (first | rfl | (rw [if_neg (by omega)]; (first | done | rfl)))
        (try simp only [Act.put, List.setIfInBounds_toArray, List.set_cons_zero, List.set_cons_succ])
        refine wpAnyH_take (i := 8) (v := ?_) (by simp only [List.getElem?_toArray, List.getElem?_cons_succ, List.getElem?_cons_zero]; rfl) (by kernel_rfl) (by kernel_rfl) (by kernel_rfl) (by first | exact fun _ _ _ h => h | exact fun _ _ _ h => by cases h.1) (Or.inl ⟨by rfl, ?_⟩) hS ?_
        rotate_left
        · intro w' hS'
          unfold Held at hS'
          obtain ⟨hS1, hS3⟩ := hS'
          have hS2 := hv w' hS1
          clear hS1
          go_simp
          (first | rfl | (rw [if_neg (by omega)]; (first | done | rfl)))
        (try simp only [Act.put, List.setIfInBounds_toArray, List.set_cons_zero, List.set_cons_succ])
        refine wpAnyH_take (i := 12) (v := ?_) (by simp only [List.getElem?_toArray, List.getElem?_cons_succ, List.getElem?_cons_zero]; rfl) (by kernel_rfl) (by kernel_rfl) (by kernel_rfl) (by first | exact fun _ _ _ h => h | exact fun _ _ _ h => by cases h.1) (Or.inl ⟨by rfl, ?_⟩) hS ?_
        rotate_left
        · intro w' hS'
          unfold Held at hS'
          obtain ⟨hS1, hS3⟩ := hS'
          have hS2 := hv w' hS1
          clear hS1
          go_simp
          (first | rfl | (rw [if_neg (by omega)]; (first | done | rfl)))
        (try simp only [Act.put, List.setIfInBounds_toArray, List.set_cons_zero, List.set_cons_succ])
        refine wpAnyH_take (i := 16) (v := ?_) (by simp only [List.getElem?_toArray, List.getElem?_cons_succ, List.getElem?_cons_zero]; rfl) (by kernel_rfl) (by kernel_rfl) (by kernel_rfl) (by first | exact fun _ _ _ h => h | exact fun _ _ _ h => by cases h.1) (Or.inl ⟨by rfl, ?_⟩) hS ?_
        rotate_left
        · intro w' hS'
          unfold Held at hS'
          obtain ⟨hS1, hS3⟩ := hS'
          have hS2 := hv w' hS1
          clear hS1
          go_simp
          (first | rfl | (rw [if_neg (by omega)]; (first | done | rfl)))
        (try simp only [Act.put, List.setIfInBounds_toArray, List.set_cons_zero, List.set_cons_succ])
        refine wpAnyH_take (i := 19) (v := ?_) (by simp only [List.getElem?_toArray, List.getElem?_cons_succ, List.getElem?_cons_zero]; rfl) (by kernel_rfl) (by kernel_rfl) (by kernel_rfl) (by first | exact fun _ _ _ h => h | exact fun _ _ _ h => by cases h.1) (Or.inl ⟨by rfl, ?_⟩) hS ?_
        rotate_left
        · intro w' hS'
          unfold Held at hS'
          obtain ⟨hS1, hS3⟩ := hS'
          have hS2 := hv w' hS1
          clear hS1
          go_simp
          (first | rfl | (rw [if_neg (by omega)]; (first | done | rfl)))
        (try simp only [Act.put, List.setIfInBounds_toArray, List.set_cons_zero, List.set_cons_succ])
        refine wpAnyH_all (rs := [21]) (by kernel_rfl) (by simp) ?_
        intro i hi
        obtain rfl := List.mem_singleton.1 hi
        clear hi
        refine wpOp_step rfl (fun K hK => ?_)
        clear hS
        go_simp
        refine (HS _).mono ?_
        rintro e u53 ⟨rfl, Hu53⟩
        have zu53 := (Hu53).size
        replace hSW : Below (w1).heap.size (w1) u53 := Below.trans hSW (Below.mono Hu53 zW)
        replace rA2 := (row_below Hu53 zA2).trans rA2
        replace zA2 : A2 < u53.heap.size := by omega
        replace rA1 := (row_below Hu53 zA1).trans rA1
        replace zA1 : A1 < u53.heap.size := by omega
        replace zW : (w1).heap.size ≤ u53.heap.size := by omega
        refine hK _ _ (wpAnyH_same ⟨hSW, ⟨rA2, rA1⟩⟩ (fun hS => ?_))
        clear hK K Hu53
        refine wpAnyH_all (rs := [22]) (by kernel_rfl) (by simp) ?_
        intro i hi
        obtain rfl := List.mem_singleton.1 hi
        clear hi
        refine wpOp_step rfl (fun K hK => ?_)
        clear hS
        go_simp
        refine (two_any _ _ (by omega) (by omega)).mono ?_
        rintro e u54 ⟨rfl, Hu54⟩
        have zu54 := (Hu54).size
        replace hSW : Below (w1).heap.size (w1) u54 := Below.trans hSW (Below.mono Hu54 zW)
        replace rA2 := (row_below Hu54 zA2).trans rA2
        replace zA2 : A2 < u54.heap.size := by omega
        replace rA1 := (row_below Hu54 zA1).trans rA1
        replace zA1 : A1 < u54.heap.size := by omega
        replace zW : (w1).heap.size ≤ u54.heap.size := by omega
        refine hK _ _ (wpAnyH_same ⟨hSW, ⟨rA2, rA1⟩⟩ (fun hS => ?_))
        clear hK K Hu54
        refine wpAnyH_take (i := 23) (v := ?_) (by simp only [List.getElem?_toArray, List.getElem?_cons_succ, List.getElem?_cons_zero]; rfl) (by kernel_rfl) (by kernel_rfl) (by kernel_rfl) (by first | exact fun _ _ _ h => h | exact fun _ _ _ h => by cases h.1) (Or.inl ⟨by rfl, ?_⟩) hS ?_
        rotate_left
        · intro w' hS'
          unfold Held at hS'
          obtain ⟨hS1, hS3⟩ := hS'
          have hS2 := hv w' hS1
          clear hS1
          go_simp
          (first | rfl | (rw [if_neg (by omega)]; (first | done | rfl)))
        (try simp only [Act.put, List.setIfInBounds_toArray, List.set_cons_zero, List.set_cons_succ])
        refine wpAnyH_take (i := 26) (v := ?_) (by simp only [List.getElem?_toArray, List.getElem?_cons_succ, List.getElem?_cons_zero]; rfl) (by kernel_rfl) (by kernel_rfl) (by kernel_rfl) (by first | exact fun _ _ _ h => h | exact fun _ _ _ h => by cases h.1) (Or.inl ⟨by rfl, ?_⟩) hS ?_
        rotate_left
        · intro w' hS'
          unfold Held at hS'
          obtain ⟨hS1, hS3⟩ := hS'
          have hS2 := hv w' hS1
          clear hS1
          go_simp
          (first | rfl | (rw [if_neg (by omega)]; (first | done | rfl)))
        (try simp only [Act.put, List.setIfInBounds_toArray, List.set_cons_zero, List.set_cons_succ])
        refine wpAnyH_take (i := 27) (v := ?_) (by simp only [List.getElem?_toArray, List.getElem?_cons_succ, List.getElem?_cons_zero]; rfl) (by kernel_rfl) (by kernel_rfl) (by kernel_rfl) (by first | exact fun _ _ _ h => h | exact fun _ _ _ h => by cases h.1) (Or.inl ⟨by rfl, ?_⟩) hS ?_
        rotate_left
        · intro w' hS'
          unfold Held at hS'
          obtain ⟨hS1, hS3⟩ := hS'
          have hS2 := hv w' hS1
          clear hS1
          go_simp
          (first | rfl | (rw [if_neg (by omega)]; (first | done | rfl)))
        (try simp only [Act.put, List.setIfInBounds_toArray, List.set_cons_zero, List.set_cons_succ])
        refine wpAnyH_take (i := 28) (v := ?_) (by simp only [List.getElem?_toArray, List.getElem?_cons_succ, List.getElem?_cons_zero]; rfl) (by kernel_rfl) (by kernel_rfl) (by kernel_rfl) (by first | exact fun _ _ _ h => h | exact fun _ _ _ h => by cases h.1) (Or.inl ⟨by rfl, ?_⟩) hS ?_
        rotate_left
        · intro w' hS'
          unfold Held at hS'
          obtain ⟨hS1, hS3⟩ := hS'
          have hS2 := hv w' hS1
          clear hS1
          go_simp
          (first | rfl | (rw [if_neg (by omega)]; (first | done | rfl)))
        (try simp only [Act.put, List.setIfInBounds_toArray, List.set_cons_zero, List.set_cons_succ])
        refine wpAnyH_done (by kernel_rfl) ?_ _
        refine ⟨rfl, rfl, by simp, rfl, hSW⟩
      · skip
        refine wpOp_step rfl (fun K hK => ?_)
        clear hS
        go_simp
        refine (two_any _ _ (by omega) (by omega)).mono ?_
        rintro e u55 ⟨rfl, Hu55⟩
        have zu55 := (Hu55).size
        replace hSW : Below (w1).heap.size (w1) u55 := Below.trans hSW (Below.mono Hu55 zW)
        replace rA2 := (row_below Hu55 zA2).trans rA2
        replace zA2 : A2 < u55.heap.size := by omega
        replace zW : (w1).heap.size ≤ u55.heap.size := by omega
        refine hK _ _ (wpAnyH_same ⟨hSW, rA2⟩ (fun hS => ?_))
        clear hK K Hu55
        refine wpAnyH_all (rs := [0, 21]) (by kernel_rfl) (by simp) ?_
        intro i hi
        simp only [List.mem_cons, List.not_mem_nil, or_false] at hi
        rcases hi with rfl | rfl
        · skip
          refine wpOp_step rfl (fun K hK => ?_)
          clear hS
          go_simp
          rw [show (#[Value.int .u8 96, Value.int .u8 0, Value.int .u8 0, Value.int .u8 0] : Array Value) = (u8s [96, 0, 0, 0]).toArray from rfl]
          obtain ⟨A1, hA1⟩ : ∃ A, u55.heap.size = A := ⟨_, rfl⟩
          rw [hA1]
          obtain ⟨u56, hu56⟩ : ∃ U, u55.alloc (.cells (u8s [96, 0, 0, 0]).toArray 5) = U := ⟨_, rfl⟩
          rw [hu56]
          have rA1 : row u56 A1 = (u8s [96, 0, 0, 0]).toArray := by rw [← hu56]; exact row_alloc_at _ _ _ hA1.symm
          have su56 : u56.heap.size = u55.heap.size + 1 := by rw [← hu56]; simp
          have Hu56 : Below u55.heap.size u55 u56 := by rw [← hu56]; exact Below.alloc (Below.refl _ _) (Nat.le_refl _) _
          have zA1 : A1 < u56.heap.size := by omega
          replace rA2 := (row_below Hu56 zA2).trans rA2
          replace zA2 : A2 < u56.heap.size := by omega
          replace hSW : Below (w1).heap.size (w1) u56 := Below.trans hSW (Below.mono Hu56 zW)
          replace zW : (w1).heap.size ≤ u56.heap.size := by omega
          clear Hu56 hu56 su56 hA1
          refine hK _ _ (wpAnyH_next (S2 := Held (fun w' => Below (w1).heap.size (w1) w' ∧ (row w' A2 = (u8s [58, 255]).toArray ∧ row w' A1 = (u8s [96, 0, 0, 0]).toArray))) ⟨hSW, ⟨rA2, rA1⟩⟩ (fun w' h => ⟨h.1, h.2.1⟩) (fun hS => ?_))
          clear hK K
          refine wpAnyH_take (i := 1) (v := ?_) (by simp only [List.getElem?_toArray, List.getElem?_cons_succ, List.getElem?_cons_zero]; rfl) (by kernel_rfl) (by kernel_rfl) (by kernel_rfl) (by first | exact fun _ _ _ h => h | exact fun _ _ _ h => by cases h.1) (Or.inl ⟨by rfl, ?_⟩) hS ?_
          rotate_left
          · intro w' hS'
            unfold Held at hS'
            obtain ⟨hS1, hS3⟩ := hS'
            have hS2 := hv w' hS1
            clear hS1
            go_simp
            (first | rfl | (rw [if_neg (by omega)]; (first | done | rfl)))
          (try simp only [Act.put, List.setIfInBounds_toArray, List.set_cons_zero, List.set_cons_succ])
          refine wpAnyH_take (i := 5) (v := ?_) (by simp only [List.getElem?_toArray, List.getElem?_cons_succ, List.getElem?_cons_zero]; rfl) (by kernel_rfl) (by kernel_rfl) (by kernel_rfl) (by first | exact fun _ _ _ h => h | exact fun _ _ _ h => by cases h.1) (Or.inl ⟨by rfl, ?_⟩) hS ?_
          rotate_left
          · intro w' hS'
            unfold Held at hS'
            obtain ⟨hS1, hS3⟩ := hS'
            have hS2 := hv w' hS1
            clear hS1
            go_simp
            (first | rfl | (rw [if_neg (by omega)]; (first | done | rfl)))
          (try simp only [Act.put, List.setIfInBounds_toArray, List.set_cons_zero, List.set_cons_succ])
          refine wpAnyH_take (i := 8) (v := ?_) (by simp only [List.getElem?_toArray, List.getElem?_cons_succ, List.getElem?_cons_zero]; rfl) (by kernel_rfl) (by kernel_rfl) (by kernel_rfl) (by first | exact fun _ _ _ h => h | exact fun _ _ _ h => by cases h.1) (Or.inl ⟨by rfl, ?_⟩) hS ?_
          rotate_left
          · intro w' hS'
            unfold Held at hS'
            obtain ⟨hS1, hS3⟩ := hS'
            have hS2 := hv w' hS1
            clear hS1
            go_simp
            (first | rfl | (rw [if_neg (by omega)]; (first | done | rfl)))
          (try simp only [Act.put, List.setIfInBounds_toArray, List.set_cons_zero, List.set_cons_succ])
          refine wpAnyH_take (i := 12) (v := ?_) (by simp only [List.getElem?_toArray, List.getElem?_cons_succ, List.getElem?_cons_zero]; rfl) (by kernel_rfl) (by kernel_rfl) (by kernel_rfl) (by first | exact fun _ _ _ h => h | exact fun _ _ _ h => by cases h.1) (Or.inl ⟨by rfl, ?_⟩) hS ?_
          rotate_left
          · intro w' hS'
            unfold Held at hS'
            obtain ⟨hS1, hS3⟩ := hS'
            have hS2 := hv w' hS1
            clear hS1
            go_simp
            (first | rfl | (rw [if_neg (by omega)]; (first | done | rfl)))
          (try simp only [Act.put, List.setIfInBounds_toArray, List.set_cons_zero, List.set_cons_succ])
          refine wpAnyH_take (i := 16) (v := ?_) (by simp only [List.getElem?_toArray, List.getElem?_cons_succ, List.getElem?_cons_zero]; rfl) (by kernel_rfl) (by kernel_rfl) (by kernel_rfl) (by first | exact fun _ _ _ h => h | exact fun _ _ _ h => by cases h.1) (Or.inl ⟨by rfl, ?_⟩) hS ?_
          rotate_left
          · intro w' hS'
            unfold Held at hS'
            obtain ⟨hS1, hS3⟩ := hS'
            have hS2 := hv w' hS1
            clear hS1
            go_simp
            (first | rfl | (rw [if_neg (by omega)]; (first | done | rfl)))
          (try simp only [Act.put, List.setIfInBounds_toArray, List.set_cons_zero, List.set_cons_succ])
          refine wpAnyH_take (i := 19) (v := ?_) (by simp only [List.getElem?_toArray, List.getElem?_cons_succ, List.getElem?_cons_zero]; rfl) (by kernel_rfl) (by kernel_rfl) (by kernel_rfl) (by first | exact fun _ _ _ h => h | exact fun _ _ _ h => by cases h.1) (Or.inl ⟨by rfl, ?_⟩) hS ?_
          rotate_left
          · intro w' hS'
            unfold Held at hS'
            obtain ⟨hS1, hS3⟩ := hS'
            have hS2 := hv w' hS1
            clear hS1
            go_simp
            (first | rfl | (rw [if_neg (by omega)]; (first | done | rfl)))
          (try simp only [Act.put, List.setIfInBounds_toArray, List.set_cons_zero, List.set_cons_succ])
          refine wpAnyH_all (rs := [21]) (by kernel_rfl) (by simp) ?_
          intro i hi
          obtain rfl := List.mem_singleton.1 hi
          clear hi
          refine wpOp_step rfl (fun K hK => ?_)
          clear hS
          go_simp
          refine (HS _).mono ?_
          rintro e u57 ⟨rfl, Hu57⟩
          have zu57 := (Hu57).size
          replace hSW : Below (w1).heap.size (w1) u57 := Below.trans hSW (Below.mono Hu57 zW)
          replace rA2 := (row_below Hu57 zA2).trans rA2
          replace zA2 : A2 < u57.heap.size := by omega
          replace rA1 := (row_below Hu57 zA1).trans rA1
          replace zA1 : A1 < u57.heap.size := by omega
          replace zW : (w1).heap.size ≤ u57.heap.size := by omega
          refine hK _ _ (wpAnyH_same ⟨hSW, ⟨rA2, rA1⟩⟩ (fun hS => ?_))
          clear hK K Hu57
          refine wpAnyH_all (rs := [22]) (by kernel_rfl) (by simp) ?_
          intro i hi
          obtain rfl := List.mem_singleton.1 hi
          clear hi
          refine wpOp_step rfl (fun K hK => ?_)
          clear hS
          go_simp
          refine (two_any _ _ (by omega) (by omega)).mono ?_
          rintro e u58 ⟨rfl, Hu58⟩
          have zu58 := (Hu58).size
          replace hSW : Below (w1).heap.size (w1) u58 := Below.trans hSW (Below.mono Hu58 zW)
          replace rA2 := (row_below Hu58 zA2).trans rA2
          replace zA2 : A2 < u58.heap.size := by omega
          replace rA1 := (row_below Hu58 zA1).trans rA1
          replace zA1 : A1 < u58.heap.size := by omega
          replace zW : (w1).heap.size ≤ u58.heap.size := by omega
          refine hK _ _ (wpAnyH_same ⟨hSW, ⟨rA2, rA1⟩⟩ (fun hS => ?_))
          clear hK K Hu58
          refine wpAnyH_take (i := 23) (v := ?_) (by simp only [List.getElem?_toArray, List.getElem?_cons_succ, List.getElem?_cons_zero]; rfl) (by kernel_rfl) (by kernel_rfl) (by kernel_rfl) (by first | exact fun _ _ _ h => h | exact fun _ _ _ h => by cases h.1) (Or.inl ⟨by rfl, ?_⟩) hS ?_
          rotate_left
          · intro w' hS'
            unfold Held at hS'
            obtain ⟨hS1, hS3⟩ := hS'
            have hS2 := hv w' hS1
            clear hS1
            go_simp
            (first | rfl | (rw [if_neg (by omega)]; (first | done | rfl)))
          (try simp only [Act.put, List.setIfInBounds_toArray, List.set_cons_zero, List.set_cons_succ])
          refine wpAnyH_take (i := 26) (v := ?_) (by simp only [List.getElem?_toArray, List.getElem?_cons_succ, List.getElem?_cons_zero]; rfl) (by kernel_rfl) (by kernel_rfl) (by kernel_rfl) (by first | exact fun _ _ _ h => h | exact fun _ _ _ h => by cases h.1) (Or.inl ⟨by rfl, ?_⟩) hS ?_
          rotate_left
          · intro w' hS'
            unfold Held at hS'
            obtain ⟨hS1, hS3⟩ := hS'
            have hS2 := hv w' hS1
            clear hS1
            go_simp
            (first | rfl | (rw [if_neg (by omega)]; (first | done | rfl)))
          (try simp only [Act.put, List.setIfInBounds_toArray, List.set_cons_zero, List.set_cons_succ])
          refine wpAnyH_take (i := 27) (v := ?_) (by simp only [List.getElem?_toArray, List.getElem?_cons_succ, List.getElem?_cons_zero]; rfl) (by kernel_rfl) (by kernel_rfl) (by kernel_rfl) (by first | exact fun _ _ _ h => h | exact fun _ _ _ h => by cases h.1) (Or.inl ⟨by rfl, ?_⟩) hS ?_
          rotate_left
          · intro w' hS'
            unfold Held at hS'
            obtain ⟨hS1, hS3⟩ := hS'
            have hS2 := hv w' hS1
            clear hS1
            go_simp
            (first | rfl | (rw [if_neg (by omega)]; (first | done | rfl)))
          (try simp only [Act.put, List.setIfInBounds_toArray, List.set_cons_zero, List.set_cons_succ])
          refine wpAnyH_take (i := 28) (v := ?_) (by simp only [List.getElem?_toArray, List.getElem?_cons_succ, List.getElem?_cons_zero]; rfl) (by kernel_rfl) (by kernel_rfl) (by kernel_rfl) (by first | exact fun _ _ _ h => h | exact fun _ _ _ h => by cases h.1) (Or.inl ⟨by rfl, ?_⟩) hS ?_
          rotate_left
          · intro w' hS'
            unfold Held at hS'
            obtain ⟨hS1, hS3⟩ := hS'
            have hS2 := hv w' hS1
            clear hS1
            go_simp
            (first | rfl | (rw [if_neg (by omega)]; (first | done | rfl)))
          (try simp only [Act.put, List.setIfInBounds_toArray, List.set_cons_zero, List.set_cons_succ])
          refine wpAnyH_done (by kernel_rfl) ?_ _
          refine ⟨rfl, rfl, by simp, rfl, hSW⟩
        · skip
          refine wpOp_step rfl (fun K hK => ?_)
          clear hS
          go_simp
          refine (HS _).mono ?_
          rintro e u59 ⟨rfl, Hu59⟩
          have zu59 := (Hu59).size
          replace hSW : Below (w1).heap.size (w1) u59 := Below.trans hSW (Below.mono Hu59 zW)
          replace rA2 := (row_below Hu59 zA2).trans rA2
          replace zA2 : A2 < u59.heap.size := by omega
          replace zW : (w1).heap.size ≤ u59.heap.size := by omega
          refine hK _ _ (wpAnyH_same ⟨hSW, rA2⟩ (fun hS => ?_))
          clear hK K Hu59
          refine wpAnyH_all (rs := [0, 22]) (by kernel_rfl) (by simp) ?_
          intro i hi
          simp only [List.mem_cons, List.not_mem_nil, or_false] at hi
          rcases hi with rfl | rfl
          · skip
            refine wpOp_step rfl (fun K hK => ?_)
            clear hS
            go_simp
            rw [show (#[Value.int .u8 96, Value.int .u8 0, Value.int .u8 0, Value.int .u8 0] : Array Value) = (u8s [96, 0, 0, 0]).toArray from rfl]
            obtain ⟨A1, hA1⟩ : ∃ A, u59.heap.size = A := ⟨_, rfl⟩
            rw [hA1]
            obtain ⟨u60, hu60⟩ : ∃ U, u59.alloc (.cells (u8s [96, 0, 0, 0]).toArray 5) = U := ⟨_, rfl⟩
            rw [hu60]
            have rA1 : row u60 A1 = (u8s [96, 0, 0, 0]).toArray := by rw [← hu60]; exact row_alloc_at _ _ _ hA1.symm
            have su60 : u60.heap.size = u59.heap.size + 1 := by rw [← hu60]; simp
            have Hu60 : Below u59.heap.size u59 u60 := by rw [← hu60]; exact Below.alloc (Below.refl _ _) (Nat.le_refl _) _
            have zA1 : A1 < u60.heap.size := by omega
            replace rA2 := (row_below Hu60 zA2).trans rA2
            replace zA2 : A2 < u60.heap.size := by omega
            replace hSW : Below (w1).heap.size (w1) u60 := Below.trans hSW (Below.mono Hu60 zW)
            replace zW : (w1).heap.size ≤ u60.heap.size := by omega
            clear Hu60 hu60 su60 hA1
            refine hK _ _ (wpAnyH_next (S2 := Held (fun w' => Below (w1).heap.size (w1) w' ∧ (row w' A2 = (u8s [58, 255]).toArray ∧ row w' A1 = (u8s [96, 0, 0, 0]).toArray))) ⟨hSW, ⟨rA2, rA1⟩⟩ (fun w' h => ⟨h.1, h.2.1⟩) (fun hS => ?_))
            clear hK K
            refine wpAnyH_take (i := 1) (v := ?_) (by simp only [List.getElem?_toArray, List.getElem?_cons_succ, List.getElem?_cons_zero]; rfl) (by kernel_rfl) (by kernel_rfl) (by kernel_rfl) (by first | exact fun _ _ _ h => h | exact fun _ _ _ h => by cases h.1) (Or.inl ⟨by rfl, ?_⟩) hS ?_
            rotate_left
            · intro w' hS'
              unfold Held at hS'
              obtain ⟨hS1, hS3⟩ := hS'
              have hS2 := hv w' hS1
              clear hS1
              go_simp
              (first | rfl | (rw [if_neg (by omega)]; (first | done | rfl)))
            (try simp only [Act.put, List.setIfInBounds_toArray, List.set_cons_zero, List.set_cons_succ])
            refine wpAnyH_take (i := 5) (v := ?_) (by simp only [List.getElem?_toArray, List.getElem?_cons_succ, List.getElem?_cons_zero]; rfl) (by kernel_rfl) (by kernel_rfl) (by kernel_rfl) (by first | exact fun _ _ _ h => h | exact fun _ _ _ h => by cases h.1) (Or.inl ⟨by rfl, ?_⟩) hS ?_
            rotate_left
            · intro w' hS'
              unfold Held at hS'
              obtain ⟨hS1, hS3⟩ := hS'
              have hS2 := hv w' hS1
              clear hS1
              go_simp
              (first | rfl | (rw [if_neg (by omega)]; (first | done | rfl)))
            (try simp only [Act.put, List.setIfInBounds_toArray, List.set_cons_zero, List.set_cons_succ])
            refine wpAnyH_take (i := 8) (v := ?_) (by simp only [List.getElem?_toArray, List.getElem?_cons_succ, List.getElem?_cons_zero]; rfl) (by kernel_rfl) (by kernel_rfl) (by kernel_rfl) (by first | exact fun _ _ _ h => h | exact fun _ _ _ h => by cases h.1) (Or.inl ⟨by rfl, ?_⟩) hS ?_
            rotate_left
            · intro w' hS'
              unfold Held at hS'
              obtain ⟨hS1, hS3⟩ := hS'
              have hS2 := hv w' hS1
              clear hS1
              go_simp
              (first | rfl | (rw [if_neg (by omega)]; (first | done | rfl)))
            (try simp only [Act.put, List.setIfInBounds_toArray, List.set_cons_zero, List.set_cons_succ])
            refine wpAnyH_take (i := 12) (v := ?_) (by simp only [List.getElem?_toArray, List.getElem?_cons_succ, List.getElem?_cons_zero]; rfl) (by kernel_rfl) (by kernel_rfl) (by kernel_rfl) (by first | exact fun _ _ _ h => h | exact fun _ _ _ h => by cases h.1) (Or.inl ⟨by rfl, ?_⟩) hS ?_
            rotate_left
            · intro w' hS'
              unfold Held at hS'
              obtain ⟨hS1, hS3⟩ := hS'
              have hS2 := hv w' hS1
              clear hS1
              go_simp
              (first | rfl | (rw [if_neg (by omega)]; (first | done | rfl)))
            (try simp only [Act.put, List.setIfInBounds_toArray, List.set_cons_zero, List.set_cons_succ])
            refine wpAnyH_take (i := 16) (v := ?_) (by simp only [List.getElem?_toArray, List.getElem?_cons_succ, List.getElem?_cons_zero]; rfl) (by kernel_rfl) (by kernel_rfl) (by kernel_rfl) (by first | exact fun _ _ _ h => h | exact fun _ _ _ h => by cases h.1) (Or.inl ⟨by rfl, ?_⟩) hS ?_
            rotate_left
            · intro w' hS'
              unfold Held at hS'
              obtain ⟨hS1, hS3⟩ := hS'
              have hS2 := hv w' hS1
              clear hS1
              go_simp
              (first | rfl | (rw [if_neg (by omega)]; (first | done | rfl)))
            (try simp only [Act.put, List.setIfInBounds_toArray, List.set_cons_zero, List.set_cons_succ])
            refine wpAnyH_take (i := 19) (v := ?_) (by simp only [List.getElem?_toArray, List.getElem?_cons_succ, List.getElem?_cons_zero]; rfl) (by kernel_rfl) (by kernel_rfl) (by kernel_rfl) (by first | exact fun _ _ _ h => h | exact fun _ _ _ h => by cases h.1) (Or.inl ⟨by rfl, ?_⟩) hS ?_
            rotate_left
            · intro w' hS'
              unfold Held at hS'
              obtain ⟨hS1, hS3⟩ := hS'
              have hS2 := hv w' hS1
              clear hS1
              go_simp
              (first | rfl | (rw [if_neg (by omega)]; (first | done | rfl)))
            (try simp only [Act.put, List.setIfInBounds_toArray, List.set_cons_zero, List.set_cons_succ])
            refine wpAnyH_all (rs := [22]) (by kernel_rfl) (by simp) ?_
            intro i hi
            obtain rfl := List.mem_singleton.1 hi
            clear hi
            refine wpOp_step rfl (fun K hK => ?_)
            clear hS
            go_simp
            refine (two_any _ _ (by omega) (by omega)).mono ?_
            rintro e u61 ⟨rfl, Hu61⟩
            have zu61 := (Hu61).size
            replace hSW : Below (w1).heap.size (w1) u61 := Below.trans hSW (Below.mono Hu61 zW)
            replace rA2 := (row_below Hu61 zA2).trans rA2
            replace zA2 : A2 < u61.heap.size := by omega
            replace rA1 := (row_below Hu61 zA1).trans rA1
            replace zA1 : A1 < u61.heap.size := by omega
            replace zW : (w1).heap.size ≤ u61.heap.size := by omega
            refine hK _ _ (wpAnyH_same ⟨hSW, ⟨rA2, rA1⟩⟩ (fun hS => ?_))
            clear hK K Hu61
            refine wpAnyH_take (i := 23) (v := ?_) (by simp only [List.getElem?_toArray, List.getElem?_cons_succ, List.getElem?_cons_zero]; rfl) (by kernel_rfl) (by kernel_rfl) (by kernel_rfl) (by first | exact fun _ _ _ h => h | exact fun _ _ _ h => by cases h.1) (Or.inl ⟨by rfl, ?_⟩) hS ?_
            rotate_left
            · intro w' hS'
              unfold Held at hS'
              obtain ⟨hS1, hS3⟩ := hS'
              have hS2 := hv w' hS1
              clear hS1
              go_simp
              (first | rfl | (rw [if_neg (by omega)]; (first | done | rfl)))
            (try simp only [Act.put, List.setIfInBounds_toArray, List.set_cons_zero, List.set_cons_succ])
            refine wpAnyH_take (i := 26) (v := ?_) (by simp only [List.getElem?_toArray, List.getElem?_cons_succ, List.getElem?_cons_zero]; rfl) (by kernel_rfl) (by kernel_rfl) (by kernel_rfl) (by first | exact fun _ _ _ h => h | exact fun _ _ _ h => by cases h.1) (Or.inl ⟨by rfl, ?_⟩) hS ?_
            rotate_left
            · intro w' hS'
              unfold Held at hS'
              obtain ⟨hS1, hS3⟩ := hS'
              have hS2 := hv w' hS1
              clear hS1
              go_simp
              (first | rfl | (rw [if_neg (by omega)]; (first | done | rfl)))
            (try simp only [Act.put, List.setIfInBounds_toArray, List.set_cons_zero, List.set_cons_succ])
            refine wpAnyH_take (i := 27) (v := ?_) (by simp only [List.getElem?_toArray, List.getElem?_cons_succ, List.getElem?_cons_zero]; rfl) (by kernel_rfl) (by kernel_rfl) (by kernel_rfl) (by first | exact fun _ _ _ h => h | exact fun _ _ _ h => by cases h.1) (Or.inl ⟨by rfl, ?_⟩) hS ?_
            rotate_left
            · intro w' hS'
              unfold Held at hS'
              obtain ⟨hS1, hS3⟩ := hS'
              have hS2 := hv w' hS1
              clear hS1
              go_simp
              (first | rfl | (rw [if_neg (by omega)]; (first | done | rfl)))
            (try simp only [Act.put, List.setIfInBounds_toArray, List.set_cons_zero, List.set_cons_succ])
            refine wpAnyH_take (i := 28) (v := ?_) (by simp only [List.getElem?_toArray, List.getElem?_cons_succ, List.getElem?_cons_zero]; rfl) (by kernel_rfl) (by kernel_rfl) (by kernel_rfl) (by first | exact fun _ _ _ h => h | exact fun _ _ _ h => by cases h.1) (Or.inl ⟨by rfl, ?_⟩) hS ?_
            rotate_left
            · intro w' hS'
              unfold Held at hS'
              obtain ⟨hS1, hS3⟩ := hS'
              have hS2 := hv w' hS1
              clear hS1
              go_simp
              (first | rfl | (rw [if_neg (by omega)]; (first | done | rfl)))
            (try simp only [Act.put, List.setIfInBounds_toArray, List.set_cons_zero, List.set_cons_succ])
            refine wpAnyH_done (by kernel_rfl) ?_ _
            refine ⟨rfl, rfl, by simp, rfl, hSW⟩
          · skip
            refine wpOp_step rfl (fun K hK => ?_)
            clear hS
            go_simp
            refine (two_any _ _ (by omega) (by omega)).mono ?_
            rintro e u62 ⟨rfl, Hu62⟩
            have zu62 := (Hu62).size
            replace hSW : Below (w1).heap.size (w1) u62 := Below.trans hSW (Below.mono Hu62 zW)
            replace rA2 := (row_below Hu62 zA2).trans rA2
            replace zA2 : A2 < u62.heap.size := by omega
            replace zW : (w1).heap.size ≤ u62.heap.size := by omega
            refine hK _ _ (wpAnyH_same ⟨hSW, rA2⟩ (fun hS => ?_))
            clear hK K Hu62
            refine wpAnyH_all (rs := [0]) (by kernel_rfl) (by simp) ?_
            intro i hi
            obtain rfl := List.mem_singleton.1 hi
            clear hi
            refine wpOp_step rfl (fun K hK => ?_)
            clear hS
            go_simp
            rw [show (#[Value.int .u8 96, Value.int .u8 0, Value.int .u8 0, Value.int .u8 0] : Array Value) = (u8s [96, 0, 0, 0]).toArray from rfl]
            obtain ⟨A1, hA1⟩ : ∃ A, u62.heap.size = A := ⟨_, rfl⟩
            rw [hA1]
            obtain ⟨u63, hu63⟩ : ∃ U, u62.alloc (.cells (u8s [96, 0, 0, 0]).toArray 5) = U := ⟨_, rfl⟩
            rw [hu63]
            have rA1 : row u63 A1 = (u8s [96, 0, 0, 0]).toArray := by rw [← hu63]; exact row_alloc_at _ _ _ hA1.symm
            have su63 : u63.heap.size = u62.heap.size + 1 := by rw [← hu63]; simp
            have Hu63 : Below u62.heap.size u62 u63 := by rw [← hu63]; exact Below.alloc (Below.refl _ _) (Nat.le_refl _) _
            have zA1 : A1 < u63.heap.size := by omega
            replace rA2 := (row_below Hu63 zA2).trans rA2
            replace zA2 : A2 < u63.heap.size := by omega
            replace hSW : Below (w1).heap.size (w1) u63 := Below.trans hSW (Below.mono Hu63 zW)
            replace zW : (w1).heap.size ≤ u63.heap.size := by omega
            clear Hu63 hu63 su63 hA1
            refine hK _ _ (wpAnyH_next (S2 := Held (fun w' => Below (w1).heap.size (w1) w' ∧ (row w' A2 = (u8s [58, 255]).toArray ∧ row w' A1 = (u8s [96, 0, 0, 0]).toArray))) ⟨hSW, ⟨rA2, rA1⟩⟩ (fun w' h => ⟨h.1, h.2.1⟩) (fun hS => ?_))
            clear hK K
            refine wpAnyH_take (i := 1) (v := ?_) (by simp only [List.getElem?_toArray, List.getElem?_cons_succ, List.getElem?_cons_zero]; rfl) (by kernel_rfl) (by kernel_rfl) (by kernel_rfl) (by first | exact fun _ _ _ h => h | exact fun _ _ _ h => by cases h.1) (Or.inl ⟨by rfl, ?_⟩) hS ?_
            rotate_left
            · intro w' hS'
              unfold Held at hS'
              obtain ⟨hS1, hS3⟩ := hS'
              have hS2 := hv w' hS1
              clear hS1
              go_simp
              (first | rfl | (rw [if_neg (by omega)]; (first | done | rfl)))
            (try simp only [Act.put, List.setIfInBounds_toArray, List.set_cons_zero, List.set_cons_succ])
            refine wpAnyH_take (i := 5) (v := ?_) (by simp only [List.getElem?_toArray, List.getElem?_cons_succ, List.getElem?_cons_zero]; rfl) (by kernel_rfl) (by kernel_rfl) (by kernel_rfl) (by first | exact fun _ _ _ h => h | exact fun _ _ _ h => by cases h.1) (Or.inl ⟨by rfl, ?_⟩) hS ?_
            rotate_left
            · intro w' hS'
              unfold Held at hS'
              obtain ⟨hS1, hS3⟩ := hS'
              have hS2 := hv w' hS1
              clear hS1
              go_simp
              (first | rfl | (rw [if_neg (by omega)]; (first | done | rfl)))
            (try simp only [Act.put, List.setIfInBounds_toArray, List.set_cons_zero, List.set_cons_succ])
            refine wpAnyH_take (i := 8) (v := ?_) (by simp only [List.getElem?_toArray, List.getElem?_cons_succ, List.getElem?_cons_zero]; rfl) (by kernel_rfl) (by kernel_rfl) (by kernel_rfl) (by first | exact fun _ _ _ h => h | exact fun _ _ _ h => by cases h.1) (Or.inl ⟨by rfl, ?_⟩) hS ?_
            rotate_left
            · intro w' hS'
              unfold Held at hS'
              obtain ⟨hS1, hS3⟩ := hS'
              have hS2 := hv w' hS1
              clear hS1
              go_simp
              (first | rfl | (rw [if_neg (by omega)]; (first | done | rfl)))
            (try simp only [Act.put, List.setIfInBounds_toArray, List.set_cons_zero, List.set_cons_succ])
            refine wpAnyH_take (i := 12) (v := ?_) (by simp only [List.getElem?_toArray, List.getElem?_cons_succ, List.getElem?_cons_zero]; rfl) (by kernel_rfl) (by kernel_rfl) (by kernel_rfl) (by first | exact fun _ _ _ h => h | exact fun _ _ _ h => by cases h.1) (Or.inl ⟨by rfl, ?_⟩) hS ?_
            rotate_left
            · intro w' hS'
              unfold Held at hS'
              obtain ⟨hS1, hS3⟩ := hS'
              have hS2 := hv w' hS1
              clear hS1
              go_simp
              (first | rfl | (rw [if_neg (by omega)]; (first | done | rfl)))
            (try simp only [Act.put, List.setIfInBounds_toArray, List.set_cons_zero, List.set_cons_succ])
            refine wpAnyH_take (i := 16) (v := ?_) (by simp only [List.getElem?_toArray, List.getElem?_cons_succ, List.getElem?_cons_zero]; rfl) (by kernel_rfl) (by kernel_rfl) (by kernel_rfl) (by first | exact fun _ _ _ h => h | exact fun _ _ _ h => by cases h.1) (Or.inl ⟨by rfl, ?_⟩) hS ?_
            rotate_left
            · intro w' hS'
              unfold Held at hS'
              obtain ⟨hS1, hS3⟩ := hS'
              have hS2 := hv w' hS1
              clear hS1
              go_simp
              (first | rfl | (rw [if_neg (by omega)]; (first | done | rfl)))
            (try simp only [Act.put, List.setIfInBounds_toArray, List.set_cons_zero, List.set_cons_succ])
            refine wpAnyH_take (i := 19) (v := ?_) (by simp only [List.getElem?_toArray, List.getElem?_cons_succ, List.getElem?_cons_zero]; rfl) (by kernel_rfl) (by kernel_rfl) (by kernel_rfl) (by first | exact fun _ _ _ h => h | exact fun _ _ _ h => by cases h.1) (Or.inl ⟨by rfl, ?_⟩) hS ?_
            rotate_left
            · intro w' hS'
              unfold Held at hS'
              obtain ⟨hS1, hS3⟩ := hS'
              have hS2 := hv w' hS1
              clear hS1
              go_simp
              (first | rfl | (rw [if_neg (by omega)]; (first | done | rfl)))
            (try simp only [Act.put, List.setIfInBounds_toArray, List.set_cons_zero, List.set_cons_succ])
            refine wpAnyH_take (i := 23) (v := ?_) (by simp only [List.getElem?_toArray, List.getElem?_cons_succ, List.getElem?_cons_zero]; rfl) (by kernel_rfl) (by kernel_rfl) (by kernel_rfl) (by first | exact fun _ _ _ h => h | exact fun _ _ _ h => by cases h.1) (Or.inl ⟨by rfl, ?_⟩) hS ?_
            rotate_left
            · intro w' hS'
              unfold Held at hS'
              obtain ⟨hS1, hS3⟩ := hS'
              have hS2 := hv w' hS1
              clear hS1
              go_simp
              (first | rfl | (rw [if_neg (by omega)]; (first | done | rfl)))
            (try simp only [Act.put, List.setIfInBounds_toArray, List.set_cons_zero, List.set_cons_succ])
            refine wpAnyH_take (i := 26) (v := ?_) (by simp only [List.getElem?_toArray, List.getElem?_cons_succ, List.getElem?_cons_zero]; rfl) (by kernel_rfl) (by kernel_rfl) (by kernel_rfl) (by first | exact fun _ _ _ h => h | exact fun _ _ _ h => by cases h.1) (Or.inl ⟨by rfl, ?_⟩) hS ?_
            rotate_left
            · intro w' hS'
              unfold Held at hS'
              obtain ⟨hS1, hS3⟩ := hS'
              have hS2 := hv w' hS1
              clear hS1
              go_simp
              (first | rfl | (rw [if_neg (by omega)]; (first | done | rfl)))
            (try simp only [Act.put, List.setIfInBounds_toArray, List.set_cons_zero, List.set_cons_succ])
            refine wpAnyH_take (i := 27) (v := ?_) (by simp only [List.getElem?_toArray, List.getElem?_cons_succ, List.getElem?_cons_zero]; rfl) (by kernel_rfl) (by kernel_rfl) (by kernel_rfl) (by first | exact fun _ _ _ h => h | exact fun _ _ _ h => by cases h.1) (Or.inl ⟨by rfl, ?_⟩) hS ?_
            rotate_left
            · intro w' hS'
              unfold Held at hS'
              obtain ⟨hS1, hS3⟩ := hS'
              have hS2 := hv w' hS1
              clear hS1
              go_simp
              (first | rfl | (rw [if_neg (by omega)]; (first | done | rfl)))
            (try simp only [Act.put, List.setIfInBounds_toArray, List.set_cons_zero, List.set_cons_succ])
            refine wpAnyH_take (i := 28) (v := ?_) (by simp only [List.getElem?_toArray, List.getElem?_cons_succ, List.getElem?_cons_zero]; rfl) (by kernel_rfl) (by kernel_rfl) (by kernel_rfl) (by first | exact fun _ _ _ h => h | exact fun _ _ _ h => by cases h.1) (Or.inl ⟨by rfl, ?_⟩) hS ?_
            rotate_left
            · intro w' hS'
              unfold Held at hS'
              obtain ⟨hS1, hS3⟩ := hS'
              have hS2 := hv w' hS1
              clear hS1
              go_simp
              (first | rfl | (rw [if_neg (by omega)]; (first | done | rfl)))
            (try simp only [Act.put, List.setIfInBounds_toArray, List.set_cons_zero, List.set_cons_succ])
            refine wpAnyH_done (by kernel_rfl) ?_ _
            refine ⟨rfl, rfl, by simp, rfl, hSW⟩
end Go.Proofs.Ythnjkpecnaglhaa
