/- The walk of the law AeadSpoilt. -/
import Derived.Test.YtjeclimoknilcaaAeadW
set_option linter.unusedSimpArgs false
set_option linter.unusedVariables false
namespace Go.Proofs.Ytjeclimoknilcaa
open Go.ChangeShapes Go.WideShapes Go.ChangeAt Go.RowKit
set_option maxRecDepth 20000 in
theorem aeadSpoilt_long1 (k beside s : List UInt8) (n : Nat) (a b : Int) (w : World) (g1 : (400 : Int) < beside.length) :
    Calls Try.prog 8 #[.agg (u8s k).toArray, .int .u64 n, .string ⟨beside.toArray⟩, .string ⟨s.toArray⟩, .int .u8 a, .int .u8 b] w fun e w' => e = .returned (.bool true) ∧ Below w.heap.size w w' := by
  go_enter Try.func8, Try.ntmps8
  go_wp2_with fail
  (with_reducible refine (awake05_any _).mono ?_)
  rintro e w1 ⟨rfl, b1⟩
  go_wp2_with fail
  (with_reducible refine (awake05_any _).mono ?_)
  rintro e w2 ⟨rfl, b2⟩
  go_wp2_with fail
  go_ret
  exact ⟨rfl, Below.trans (by (repeat (first | exact Below.refl _ _ | refine Below.alloc ?_ (by first | (simp; done) | (simp; omega) | omega) _ | refine Below.drew ?_ | refine Below.setRow ?_ (by first | (simp; done) | (simp; omega) | omega) _ | refine Below.setCell ?_ (by first | (simp; done) | (simp; omega) | omega) _))) (Below.trans (b1.mono (by simp)) (b2.mono (by have := b1.size; simp at this; omega)))⟩
set_option maxRecDepth 20000 in
theorem aeadSpoilt_long2 (k beside s : List UInt8) (n : Nat) (a b : Int) (w : World) (g1 : ¬ (400 : Int) < beside.length) (g2 : (400 : Int) < s.length) :
    Calls Try.prog 8 #[.agg (u8s k).toArray, .int .u64 n, .string ⟨beside.toArray⟩, .string ⟨s.toArray⟩, .int .u8 a, .int .u8 b] w fun e w' => e = .returned (.bool true) ∧ Below w.heap.size w w' := by
  go_enter Try.func8, Try.ntmps8
  go_wp2_with fail
  (with_reducible refine (awake05_any _).mono ?_)
  rintro e w1 ⟨rfl, b1⟩
  go_wp2_with fail
  (with_reducible refine (awake05_any _).mono ?_)
  rintro e w2 ⟨rfl, b2⟩
  go_wp2_with fail
  go_ret
  exact ⟨rfl, Below.trans (by (repeat (first | exact Below.refl _ _ | refine Below.alloc ?_ (by first | (simp; done) | (simp; omega) | omega) _ | refine Below.drew ?_ | refine Below.setRow ?_ (by first | (simp; done) | (simp; omega) | omega) _ | refine Below.setCell ?_ (by first | (simp; done) | (simp; omega) | omega) _))) (Below.trans (b1.mono (by simp)) (b2.mono (by have := b1.size; simp at this; omega)))⟩
set_option maxRecDepth 20000 in
theorem aeadSpoilt_zero (k beside s : List UInt8) (n : Nat) (a : Int) (w : World) (g1 : ¬ (400 : Int) < beside.length) (g2 : ¬ (400 : Int) < s.length) :
    Calls Try.prog 8 #[.agg (u8s k).toArray, .int .u64 n, .string ⟨beside.toArray⟩, .string ⟨s.toArray⟩, .int .u8 a, .int .u8 0] w fun e w' => e = .returned (.bool true) ∧ Below w.heap.size w w' := by
  go_enter Try.func8, Try.ntmps8
  go_wp2_with fail
  (with_reducible refine (awake05_any _).mono ?_)
  rintro e w1 ⟨rfl, b1⟩
  go_wp2_with fail
  (with_reducible refine (awake05_any _).mono ?_)
  rintro e w2 ⟨rfl, b2⟩
  go_wp2_with fail
  go_ret
  exact ⟨rfl, Below.trans (by (repeat (first | exact Below.refl _ _ | refine Below.alloc ?_ (by first | (simp; done) | (simp; omega) | omega) _ | refine Below.drew ?_ | refine Below.setRow ?_ (by first | (simp; done) | (simp; omega) | omega) _ | refine Below.setCell ?_ (by first | (simp; done) | (simp; omega) | omega) _))) (Below.trans (b1.mono (by simp)) (b2.mono (by have := b1.size; simp at this; omega)))⟩
set_option maxRecDepth 20000 in
set_option maxHeartbeats 1000000 in
theorem aeadSpoilt_good (k beside s : List UInt8) (n a : Nat) (y : UInt8) (w : World) (hk : k.length = 32) (hb : beside.length ≤ 400) (hs : s.length ≤ 400) (hy : y ≠ 0) (ha : a < 256) :
    Calls Try.prog 8 #[.agg (u8s k).toArray, .int .u64 n, .string ⟨beside.toArray⟩, .string ⟨s.toArray⟩, .int .u8 a, .int .u8 (y.toNat : Int)] w fun e w' => e = .returned (.bool true) ∧ Below w.heap.size w w' := by
  have HN := Lib.hid (fun w => nonce_any n w)
  have hseal := fun w => seal_any k (nonceL n) beside s w hk (nonceL_length n) (by omega) (by omega)
  have hml := maskL_length k 1 (nonceL n) s
  have htl := tagL_length k (nonceL n) beside (maskL k 1 (nonceL n) s)
  simp only [sealL] at hseal
  obtain ⟨M, eM⟩ : ∃ M, maskL k 1 (nonceL n) s = M := ⟨_, rfl⟩
  rw [eM] at hml htl hseal
  obtain ⟨j, hj⟩ : ∃ j, a % 16 = j := ⟨_, rfl⟩
  have j16 : j < 16 := by omega
  have hopen : ∀ v, v ≠ (tagL k (nonceL n) beside M)[j] → ∀ w, Calls Try.prog 17 #[.agg (u8s k).toArray, .string ⟨(nonceL n).toArray⟩, .string ⟨beside.toArray⟩, .string ⟨((M ++ tagL k (nonceL n) beside M).set (s.length + j) v).toArray⟩] w fun e w' => e = .returned (.tuple #[.string ⟨#[]⟩, .int .i64 5]) ∧ Below w.heap.size w w' := by
    intro v hv w
    have e : (M ++ tagL k (nonceL n) beside M).set (s.length + j) v = M ++ (tagL k (nonceL n) beside M).set j v := by
      rw [List.set_append_right _ _ (by omega), hml]
      congr 2
      omega
    rw [e]
    refine open_no k (nonceL n) beside M _ w hk (nonceL_length n) (by omega) (by omega) (by rw [List.length_set]; exact htl) (fun h => hv ?_)
    have h2 : (tagL k (nonceL n) beside M)[j]? = ((tagL k (nonceL n) beside M).set j v)[j]? := congrArg (·[j]?) h
    rw [List.getElem?_set_self (by omega), List.getElem?_eq_getElem (by omega)] at h2
    exact (Option.some.inj h2).symm
  obtain ⟨T, eT⟩ : ∃ T, tagL k (nonceL n) beside M = T := ⟨_, rfl⟩
  simp only [eT] at hseal htl hopen
  obtain ⟨c, ec⟩ : ∃ c, M ++ T = c := ⟨_, rfl⟩
  rw [ec] at hseal hopen
  have hl : c.length = s.length + 16 := by rw [← ec, List.length_append]; omega
  obtain ⟨p, hp⟩ : ∃ p, s.length + j = p := ⟨_, rfl⟩
  have hpc : p < c.length := by omega
  have hcp : c[p] = T[j] := by
    simp only [← ec]
    rw [List.getElem_append_right (by omega)]
    congr 1
    omega
  obtain ⟨v, hv⟩ : ∃ v, c[p] ^^^ y = v := ⟨_, rfl⟩
  have hvne : v ≠ T[j] := by
    rw [← hcp, ← hv]
    intro h
    apply hy
    have : c[p] ^^^ (c[p] ^^^ y) = c[p] ^^^ c[p] := by rw [h]
    rwa [← UInt8.xor_assoc, UInt8.xor_self, UInt8.zero_xor] at this
  have hopen2 := hopen v hvne
  rw [hp] at hopen2
  have hxor := xor_u8 c[p] y
  rw [hv] at hxor
  have hset := u8s_setB c p v
  obtain ⟨d, hd⟩ : ∃ d, c.set p v = d := ⟨_, rfl⟩
  have hdl : d.length = s.length + 16 := by rw [← hd, List.length_set]; exact hl
  rw [hd] at hopen2 hset
  have HS := Lib.hid hseal
  have HO := Lib.hid hopen2
  obtain ⟨m, em⟩ : ∃ m, nonceL n = m := ⟨_, rfl⟩
  rw [em] at HN HS HO
  have y0 : ((y.toNat : Int) == 0) = false := by
    simp only [beq_eq_false_iff_ne, ne_eq]
    intro h
    exact hy (UInt8.toNat_inj.1 (by simp; omega))
  have hj2 : (a : Int) % 16 = (j : Int) := by omega
  have hp2 : (s.length : Int) + (j : Int) = (p : Int) := by omega
  have hp3 : (p : Int) < (s.length : Int) + 16 := by omega
  have hp4 : p < s.length + 16 := by omega
  have hp5 : (p : Int) ≤ 1000 := by omega
  have g1 : ¬ (400 : Int) < beside.length := by omega
  have g2 : ¬ (400 : Int) < s.length := by omega
  have g3 : (s.length : Int) ≤ 400 := by omega
  have g7 : ¬ ((s.length : Int) + 16 < 16) := by omega
  have g8 : (a : Int) < 256 := by omega
  have hcl : (c.length : Int) = (s.length : Int) + 16 := by omega
  have hcd : (c.length : Int) - 16 = s.length := by omega
  clear hseal hopen hopen2 hd ec em eM eT hml htl hj hp hv hvne hcp hy hb hs
  go_enter Try.func8, Try.ntmps8
  go_wp2_with fail
  (with_reducible refine (awake05_any _).mono ?_)
  rintro e w1 ⟨rfl, b1⟩
  have z1 := b1.size
  simp at z1
  have r1 : row w1 w.heap.size = (u8s k).toArray := by rw [row_below b1 (by simp)]; simp [go_sem]
  have B1 : Below w.heap.size w w1 := Below.trans (by (repeat (first | exact Below.refl _ _ | refine Below.alloc ?_ (by first | (simp; done) | (simp; omega) | omega) _ | refine Below.drew ?_ | refine Below.setRow ?_ (by first | (simp; done) | (simp; omega) | omega) _ | refine Below.setCell ?_ (by first | (simp; done) | (simp; omega) | omega) _))) (b1.mono (by simp))
  clear b1
  go_wp2_with fail
  refine wp_region_beginR [(w.heap.size, (u8s k).toArray)] rfl (by simp only [Rws]; (repeat (first | exact trivial | refine ⟨(by first | assumption | (simp [go_sem, *]; done)), (by first | omega | (simp; done) | (simp; omega)), ?_⟩))) (fun hS => ?_)
  refine wpAnyR_take (i := 0) (v := ?_) (by simp only [List.getElem?_toArray, List.getElem?_cons_succ, List.getElem?_cons_zero]; rfl) (by kernel_rfl) (by kernel_rfl) (by kernel_rfl) (by first | exact fun _ _ _ h => h | exact fun _ _ _ h => by cases h.1) (Rws.grow _) (Or.inl ⟨by rfl, ?_⟩) hS ?_
  rotate_left
  · intro w' hS'
    simp only [Rws] at hS'
    go_simp
    refine ⟨?_, Below.refl _ _⟩
    rfl
  (try simp only [Act.put, List.setIfInBounds_toArray, List.set_cons_zero, List.set_cons_succ])
  refine wpAnyR_take (i := 1) (v := ?_) (by simp only [List.getElem?_toArray, List.getElem?_cons_succ, List.getElem?_cons_zero]; rfl) (by kernel_rfl) (by kernel_rfl) (by kernel_rfl) (by first | exact fun _ _ _ h => h | exact fun _ _ _ h => by cases h.1) (Rws.grow _) (Or.inl ⟨by rfl, ?_⟩) hS ?_
  rotate_left
  · intro w' hS'
    simp only [Rws] at hS'
    go_simp
    refine ⟨?_, Below.refl _ _⟩
    rfl
  (try simp only [Act.put, List.setIfInBounds_toArray, List.set_cons_zero, List.set_cons_succ])
  refine wpAnyR_take (i := 3) (v := ?_) (by simp only [List.getElem?_toArray, List.getElem?_cons_succ, List.getElem?_cons_zero]; rfl) (by kernel_rfl) (by kernel_rfl) (by kernel_rfl) (by first | exact fun _ _ _ h => h | exact fun _ _ _ h => by cases h.1) (Rws.grow _) (Or.inl ⟨by rfl, ?_⟩) hS ?_
  rotate_left
  · intro w' hS'
    simp only [Rws] at hS'
    go_simp
    refine ⟨?_, Below.refl _ _⟩
    rfl
  (try simp only [Act.put, List.setIfInBounds_toArray, List.set_cons_zero, List.set_cons_succ])
  refine wpAnyR_take (i := 4) (v := ?_) (by simp only [List.getElem?_toArray, List.getElem?_cons_succ, List.getElem?_cons_zero]; rfl) (by kernel_rfl) (by kernel_rfl) (by kernel_rfl) (by first | exact fun _ _ _ h => h | exact fun _ _ _ h => by cases h.1) (Rws.grow _) (Or.inl ⟨by rfl, ?_⟩) hS ?_
  rotate_left
  · intro w' hS'
    simp only [Rws] at hS'
    go_simp
    refine ⟨?_, Below.refl _ _⟩
    rfl
  (try simp only [Act.put, List.setIfInBounds_toArray, List.set_cons_zero, List.set_cons_succ])
  refine wpAnyR_take (i := 2) (v := ?_) (by simp only [List.getElem?_toArray, List.getElem?_cons_succ, List.getElem?_cons_zero]; rfl) (by kernel_rfl) (by kernel_rfl) (by kernel_rfl) (by first | exact fun _ _ _ h => h | exact fun _ _ _ h => by cases h.1) (Rws.grow _) (Or.inl ⟨by rfl, ?_⟩) hS ?_
  rotate_left
  · intro w' hS'
    simp only [Rws] at hS'
    go_simp
    with_reducible refine (HN.out _).mono ?_
    rintro e w'' ⟨rfl, hb⟩
    refine ⟨_, rfl, ?_, hb⟩
    rfl
  (try simp only [Act.put, List.setIfInBounds_toArray, List.set_cons_zero, List.set_cons_succ])
  refine wpAnyR_take (i := 5) (v := ?_) (by simp only [List.getElem?_toArray, List.getElem?_cons_succ, List.getElem?_cons_zero]; rfl) (by kernel_rfl) (by kernel_rfl) (by kernel_rfl) (by first | exact fun _ _ _ h => h | exact fun _ _ _ h => by cases h.1) (Rws.grow _) (Or.inl ⟨by rfl, ?_⟩) hS ?_
  rotate_left
  · intro w' hS'
    simp only [Rws] at hS'
    go_simp
    with_reducible refine (HS.out _).mono ?_
    rintro e w'' ⟨rfl, hb⟩
    refine ⟨_, rfl, ?_, hb⟩
    rfl
  (try simp only [Act.put, List.setIfInBounds_toArray, List.set_cons_zero, List.set_cons_succ])
  refine wpAnyR_take (i := 6) (v := ?_) (by simp only [List.getElem?_toArray, List.getElem?_cons_succ, List.getElem?_cons_zero]; rfl) (by kernel_rfl) (by kernel_rfl) (by kernel_rfl) (by first | exact fun _ _ _ h => h | exact fun _ _ _ h => by cases h.1) (Rws.grow _) (Or.inl ⟨by rfl, ?_⟩) hS ?_
  rotate_left
  · intro w' hS'
    simp only [Rws] at hS'
    go_simp
    refine ⟨?_, Below.refl _ _⟩
    rfl
  (try simp only [Act.put, List.setIfInBounds_toArray, List.set_cons_zero, List.set_cons_succ])
  refine wpAnyR_take (i := 7) (v := ?_) (by simp only [List.getElem?_toArray, List.getElem?_cons_succ, List.getElem?_cons_zero]; rfl) (by kernel_rfl) (by kernel_rfl) (by kernel_rfl) (by first | exact fun _ _ _ h => h | exact fun _ _ _ h => by cases h.1) (Rws.grow _) (Or.inl ⟨by rfl, ?_⟩) hS ?_
  rotate_left
  · intro w' hS'
    simp only [Rws] at hS'
    go_simp
    refine ⟨?_, Below.refl _ _⟩
    rfl
  (try simp only [Act.put, List.setIfInBounds_toArray, List.set_cons_zero, List.set_cons_succ])
  refine wpAnyR_take (i := 8) (v := ?_) (by simp only [List.getElem?_toArray, List.getElem?_cons_succ, List.getElem?_cons_zero]; rfl) (by kernel_rfl) (by kernel_rfl) (by kernel_rfl) (by first | exact fun _ _ _ h => h | exact fun _ _ _ h => by cases h.1) (Rws.grow _) (Or.inl ⟨by rfl, ?_⟩) hS ?_
  rotate_left
  · intro w' hS'
    simp only [Rws] at hS'
    go_simp
    refine ⟨?_, Below.refl _ _⟩
    rfl
  (try simp only [Act.put, List.setIfInBounds_toArray, List.set_cons_zero, List.set_cons_succ])
  refine wpAnyR_take (i := 9) (v := ?_) (by simp only [List.getElem?_toArray, List.getElem?_cons_succ, List.getElem?_cons_zero]; rfl) (by kernel_rfl) (by kernel_rfl) (by kernel_rfl) (by first | exact fun _ _ _ h => h | exact fun _ _ _ h => by cases h.1) (Rws.grow _) (Or.inl ⟨by rfl, ?_⟩) hS ?_
  rotate_left
  · intro w' hS'
    simp only [Rws] at hS'
    go_simp
    refine ⟨?_, Below.refl _ _⟩
    rfl
  (try simp only [Act.put, List.setIfInBounds_toArray, List.set_cons_zero, List.set_cons_succ])
  refine wpAnyR_take (i := 10) (v := ?_) (by simp only [List.getElem?_toArray, List.getElem?_cons_succ, List.getElem?_cons_zero]; rfl) (by kernel_rfl) (by kernel_rfl) (by kernel_rfl) (by first | exact fun _ _ _ h => h | exact fun _ _ _ h => by cases h.1) (Rws.grow _) (Or.inl ⟨by rfl, ?_⟩) hS ?_
  rotate_left
  · intro w' hS'
    simp only [Rws] at hS'
    go_simp
    refine ⟨?_, Below.refl _ _⟩
    rfl
  (try simp only [Act.put, List.setIfInBounds_toArray, List.set_cons_zero, List.set_cons_succ])
  refine wpAnyR_done (by kernel_rfl) (fun w2 b2 => ?_) _
  replace b2 : Below (w1).heap.size (w1) w2 := below_step (Below.drew (Below.refl _ _)) b2
  have z2 := b2.size
  have r2 : row w2 w.heap.size = (u8s k).toArray := by rw [row_below b2 (by omega)]; exact r1
  replace b2 := Below.trans B1 (b2.mono (by omega))
  have B2 := b2
  clear b2
  obtain ⟨sp, hsp⟩ : ∃ q, spareOf w2 ⟨c.toArray⟩ 5 = q := ⟨_, rfl⟩
  obtain ⟨W, hW⟩ : ∃ W, (w2.alloc (.cells (u8s c ++ zeros sp (Value.int .u8 0)).toArray 5 (s.length + 16 + sp, s.length + 16 + sp + 1))).drew = W := ⟨_, rfl⟩
  have bW : Below w2.heap.size w2 W := by rw [← hW]; exact (by (repeat (first | exact Below.refl _ _ | refine Below.alloc ?_ (by first | (simp; done) | (simp; omega) | omega) _ | refine Below.drew ?_ | refine Below.setRow ?_ (by first | (simp; done) | (simp; omega) | omega) _ | refine Below.setCell ?_ (by first | (simp; done) | (simp; omega) | omega) _)))
  have zW : W.heap.size = w2.heap.size + 1 := by rw [← hW]; simp
  have rW : row W w2.heap.size = (u8s c ++ zeros sp (Value.int .u8 0)).toArray := by rw [← hW, row_drew, row_alloc_mark _ _ _ _ _ rfl (by simp; omega)]
  have rK : row W w.heap.size = (u8s k).toArray := (row_below bW (by omega)).trans r2
  have BW : Below w.heap.size w W := B2.trans (bW.mono (by omega))
  have hps : p < s.length + 16 + sp := by omega
  clear bW B2 r2 r1 B1
  go_wp2_with fail
  obtain ⟨V, hV⟩ : ∃ V, W.setCell ⟨w2.heap.size, p, none⟩ (.int .u8 (v.toNat : Int)) = V := ⟨_, rfl⟩
  have eV : V = W.setRow w2.heap.size (u8s d ++ zeros sp (Value.int .u8 0)).toArray := by
    rw [← hV, setCell_row _ (by rw [rW]; simp; omega), rW]
    congr 1
    simp only [List.setIfInBounds_toArray]
    rw [List.set_append_left _ _ (by simp; omega), hset]
  have zV : V.heap.size = w2.heap.size + 1 := by rw [eV]; simpa using zW
  have rV : row V w2.heap.size = (u8s d ++ zeros sp (Value.int .u8 0)).toArray := by rw [eV]; exact row_setRow_same (by rw [rW]; simp; omega) (by rw [rW]; simp; omega)
  have rKV : row V w.heap.size = (u8s k).toArray := by rw [eV, row_setRow_other _ _ _ (by omega)]; exact rK
  have BV : Below w.heap.size w V := by rw [eV]; exact Below.setRow BW (by omega) _
  rw [hV]
  clear hV eV hW rW rK BW hxor hset hps
  refine wp_region_beginR [(w.heap.size, (u8s k).toArray), (w2.heap.size, (u8s d ++ zeros sp (Value.int .u8 0)).toArray)] rfl (by simp only [Rws]; (repeat (first | exact trivial | refine ⟨(by first | assumption | (simp [go_sem, *]; done)), (by first | omega | (simp; done) | (simp; omega)), ?_⟩))) (fun hS => ?_)
  refine wpAnyR_take (i := 0) (v := ?_) (by simp only [List.getElem?_toArray, List.getElem?_cons_succ, List.getElem?_cons_zero]; rfl) (by kernel_rfl) (by kernel_rfl) (by kernel_rfl) (by first | exact fun _ _ _ h => h | exact fun _ _ _ h => by cases h.1) (Rws.grow _) (Or.inl ⟨by rfl, ?_⟩) hS ?_
  rotate_left
  · intro w' hS'
    simp only [Rws] at hS'
    go_simp
    refine ⟨?_, Below.refl _ _⟩
    rfl
  (try simp only [Act.put, List.setIfInBounds_toArray, List.set_cons_zero, List.set_cons_succ])
  refine wpAnyR_take (i := 1) (v := ?_) (by simp only [List.getElem?_toArray, List.getElem?_cons_succ, List.getElem?_cons_zero]; rfl) (by kernel_rfl) (by kernel_rfl) (by kernel_rfl) (by first | exact fun _ _ _ h => h | exact fun _ _ _ h => by cases h.1) (Rws.grow _) (Or.inl ⟨by rfl, ?_⟩) hS ?_
  rotate_left
  · intro w' hS'
    simp only [Rws] at hS'
    go_simp
    refine ⟨?_, Below.refl _ _⟩
    rfl
  (try simp only [Act.put, List.setIfInBounds_toArray, List.set_cons_zero, List.set_cons_succ])
  refine wpAnyR_take (i := 3) (v := ?_) (by simp only [List.getElem?_toArray, List.getElem?_cons_succ, List.getElem?_cons_zero]; rfl) (by kernel_rfl) (by kernel_rfl) (by kernel_rfl) (by first | exact fun _ _ _ h => h | exact fun _ _ _ h => by cases h.1) (Rws.grow _) (Or.inl ⟨by rfl, ?_⟩) hS ?_
  rotate_left
  · intro w' hS'
    simp only [Rws] at hS'
    go_simp
    refine ⟨?_, Below.refl _ _⟩
    rfl
  (try simp only [Act.put, List.setIfInBounds_toArray, List.set_cons_zero, List.set_cons_succ])
  refine wpAnyR_take (i := 4) (v := ?_) (by simp only [List.getElem?_toArray, List.getElem?_cons_succ, List.getElem?_cons_zero]; rfl) (by kernel_rfl) (by kernel_rfl) (by kernel_rfl) (by first | exact fun _ _ _ h => h | exact fun _ _ _ h => by cases h.1) (Rws.grow _) (Or.inl ⟨by rfl, ?_⟩) hS ?_
  rotate_left
  · intro w' hS'
    simp only [Rws] at hS'
    go_simp
    refine ⟨?_, Below.refl _ _⟩
    rfl
  (try simp only [Act.put, List.setIfInBounds_toArray, List.set_cons_zero, List.set_cons_succ])
  refine wpAnyR_take (i := 5) (v := ?_) (by simp only [List.getElem?_toArray, List.getElem?_cons_succ, List.getElem?_cons_zero]; rfl) (by kernel_rfl) (by kernel_rfl) (by kernel_rfl) (by first | exact fun _ _ _ h => h | exact fun _ _ _ h => by cases h.1) (Rws.grow _) (Or.inl ⟨by rfl, ?_⟩) hS ?_
  rotate_left
  · intro w' hS'
    simp only [Rws] at hS'
    go_simp
    refine ⟨?_, Below.refl _ _⟩
    rfl
  (try simp only [Act.put, List.setIfInBounds_toArray, List.set_cons_zero, List.set_cons_succ])
  refine wpAnyR_take (i := 2) (v := ?_) (by simp only [List.getElem?_toArray, List.getElem?_cons_succ, List.getElem?_cons_zero]; rfl) (by kernel_rfl) (by kernel_rfl) (by kernel_rfl) (by first | exact fun _ _ _ h => h | exact fun _ _ _ h => by cases h.1) (Rws.grow _) (Or.inl ⟨by rfl, ?_⟩) hS ?_
  rotate_left
  · intro w' hS'
    simp only [Rws] at hS'
    go_simp
    with_reducible refine (HN.out _).mono ?_
    rintro e w'' ⟨rfl, hb⟩
    refine ⟨_, rfl, ?_, hb⟩
    rfl
  (try simp only [Act.put, List.setIfInBounds_toArray, List.set_cons_zero, List.set_cons_succ])
  refine wpAnyR_take (i := 6) (v := ?_) (by simp only [List.getElem?_toArray, List.getElem?_cons_succ, List.getElem?_cons_zero]; rfl) (by kernel_rfl) (by kernel_rfl) (by kernel_rfl) (by first | exact fun _ _ _ h => h | exact fun _ _ _ h => by cases h.1) (Rws.grow _) (Or.inl ⟨by rfl, ?_⟩) hS ?_
  rotate_left
  · intro w' hS'
    simp only [Rws] at hS'
    go_simp
    with_reducible refine (HO.out _).mono ?_
    rintro e w'' ⟨rfl, hb⟩
    refine ⟨_, rfl, ?_, hb⟩
    rfl
  (try simp only [Act.put, List.setIfInBounds_toArray, List.set_cons_zero, List.set_cons_succ])
  refine wpAnyR_take (i := 7) (v := ?_) (by simp only [List.getElem?_toArray, List.getElem?_cons_succ, List.getElem?_cons_zero]; rfl) (by kernel_rfl) (by kernel_rfl) (by kernel_rfl) (by first | exact fun _ _ _ h => h | exact fun _ _ _ h => by cases h.1) (Rws.grow _) (Or.inl ⟨by rfl, ?_⟩) hS ?_
  rotate_left
  · intro w' hS'
    simp only [Rws] at hS'
    go_simp
    refine ⟨?_, Below.refl _ _⟩
    rfl
  (try simp only [Act.put, List.setIfInBounds_toArray, List.set_cons_zero, List.set_cons_succ])
  refine wpAnyR_take (i := 8) (v := ?_) (by simp only [List.getElem?_toArray, List.getElem?_cons_succ, List.getElem?_cons_zero]; rfl) (by kernel_rfl) (by kernel_rfl) (by kernel_rfl) (by first | exact fun _ _ _ h => h | exact fun _ _ _ h => by cases h.1) (Rws.grow _) (Or.inl ⟨by rfl, ?_⟩) hS ?_
  rotate_left
  · intro w' hS'
    simp only [Rws] at hS'
    go_simp
    refine ⟨?_, Below.refl _ _⟩
    rfl
  (try simp only [Act.put, List.setIfInBounds_toArray, List.set_cons_zero, List.set_cons_succ])
  refine wpAnyR_take (i := 9) (v := ?_) (by simp only [List.getElem?_toArray, List.getElem?_cons_succ, List.getElem?_cons_zero]; rfl) (by kernel_rfl) (by kernel_rfl) (by kernel_rfl) (by first | exact fun _ _ _ h => h | exact fun _ _ _ h => by cases h.1) (Rws.grow _) (Or.inl ⟨by rfl, ?_⟩) hS ?_
  rotate_left
  · intro w' hS'
    simp only [Rws] at hS'
    go_simp
    refine ⟨?_, Below.refl _ _⟩
    rfl
  (try simp only [Act.put, List.setIfInBounds_toArray, List.set_cons_zero, List.set_cons_succ])
  refine wpAnyR_take (i := 10) (v := ?_) (by simp only [List.getElem?_toArray, List.getElem?_cons_succ, List.getElem?_cons_zero]; rfl) (by kernel_rfl) (by kernel_rfl) (by kernel_rfl) (by first | exact fun _ _ _ h => h | exact fun _ _ _ h => by cases h.1) (Rws.grow _) (Or.inl ⟨by rfl, ?_⟩) hS ?_
  rotate_left
  · intro w' hS'
    simp only [Rws] at hS'
    go_simp
    refine ⟨?_, Below.refl _ _⟩
    rfl
  (try simp only [Act.put, List.setIfInBounds_toArray, List.set_cons_zero, List.set_cons_succ])
  refine wpAnyR_take (i := 11) (v := ?_) (by simp only [List.getElem?_toArray, List.getElem?_cons_succ, List.getElem?_cons_zero]; rfl) (by kernel_rfl) (by kernel_rfl) (by kernel_rfl) (by first | exact fun _ _ _ h => h | exact fun _ _ _ h => by cases h.1) (Rws.grow _) (Or.inl ⟨by rfl, ?_⟩) hS ?_
  rotate_left
  · intro w' hS'
    simp only [Rws] at hS'
    go_simp
    refine ⟨?_, Below.refl _ _⟩
    rfl
  (try simp only [Act.put, List.setIfInBounds_toArray, List.set_cons_zero, List.set_cons_succ])
  refine wpAnyR_done (by kernel_rfl) (fun w3 b3 => ?_) _
  replace b3 : Below (V).heap.size (V) w3 := below_step (Below.drew (Below.refl _ _)) b3
  go_wp2_with fail
  go_ret
  exact ⟨rfl, BV.trans (b3.mono (by omega))⟩
theorem u8_nat {n : Int} (h : IntKind.u8.has n) : ∃ y : UInt8, n = (y.toNat : Int) := by
  have h1 : 0 ≤ n ∧ n ≤ 255 := by simpa [IntKind.has, IntKind.min, IntKind.max, IntKind.bits, IntKind.signed] using h
  refine ⟨UInt8.ofNat n.toNat, ?_⟩
  rw [UInt8.toNat_ofNat']
  omega
theorem aeadSpoilt_walk (W : World) (base : Nat) (args : Array Value) (hlen : args.size = Try.f8.params.size) (hval : ∀ (j : Nat) t v, Try.f8.params[j]? = some t → args[j]? = some v → Value.okWide Try.prog W .any base t v) :
    Calls Try.prog 8 args W fun e W' => e = .returned (.bool true) ∧ Below W.heap.size W W' := by
  obtain ⟨l⟩ := args
  match l, hlen with
  | [v0, v1, v2, v3, v4, v5], _ =>
  obtain ⟨k, rfl, hk⟩ := open_key (hval 0 23 v0 rfl rfl)
  obtain ⟨n, rfl, hn⟩ := open_num Try.underlying24 (hval 1 24 v1 rfl rfl)
  obtain ⟨b, rfl, hb⟩ := open_str Try.underlying9 (hval 2 9 v2 rfl rfl)
  obtain ⟨s, rfl, hs⟩ := open_str Try.underlying9 (hval 3 9 v3 rfl rfl)
  obtain ⟨a, rfl, ha⟩ := open_num Try.underlying5 (hval 4 5 v4 rfl rfl)
  obtain ⟨y, rfl, hy⟩ := open_num Try.underlying5 (hval 5 5 v5 rfl rfl)
  obtain ⟨m, rfl⟩ := u64_nat hn
  obtain ⟨a, rfl⟩ := u8_nat ha
  obtain ⟨y, rfl⟩ := u8_nat hy
  by_cases h1 : b.length ≤ 400
  · by_cases h2 : s.length ≤ 400
    · by_cases h3 : y = 0
      · subst h3
        exact aeadSpoilt_zero k b s m _ W (by omega) (by omega)
      · exact aeadSpoilt_good k b s m a.toNat y W hk h1 h2 h3 a.toNat_lt
    · exact aeadSpoilt_long2 k b s m _ _ W (by omega) (by omega)
  · exact aeadSpoilt_long1 k b s m _ _ W (by omega)
end Go.Proofs.Ytjeclimoknilcaa
