/- The walks of the laws AeadBack, AeadTags, AeadNonces: what they have in common; AeadBack. -/
import Derived.Test.YtjeclimoknilcaaAeadO
import Derived.Test.YtjeclimoknilcaaFrame
set_option linter.unusedSimpArgs false
set_option linter.unusedVariables false
namespace Go.Proofs.Ytjeclimoknilcaa
open Go.ChangeShapes Go.WideShapes Go.ChangeAt Go.RowKit
theorem sealL_length (k nonce beside s : List UInt8) : (sealL k nonce beside s).length = s.length + 16 := by rw [sealL, List.length_append, maskL_length, tagL_length]
def z32 : List UInt8 := List.replicate 32 0
theorem u8s_z32 : u8s z32 = zeros 32 (.int .u8 0) := by simp [z32, u8s, zeros]
set_option maxRecDepth 20000 in
theorem awake05_any (w : World) : Calls Try.prog 10 #[] w fun e w' => e = .returned (.bool true) ∧ Below w.heap.size w w' := by
  have HN := Lib.hid (show ∀ w, Calls Try.prog 14 #[.int .u64 1] w fun e w' => e = .returned (.string ⟨(nonceL 1).toArray⟩) ∧ Below w.heap.size w w' from fun w => nonce_any 1 w)
  have hs := fun w => seal_any z32 (nonceL 1) [] [] w rfl (nonceL_length 1) (by simp) (by simp)
  have hl := sealL_length z32 (nonceL 1) [] []
  obtain ⟨s, es⟩ : ∃ s, sealL z32 (nonceL 1) [] [] = s := ⟨_, rfl⟩
  rw [es, u8s_z32] at hs
  rw [es] at hl
  have HS := Lib.hid hs
  have hl2 : s.length = 16 := hl
  clear hs hl es
  go_enter Try.func10, Try.ntmps10
  go_wp2_with fail
  (with_reducible refine (HN.out _).mono ?_)
  rintro e w1 ⟨rfl, b1⟩
  go_wp2_with fail
  refine (HS.out _).mono ?_
  rintro e w2 ⟨rfl, b2⟩
  go_wp2_with fail
  go_ret
  exact ⟨rfl, b1.trans (b2.mono b1.size)⟩
theorem u64_nat {n : Int} (h : IntKind.u64.has n) : ∃ m : Nat, n = (m : Int) := by
  have h1 : 0 ≤ n := by simpa [IntKind.min, IntKind.signed] using h.1
  exact ⟨n.toNat, by omega⟩
theorem open_key {W : World} {base : Nat} {v : Value} (h : Value.okWide Try.prog W .any base 23 v) : ∃ l : List UInt8, v = .agg (u8s l).toArray ∧ l.length = 32 := by
  obtain ⟨vs, hv, hg⟩ := open_plain (ls := leaves 32 (.int .u8) ++ []) Try.underlying23 rfl (by kernel_rfl) (by kernel_rfl) h
  obtain ⟨m, r, e, hr⟩ := goods_u8 hg
  have := goods_nil hr
  subst this
  exact ⟨m.toList, by rw [hv, e, List.append_nil]; rfl, by simp⟩
set_option maxRecDepth 20000 in
theorem aeadBack_long (k beside s : List UInt8) (n : Nat) (w : World) (h : 400 < beside.length ∨ 400 < s.length) (hb : beside.length ≤ maxLen) (hs : s.length ≤ maxLen) :
    Calls Try.prog 6 #[.agg (u8s k).toArray, .int .u64 n, .string ⟨beside.toArray⟩, .string ⟨s.toArray⟩] w fun e w' => e = .returned (.bool true) ∧ Below w.heap.size w w' := by
  by_cases h1 : 400 < beside.length
  · have g1 : (400 : Int) < beside.length := by omega
    clear h h1 hb hs
    go_enter Try.func6, Try.ntmps6
    go_wp2_with fail
    (with_reducible refine (awake05_any _).mono ?_)
    rintro e w1 ⟨rfl, b1⟩
    go_wp2_with fail
    (with_reducible refine (awake05_any _).mono ?_)
    rintro e w2 ⟨rfl, b2⟩
    go_wp2_with fail
    go_ret
    exact ⟨rfl, Below.trans (by (repeat (first | exact Below.refl _ _ | refine Below.alloc ?_ (by first | (simp; done) | (simp; omega) | omega) _ | refine Below.drew ?_ | refine Below.setRow ?_ (by first | (simp; done) | (simp; omega) | omega) _ | refine Below.setCell ?_ (by first | (simp; done) | (simp; omega) | omega) _))) (Below.trans (b1.mono (by simp)) (b2.mono (by have := b1.size; simp at this; omega)))⟩
  · have g1 : ¬ (400 : Int) < beside.length := by omega
    have g2 : (400 : Int) < s.length := by omega
    clear h h1 hb hs
    go_enter Try.func6, Try.ntmps6
    go_wp2_with fail
    (with_reducible refine (awake05_any _).mono ?_)
    rintro e w1 ⟨rfl, b1⟩
    go_wp2_with fail
    (with_reducible refine (awake05_any _).mono ?_)
    rintro e w2 ⟨rfl, b2⟩
    go_wp2_with fail
    go_ret
    exact ⟨rfl, Below.trans (by (repeat (first | exact Below.refl _ _ | refine Below.alloc ?_ (by first | (simp; done) | (simp; omega) | omega) _ | refine Below.drew ?_ | refine Below.setRow ?_ (by first | (simp; done) | (simp; omega) | omega) _ | refine Below.setCell ?_ (by first | (simp; done) | (simp; omega) | omega) _))) (Below.trans (b1.mono (by simp)) (b2.mono (by have := b1.size; simp at this; omega)))⟩
set_option maxRecDepth 20000 in
set_option maxHeartbeats 1000000 in
theorem aeadBack_good (k beside s : List UInt8) (n : Nat) (w : World) (hk : k.length = 32) (hb : beside.length ≤ 400) (hs : s.length ≤ 400) :
    Calls Try.prog 6 #[.agg (u8s k).toArray, .int .u64 n, .string ⟨beside.toArray⟩, .string ⟨s.toArray⟩] w fun e w' => e = .returned (.bool true) ∧ Below w.heap.size w w' := by
  have HN := Lib.hid (fun w => nonce_any n w)
  have hseal := fun w => seal_any k (nonceL n) beside s w hk (nonceL_length n) (by omega) (by omega)
  have hopen := fun w => open_yes k (nonceL n) beside (maskL k 1 (nonceL n) s) (tagL k (nonceL n) beside (maskL k 1 (nonceL n) s)) w hk (nonceL_length n) (by omega) (by rw [maskL_length]; omega) (tagL_length _ _ _ _) rfl
  rw [maskL_back] at hopen
  have hl := sealL_length k (nonceL n) beside s
  obtain ⟨c, ec⟩ : ∃ c, sealL k (nonceL n) beside s = c := ⟨_, rfl⟩
  rw [ec] at hseal hl
  have ec2 : maskL k 1 (nonceL n) s ++ tagL k (nonceL n) beside (maskL k 1 (nonceL n) s) = c := ec
  rw [ec2] at hopen
  have HS := Lib.hid hseal
  have HO := Lib.hid hopen
  obtain ⟨m, em⟩ : ∃ m, nonceL n = m := ⟨_, rfl⟩
  rw [em] at HN HS HO
  clear hseal hopen ec ec2 em
  have g1 : ¬ (400 : Int) < beside.length := by omega
  have g2 : ¬ (400 : Int) < s.length := by omega
  have g3 : (s.length : Int) ≤ 400 := by omega
  clear hb hs
  go_enter Try.func6, Try.ntmps6
  go_wp2_with fail
  (with_reducible refine (awake05_any _).mono ?_)
  rintro e w1 ⟨rfl, b1⟩
  have z1 := b1.size
  simp at z1
  have r1 : row w1 w.heap.size = (u8s k).toArray := by rw [row_below b1 (by simp)]; simp [go_sem]
  have B1 : Below w.heap.size w w1 := Below.trans (by (repeat (first | exact Below.refl _ _ | refine Below.alloc ?_ (by first | (simp; done) | (simp; omega) | omega) _ | refine Below.drew ?_ | refine Below.setRow ?_ (by first | (simp; done) | (simp; omega) | omega) _ | refine Below.setCell ?_ (by first | (simp; done) | (simp; omega) | omega) _))) (b1.mono (by simp))
  clear b1
  go_wp2_with fail
  refine wp_region_beginR [(w.heap.size, (u8s k).toArray)] rfl (by simp only [Rws]; (repeat (first | exact trivial | refine ⟨(by first | assumption | (simp [go_sem, *]; done)), (by first | omega | (simp; done) | (simp; omega)), ?_⟩))) (fun hS => ?_)
  refine wpAnyR_take (i := 0) (v := ?_) (by simp only [List.getElem?_toArray, List.getElem?_cons_succ, List.getElem?_cons_zero]; rfl) (by kernel_rfl) (by kernel_rfl) (by kernel_rfl) (by first | exact fun _ _ _ h => h | exact fun _ _ _ h => by cases h.1) (Rws.grow _) (Or.inl ⟨by rfl, ?_⟩) hS ?_
  rotate_left
  · intro w' hS'
    simp only [Rws] at hS'
    go_simp
    refine ⟨?_, Below.refl _ _⟩
    rfl
  (try simp only [Act.put, List.setIfInBounds_toArray, List.set_cons_zero, List.set_cons_succ])
  refine wpAnyR_take (i := 1) (v := ?_) (by simp only [List.getElem?_toArray, List.getElem?_cons_succ, List.getElem?_cons_zero]; rfl) (by kernel_rfl) (by kernel_rfl) (by kernel_rfl) (by first | exact fun _ _ _ h => h | exact fun _ _ _ h => by cases h.1) (Rws.grow _) (Or.inl ⟨by rfl, ?_⟩) hS ?_
  rotate_left
  · intro w' hS'
    simp only [Rws] at hS'
    go_simp
    refine ⟨?_, Below.refl _ _⟩
    rfl
  (try simp only [Act.put, List.setIfInBounds_toArray, List.set_cons_zero, List.set_cons_succ])
  refine wpAnyR_take (i := 3) (v := ?_) (by simp only [List.getElem?_toArray, List.getElem?_cons_succ, List.getElem?_cons_zero]; rfl) (by kernel_rfl) (by kernel_rfl) (by kernel_rfl) (by first | exact fun _ _ _ h => h | exact fun _ _ _ h => by cases h.1) (Rws.grow _) (Or.inl ⟨by rfl, ?_⟩) hS ?_
  rotate_left
  · intro w' hS'
    simp only [Rws] at hS'
    go_simp
    refine ⟨?_, Below.refl _ _⟩
    rfl
  (try simp only [Act.put, List.setIfInBounds_toArray, List.set_cons_zero, List.set_cons_succ])
  refine wpAnyR_take (i := 4) (v := ?_) (by simp only [List.getElem?_toArray, List.getElem?_cons_succ, List.getElem?_cons_zero]; rfl) (by kernel_rfl) (by kernel_rfl) (by kernel_rfl) (by first | exact fun _ _ _ h => h | exact fun _ _ _ h => by cases h.1) (Rws.grow _) (Or.inl ⟨by rfl, ?_⟩) hS ?_
  rotate_left
  · intro w' hS'
    simp only [Rws] at hS'
    go_simp
    refine ⟨?_, Below.refl _ _⟩
    rfl
  (try simp only [Act.put, List.setIfInBounds_toArray, List.set_cons_zero, List.set_cons_succ])
  refine wpAnyR_take (i := 2) (v := ?_) (by simp only [List.getElem?_toArray, List.getElem?_cons_succ, List.getElem?_cons_zero]; rfl) (by kernel_rfl) (by kernel_rfl) (by kernel_rfl) (by first | exact fun _ _ _ h => h | exact fun _ _ _ h => by cases h.1) (Rws.grow _) (Or.inl ⟨by rfl, ?_⟩) hS ?_
  rotate_left
  · intro w' hS'
    simp only [Rws] at hS'
    go_simp
    with_reducible refine (HN.out _).mono ?_
    rintro e w'' ⟨rfl, hb⟩
    refine ⟨_, rfl, ?_, hb⟩
    rfl
  (try simp only [Act.put, List.setIfInBounds_toArray, List.set_cons_zero, List.set_cons_succ])
  refine wpAnyR_take (i := 5) (v := ?_) (by simp only [List.getElem?_toArray, List.getElem?_cons_succ, List.getElem?_cons_zero]; rfl) (by kernel_rfl) (by kernel_rfl) (by kernel_rfl) (by first | exact fun _ _ _ h => h | exact fun _ _ _ h => by cases h.1) (Rws.grow _) (Or.inl ⟨by rfl, ?_⟩) hS ?_
  rotate_left
  · intro w' hS'
    simp only [Rws] at hS'
    go_simp
    with_reducible refine (HS.out _).mono ?_
    rintro e w'' ⟨rfl, hb⟩
    refine ⟨_, rfl, ?_, hb⟩
    rfl
  (try simp only [Act.put, List.setIfInBounds_toArray, List.set_cons_zero, List.set_cons_succ])
  refine wpAnyR_take (i := 6) (v := ?_) (by simp only [List.getElem?_toArray, List.getElem?_cons_succ, List.getElem?_cons_zero]; rfl) (by kernel_rfl) (by kernel_rfl) (by kernel_rfl) (by first | exact fun _ _ _ h => h | exact fun _ _ _ h => by cases h.1) (Rws.grow _) (Or.inl ⟨by rfl, ?_⟩) hS ?_
  rotate_left
  · intro w' hS'
    simp only [Rws] at hS'
    go_simp
    refine ⟨?_, Below.refl _ _⟩
    rfl
  (try simp only [Act.put, List.setIfInBounds_toArray, List.set_cons_zero, List.set_cons_succ])
  refine wpAnyR_take (i := 7) (v := ?_) (by simp only [List.getElem?_toArray, List.getElem?_cons_succ, List.getElem?_cons_zero]; rfl) (by kernel_rfl) (by kernel_rfl) (by kernel_rfl) (by first | exact fun _ _ _ h => h | exact fun _ _ _ h => by cases h.1) (Rws.grow _) (Or.inl ⟨by rfl, ?_⟩) hS ?_
  rotate_left
  · intro w' hS'
    simp only [Rws] at hS'
    go_simp
    refine ⟨?_, Below.refl _ _⟩
    rfl
  (try simp only [Act.put, List.setIfInBounds_toArray, List.set_cons_zero, List.set_cons_succ])
  refine wpAnyR_take (i := 8) (v := ?_) (by simp only [List.getElem?_toArray, List.getElem?_cons_succ, List.getElem?_cons_zero]; rfl) (by kernel_rfl) (by kernel_rfl) (by kernel_rfl) (by first | exact fun _ _ _ h => h | exact fun _ _ _ h => by cases h.1) (Rws.grow _) (Or.inl ⟨by rfl, ?_⟩) hS ?_
  rotate_left
  · intro w' hS'
    simp only [Rws] at hS'
    go_simp
    refine ⟨?_, Below.refl _ _⟩
    rfl
  (try simp only [Act.put, List.setIfInBounds_toArray, List.set_cons_zero, List.set_cons_succ])
  refine wpAnyR_take (i := 9) (v := ?_) (by simp only [List.getElem?_toArray, List.getElem?_cons_succ, List.getElem?_cons_zero]; rfl) (by kernel_rfl) (by kernel_rfl) (by kernel_rfl) (by first | exact fun _ _ _ h => h | exact fun _ _ _ h => by cases h.1) (Rws.grow _) (Or.inl ⟨by rfl, ?_⟩) hS ?_
  rotate_left
  · intro w' hS'
    simp only [Rws] at hS'
    go_simp
    refine ⟨?_, Below.refl _ _⟩
    rfl
  (try simp only [Act.put, List.setIfInBounds_toArray, List.set_cons_zero, List.set_cons_succ])
  refine wpAnyR_take (i := 10) (v := ?_) (by simp only [List.getElem?_toArray, List.getElem?_cons_succ, List.getElem?_cons_zero]; rfl) (by kernel_rfl) (by kernel_rfl) (by kernel_rfl) (by first | exact fun _ _ _ h => h | exact fun _ _ _ h => by cases h.1) (Rws.grow _) (Or.inl ⟨by rfl, ?_⟩) hS ?_
  rotate_left
  · intro w' hS'
    simp only [Rws] at hS'
    go_simp
    refine ⟨?_, Below.refl _ _⟩
    rfl
  (try simp only [Act.put, List.setIfInBounds_toArray, List.set_cons_zero, List.set_cons_succ])
  refine wpAnyR_done (by kernel_rfl) (fun w2 b2 => ?_) _
  replace b2 : Below (w1).heap.size (w1) w2 := below_step (Below.drew (Below.refl _ _)) b2
  have z2 := b2.size
  have r2 : row w2 w.heap.size = (u8s k).toArray := by rw [row_below b2 (by omega)]; exact r1
  go_wp2_with fail
  refine wp_region_beginR [(w.heap.size, (u8s k).toArray)] rfl (by simp only [Rws]; (repeat (first | exact trivial | refine ⟨(by first | assumption | (simp [go_sem, *]; done)), (by first | omega | (simp; done) | (simp; omega)), ?_⟩))) (fun hS => ?_)
  refine wpAnyR_take (i := 0) (v := ?_) (by simp only [List.getElem?_toArray, List.getElem?_cons_succ, List.getElem?_cons_zero]; rfl) (by kernel_rfl) (by kernel_rfl) (by kernel_rfl) (by first | exact fun _ _ _ h => h | exact fun _ _ _ h => by cases h.1) (Rws.grow _) (Or.inl ⟨by rfl, ?_⟩) hS ?_
  rotate_left
  · intro w' hS'
    simp only [Rws] at hS'
    go_simp
    refine ⟨?_, Below.refl _ _⟩
    rfl
  (try simp only [Act.put, List.setIfInBounds_toArray, List.set_cons_zero, List.set_cons_succ])
  refine wpAnyR_take (i := 1) (v := ?_) (by simp only [List.getElem?_toArray, List.getElem?_cons_succ, List.getElem?_cons_zero]; rfl) (by kernel_rfl) (by kernel_rfl) (by kernel_rfl) (by first | exact fun _ _ _ h => h | exact fun _ _ _ h => by cases h.1) (Rws.grow _) (Or.inl ⟨by rfl, ?_⟩) hS ?_
  rotate_left
  · intro w' hS'
    simp only [Rws] at hS'
    go_simp
    refine ⟨?_, Below.refl _ _⟩
    rfl
  (try simp only [Act.put, List.setIfInBounds_toArray, List.set_cons_zero, List.set_cons_succ])
  refine wpAnyR_take (i := 3) (v := ?_) (by simp only [List.getElem?_toArray, List.getElem?_cons_succ, List.getElem?_cons_zero]; rfl) (by kernel_rfl) (by kernel_rfl) (by kernel_rfl) (by first | exact fun _ _ _ h => h | exact fun _ _ _ h => by cases h.1) (Rws.grow _) (Or.inl ⟨by rfl, ?_⟩) hS ?_
  rotate_left
  · intro w' hS'
    simp only [Rws] at hS'
    go_simp
    refine ⟨?_, Below.refl _ _⟩
    rfl
  (try simp only [Act.put, List.setIfInBounds_toArray, List.set_cons_zero, List.set_cons_succ])
  refine wpAnyR_take (i := 4) (v := ?_) (by simp only [List.getElem?_toArray, List.getElem?_cons_succ, List.getElem?_cons_zero]; rfl) (by kernel_rfl) (by kernel_rfl) (by kernel_rfl) (by first | exact fun _ _ _ h => h | exact fun _ _ _ h => by cases h.1) (Rws.grow _) (Or.inl ⟨by rfl, ?_⟩) hS ?_
  rotate_left
  · intro w' hS'
    simp only [Rws] at hS'
    go_simp
    refine ⟨?_, Below.refl _ _⟩
    rfl
  (try simp only [Act.put, List.setIfInBounds_toArray, List.set_cons_zero, List.set_cons_succ])
  refine wpAnyR_take (i := 2) (v := ?_) (by simp only [List.getElem?_toArray, List.getElem?_cons_succ, List.getElem?_cons_zero]; rfl) (by kernel_rfl) (by kernel_rfl) (by kernel_rfl) (by first | exact fun _ _ _ h => h | exact fun _ _ _ h => by cases h.1) (Rws.grow _) (Or.inl ⟨by rfl, ?_⟩) hS ?_
  rotate_left
  · intro w' hS'
    simp only [Rws] at hS'
    go_simp
    with_reducible refine (HN.out _).mono ?_
    rintro e w'' ⟨rfl, hb⟩
    refine ⟨_, rfl, ?_, hb⟩
    rfl
  (try simp only [Act.put, List.setIfInBounds_toArray, List.set_cons_zero, List.set_cons_succ])
  refine wpAnyR_take (i := 5) (v := ?_) (by simp only [List.getElem?_toArray, List.getElem?_cons_succ, List.getElem?_cons_zero]; rfl) (by kernel_rfl) (by kernel_rfl) (by kernel_rfl) (by first | exact fun _ _ _ h => h | exact fun _ _ _ h => by cases h.1) (Rws.grow _) (Or.inl ⟨by rfl, ?_⟩) hS ?_
  rotate_left
  · intro w' hS'
    simp only [Rws] at hS'
    go_simp
    with_reducible refine (HO.out _).mono ?_
    rintro e w'' ⟨rfl, hb⟩
    refine ⟨_, rfl, ?_, hb⟩
    rfl
  (try simp only [Act.put, List.setIfInBounds_toArray, List.set_cons_zero, List.set_cons_succ])
  refine wpAnyR_take (i := 6) (v := ?_) (by simp only [List.getElem?_toArray, List.getElem?_cons_succ, List.getElem?_cons_zero]; rfl) (by kernel_rfl) (by kernel_rfl) (by kernel_rfl) (by first | exact fun _ _ _ h => h | exact fun _ _ _ h => by cases h.1) (Rws.grow _) (Or.inl ⟨by rfl, ?_⟩) hS ?_
  rotate_left
  · intro w' hS'
    simp only [Rws] at hS'
    go_simp
    refine ⟨?_, Below.refl _ _⟩
    rfl
  (try simp only [Act.put, List.setIfInBounds_toArray, List.set_cons_zero, List.set_cons_succ])
  refine wpAnyR_take (i := 7) (v := ?_) (by simp only [List.getElem?_toArray, List.getElem?_cons_succ, List.getElem?_cons_zero]; rfl) (by kernel_rfl) (by kernel_rfl) (by kernel_rfl) (by first | exact fun _ _ _ h => h | exact fun _ _ _ h => by cases h.1) (Rws.grow _) (Or.inl ⟨by rfl, ?_⟩) hS ?_
  rotate_left
  · intro w' hS'
    simp only [Rws] at hS'
    go_simp
    refine ⟨?_, Below.refl _ _⟩
    rfl
  (try simp only [Act.put, List.setIfInBounds_toArray, List.set_cons_zero, List.set_cons_succ])
  refine wpAnyR_take (i := 8) (v := ?_) (by simp only [List.getElem?_toArray, List.getElem?_cons_succ, List.getElem?_cons_zero]; rfl) (by kernel_rfl) (by kernel_rfl) (by kernel_rfl) (by first | exact fun _ _ _ h => h | exact fun _ _ _ h => by cases h.1) (Rws.grow _) (Or.inl ⟨by rfl, ?_⟩) hS ?_
  rotate_left
  · intro w' hS'
    simp only [Rws] at hS'
    go_simp
    refine ⟨?_, Below.refl _ _⟩
    rfl
  (try simp only [Act.put, List.setIfInBounds_toArray, List.set_cons_zero, List.set_cons_succ])
  refine wpAnyR_take (i := 9) (v := ?_) (by simp only [List.getElem?_toArray, List.getElem?_cons_succ, List.getElem?_cons_zero]; rfl) (by kernel_rfl) (by kernel_rfl) (by kernel_rfl) (by first | exact fun _ _ _ h => h | exact fun _ _ _ h => by cases h.1) (Rws.grow _) (Or.inl ⟨by rfl, ?_⟩) hS ?_
  rotate_left
  · intro w' hS'
    simp only [Rws] at hS'
    go_simp
    refine ⟨?_, Below.refl _ _⟩
    rfl
  (try simp only [Act.put, List.setIfInBounds_toArray, List.set_cons_zero, List.set_cons_succ])
  refine wpAnyR_take (i := 10) (v := ?_) (by simp only [List.getElem?_toArray, List.getElem?_cons_succ, List.getElem?_cons_zero]; rfl) (by kernel_rfl) (by kernel_rfl) (by kernel_rfl) (by first | exact fun _ _ _ h => h | exact fun _ _ _ h => by cases h.1) (Rws.grow _) (Or.inl ⟨by rfl, ?_⟩) hS ?_
  rotate_left
  · intro w' hS'
    simp only [Rws] at hS'
    go_simp
    refine ⟨?_, Below.refl _ _⟩
    rfl
  (try simp only [Act.put, List.setIfInBounds_toArray, List.set_cons_zero, List.set_cons_succ])
  refine wpAnyR_done (by kernel_rfl) (fun w3 b3 => ?_) _
  replace b3 : Below (w2).heap.size (w2) w3 := below_step (Below.drew (Below.refl _ _)) b3
  go_wp2_with fail
  go_ret
  exact ⟨rfl, B1.trans (Below.trans (b2.mono (by omega)) (b3.mono (by omega)))⟩
theorem aeadBack_walk (W : World) (base : Nat) (args : Array Value) (hlen : args.size = Try.f6.params.size) (hval : ∀ (j : Nat) t v, Try.f6.params[j]? = some t → args[j]? = some v → Value.okWide Try.prog W .any base t v) :
    Calls Try.prog 6 args W fun e W' => e = .returned (.bool true) ∧ Below W.heap.size W W' := by
  obtain ⟨l⟩ := args
  match l, hlen with
  | [v0, v1, v2, v3], _ =>
  obtain ⟨k, rfl, hk⟩ := open_key (hval 0 23 v0 rfl rfl)
  obtain ⟨n, rfl, hn⟩ := open_num Try.underlying24 (hval 1 24 v1 rfl rfl)
  obtain ⟨b, rfl, hb⟩ := open_str Try.underlying9 (hval 2 9 v2 rfl rfl)
  obtain ⟨s, rfl, hs⟩ := open_str Try.underlying9 (hval 3 9 v3 rfl rfl)
  obtain ⟨m, rfl⟩ := u64_nat hn
  by_cases h : b.length ≤ 400 ∧ s.length ≤ 400
  · exact aeadBack_good k b s m W hk h.1 h.2
  · exact aeadBack_long k b s m W (by omega) hb hs
end Go.Proofs.Ytjeclimoknilcaa
