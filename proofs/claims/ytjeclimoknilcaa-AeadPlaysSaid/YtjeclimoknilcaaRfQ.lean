/- Contracts of the reference of chapter 3: a quarter. -/
import Derived.Test.YtjeclimoknilcaaRfA
import Derived.Test.YtjeclimoknilcaaChaD
set_option linter.unusedSimpArgs false
set_option linter.unusedVariables false
namespace Go.Proofs.Ytjeclimoknilcaa
open Go.RowKit
theorem leftR_any (x : Int) (n : Nat) (w : World) (h0 : 0 ≤ x) (h : x < 4294967296) (hn : n ≤ 31) :
    Calls Try.prog 55 #[.int .u32 x, .int .i64 n] w fun e w' => e = .returned (.int .u32 (rotI x n)) ∧ Below w.heap.size w w' := by
  refine (left_any x n w h0 h (by omega)).mono ?_
  rintro e w' ⟨rfl, rfl⟩
  exact ⟨by rw [left_sum n hn x h0 h, rot_leftS n hn x h0 h], Below.refl _ _⟩
theorem u32_get (L : List Int) (i : Nat) (h : i < L.length) : (u32s L)[i]'(by simpa using h) = .int .u32 L[i] := by simp
theorem leftR_lit (x : Int) (n : Nat) (m : Int) (hm : m = (n : Int)) (w : World) (h0 : 0 ≤ x) (h : x < 4294967296) (hn : n ≤ 31) :
    Calls Try.prog 55 #[.int .u32 x, .int .i64 m] w fun e w' => e = .returned (.int .u32 (rotI x n)) ∧ Below w.heap.size w w' := by
  subst hm
  exact leftR_any x n w h0 h hn
theorem bits32 (op : BinOp) (x y : Int) : 0 ≤ bits op .u32 x y ∧ bits op .u32 x y < 4294967296 := by
  unfold bits
  split <;> (rw [IntKind.wrap_u32]; omega)
theorem getD_elemI (l : List Int) (i : Nat) (h : i < l.length) : l.getD i 0 = l[i] := by simp [List.getD_eq_getElem?_getD, h]
/-- a word and another one -/
def addR (l : List Int) (a b : Nat) : List Int := l.set a ((l.getD a 0 + l.getD b 0) % 4294967296)
/-- a word against another one, turned -/
def xorL (l : List Int) (d a n : Nat) : List Int := l.set d (rotI (bits .xor .u32 (l.getD d 0) (l.getD a 0)) n)
theorem addR_length (l : List Int) (a b : Nat) : (addR l a b).length = l.length := by simp [addR]
theorem xorL_length (l : List Int) (a b n : Nat) : (xorL l a b n).length = l.length := by simp [xorL]
/-- a quarter, as the reference makes it -/
def quarL (l : List Int) (a b c d : Nat) : List Int :=
  xorL (addR (xorL (addR (xorL (addR (xorL (addR l a b) d a 16) c d) b c 12) a b) d a 8) c d) b c 7
set_option maxRecDepth 20000 in
set_option maxHeartbeats 2000000 in
theorem quarterR_any (l : List Int) (a b c d : Nat) (w : World) (hl : l.length = 16) (ha : a < 16) (hb : b < 16) (hc : c < 16) (hd : d < 16) :
    Calls Try.prog 38 #[.agg (u32s l).toArray, .int .i64 a, .int .i64 b, .int .i64 c, .int .i64 d] w fun e w' => e = .returned (.agg (u32s (quarL l a b c d)).toArray) ∧ Below w.heap.size w w' := by
  have ia : (a : Int) < 16 := by omega
  have ib : (b : Int) < 16 := by omega
  have ic : (c : Int) < 16 := by omega
  have id : (d : Int) < 16 := by omega
  obtain ⟨l1, e1⟩ : ∃ x, addR l a b = x := ⟨_, rfl⟩
  obtain ⟨l2, e2⟩ : ∃ x, xorL l1 d a 16 = x := ⟨_, rfl⟩
  obtain ⟨l3, e3⟩ : ∃ x, addR l2 c d = x := ⟨_, rfl⟩
  obtain ⟨l4, e4⟩ : ∃ x, xorL l3 b c 12 = x := ⟨_, rfl⟩
  obtain ⟨l5, e5⟩ : ∃ x, addR l4 a b = x := ⟨_, rfl⟩
  obtain ⟨l6, e6⟩ : ∃ x, xorL l5 d a 8 = x := ⟨_, rfl⟩
  obtain ⟨l7, e7⟩ : ∃ x, addR l6 c d = x := ⟨_, rfl⟩
  obtain ⟨l8, e8⟩ : ∃ x, xorL l7 b c 7 = x := ⟨_, rfl⟩
  have e9 : quarL l a b c d = l8 := by rw [quarL, e1, e2, e3, e4, e5, e6, e7, e8]
  rw [e9]
  have n1 : l1.length = 16 := by rw [← e1, addR_length]; exact hl
  have n2 : l2.length = 16 := by rw [← e2, xorL_length]; exact n1
  have n3 : l3.length = 16 := by rw [← e3, addR_length]; exact n2
  have n4 : l4.length = 16 := by rw [← e4, xorL_length]; exact n3
  have n5 : l5.length = 16 := by rw [← e5, addR_length]; exact n4
  have n6 : l6.length = 16 := by rw [← e6, xorL_length]; exact n5
  have n7 : l7.length = 16 := by rw [← e7, addR_length]; exact n6
  have n8 : l8.length = 16 := by rw [← e8, xorL_length]; exact n7
  have E1 := Lib.hid e1
  have E2 := Lib.hid e2
  have E3 := Lib.hid e3
  have E4 := Lib.hid e4
  have E5 := Lib.hid e5
  have E6 := Lib.hid e6
  have E7 := Lib.hid e7
  have E8 := Lib.hid e8
  clear e1 e2 e3 e4 e5 e6 e7 e8 e9
  go_enter Try.func38, Try.ntmps38
  go_wp2_with fail
  obtain ⟨w0, h0⟩ : ∃ x, ((w.alloc (.cells (u32s l).toArray 69)).alloc (.cells (zeros 16 (Value.int .u32 0)).toArray 69)) = x := ⟨_, rfl⟩
  have r0 : row w0 w.heap.size = (u32s l).toArray := by rw [← h0]; simp [go_sem]
  have s0 : row w0 (w.heap.size + 1) = (zeros 16 (Value.int .u32 0)).toArray := by rw [← h0]; simp [go_sem]
  have z0 : w0.heap.size = w.heap.size + 2 := by rw [← h0]; simp
  have b0 : Below w.heap.size w w0 := by
    rw [← h0]
    (repeat (first | exact Below.refl _ _ | refine Below.alloc ?_ (by first | (simp; done) | (simp; omega) | omega) _ | refine Below.drew ?_ | refine Below.setRow ?_ (by first | (simp; done) | (simp; omega) | omega) _ | refine Below.setCell ?_ (by first | (simp; done) | (simp; omega) | omega) _))
  rw [h0]
  clear h0
  have x1 : a < (l).length := by omega
  have x2 : b < (l).length := by omega
  refine wp_region_beginK 9 [(w.heap.size, (u32s l).toArray)] [] rfl (by simp only [Rws]; (repeat (first | exact trivial | refine ⟨(by first | assumption | (simp [go_sem, *]; done)), (by first | omega | (simp; done) | (simp; omega)), ?_⟩))) (fun hS => ?_)
  refine wpAnyK_take (i := 0) (v := ?_) (by simp only [List.getElem?_toArray, List.getElem?_cons_succ, List.getElem?_cons_zero]; rfl) (by kernel_rfl) (by kernel_rfl) (by kernel_rfl) (by kernel_rfl) (by first | exact fun _ _ _ h => h | exact fun _ _ _ h => by cases h.1) (Rws.grow _) (Or.inl ⟨by rfl, ?_⟩) hS ?_
  rotate_left
  · intro w' hS'
    simp only [Rws] at hS'
    go_simp
    refine ⟨?_, Below.refl _ _⟩
    rfl
  (try simp only [Act.put, List.setIfInBounds_toArray, List.set_cons_zero, List.set_cons_succ])
  refine wpAnyK_take (i := 1) (v := ?_) (by simp only [List.getElem?_toArray, List.getElem?_cons_succ, List.getElem?_cons_zero]; rfl) (by kernel_rfl) (by kernel_rfl) (by kernel_rfl) (by kernel_rfl) (by first | exact fun _ _ _ h => h | exact fun _ _ _ h => by cases h.1) (Rws.grow _) (Or.inl ⟨by rfl, ?_⟩) hS ?_
  rotate_left
  · intro w' hS'
    simp only [Rws] at hS'
    go_simp
    refine ⟨?_, Below.refl _ _⟩
    rfl
  (try simp only [Act.put, List.setIfInBounds_toArray, List.set_cons_zero, List.set_cons_succ])
  refine wpAnyK_take (i := 2) (v := ?_) (by simp only [List.getElem?_toArray, List.getElem?_cons_succ, List.getElem?_cons_zero]; rfl) (by kernel_rfl) (by kernel_rfl) (by kernel_rfl) (by kernel_rfl) (by first | exact fun _ _ _ h => h | exact fun _ _ _ h => by cases h.1) (Rws.grow _) (Or.inl ⟨by rfl, ?_⟩) hS ?_
  rotate_left
  · intro w' hS'
    simp only [Rws] at hS'
    go_simp
    refine ⟨?_, Below.refl _ _⟩
    rfl
  (try simp only [Act.put, List.setIfInBounds_toArray, List.set_cons_zero, List.set_cons_succ])
  refine wpAnyK_take (i := 3) (v := ?_) (by simp only [List.getElem?_toArray, List.getElem?_cons_succ, List.getElem?_cons_zero]; rfl) (by kernel_rfl) (by kernel_rfl) (by kernel_rfl) (by kernel_rfl) (by first | exact fun _ _ _ h => h | exact fun _ _ _ h => by cases h.1) (Rws.grow _) (Or.inl ⟨by rfl, ?_⟩) hS ?_
  rotate_left
  · intro w' hS'
    simp only [Rws] at hS'
    go_simp
    refine ⟨?_, Below.refl _ _⟩
    rfl
  (try simp only [Act.put, List.setIfInBounds_toArray, List.set_cons_zero, List.set_cons_succ])
  refine wpAnyK_take (i := 4) (v := ?_) (by simp only [List.getElem?_toArray, List.getElem?_cons_succ, List.getElem?_cons_zero]; rfl) (by kernel_rfl) (by kernel_rfl) (by kernel_rfl) (by kernel_rfl) (by first | exact fun _ _ _ h => h | exact fun _ _ _ h => by cases h.1) (Rws.grow _) (Or.inl ⟨by rfl, ?_⟩) hS ?_
  rotate_left
  · intro w' hS'
    simp only [Rws] at hS'
    go_simp
    refine ⟨?_, Below.refl _ _⟩
    rfl
  (try simp only [Act.put, List.setIfInBounds_toArray, List.set_cons_zero, List.set_cons_succ])
  refine wpAnyK_take (i := 5) (v := ?_) (by simp only [List.getElem?_toArray, List.getElem?_cons_succ, List.getElem?_cons_zero]; rfl) (by kernel_rfl) (by kernel_rfl) (by kernel_rfl) (by kernel_rfl) (by first | exact fun _ _ _ h => h | exact fun _ _ _ h => by cases h.1) (Rws.grow _) (Or.inl ⟨by rfl, ?_⟩) hS ?_
  rotate_left
  · intro w' hS'
    simp only [Rws] at hS'
    go_simp
    refine ⟨?_, Below.refl _ _⟩
    rfl
  (try simp only [Act.put, List.setIfInBounds_toArray, List.set_cons_zero, List.set_cons_succ])
  refine wpAnyK_take (i := 6) (v := ?_) (by simp only [List.getElem?_toArray, List.getElem?_cons_succ, List.getElem?_cons_zero]; rfl) (by kernel_rfl) (by kernel_rfl) (by kernel_rfl) (by kernel_rfl) (by first | exact fun _ _ _ h => h | exact fun _ _ _ h => by cases h.1) (Rws.grow _) (Or.inl ⟨by rfl, ?_⟩) hS ?_
  rotate_left
  · intro w' hS'
    simp only [Rws] at hS'
    go_simp
    refine ⟨?_, Below.refl _ _⟩
    rfl
  (try simp only [Act.put, List.setIfInBounds_toArray, List.set_cons_zero, List.set_cons_succ])
  refine wpAnyK_take (i := 7) (v := ?_) (by simp only [List.getElem?_toArray, List.getElem?_cons_succ, List.getElem?_cons_zero]; rfl) (by kernel_rfl) (by kernel_rfl) (by kernel_rfl) (by kernel_rfl) (by first | exact fun _ _ _ h => h | exact fun _ _ _ h => by cases h.1) (Rws.grow _) (Or.inl ⟨by rfl, ?_⟩) hS ?_
  rotate_left
  · intro w' hS'
    simp only [Rws] at hS'
    go_simp
    refine ⟨?_, Below.refl _ _⟩
    rfl
  (try simp only [Act.put, List.setIfInBounds_toArray, List.set_cons_zero, List.set_cons_succ])
  refine wpAnyK_take (i := 8) (v := ?_) (by simp only [List.getElem?_toArray, List.getElem?_cons_succ, List.getElem?_cons_zero]; rfl) (by kernel_rfl) (by kernel_rfl) (by kernel_rfl) (by kernel_rfl) (by first | exact fun _ _ _ h => h | exact fun _ _ _ h => by cases h.1) (Rws.grow _) (Or.inl ⟨by rfl, ?_⟩) hS ?_
  rotate_left
  · intro w' hS'
    simp only [Rws] at hS'
    go_simp
    refine ⟨?_, Below.refl _ _⟩
    rfl
  (try simp only [Act.put, List.setIfInBounds_toArray, List.set_cons_zero, List.set_cons_succ])
  refine wpAnyK_store (k := 9) (by simp only [List.getElem?_toArray, List.getElem?_cons_succ, List.getElem?_cons_zero]; rfl) rfl rfl (by kernel_rfl) (fun u hu => ?_)
  have eL : (l).set a (IntKind.u32.wrap ((l)[a] + (l)[b])) = l1 := by rw [← E1.out, addR, IntKind.wrap_u32, getD_elemI _ _ x1, getD_elemI _ _ x2]
  have zu := hu.size
  replace zu : w0.heap.size ≤ u.heap.size := zu
  have ru : row u w.heap.size = (u32s l).toArray := by rw [row_below hu (show _ < w0.heap.size by omega)]; exact r0
  have su : row u (w.heap.size + 1) = (zeros 16 (Value.int .u32 0)).toArray := by rw [row_below hu (show _ < w0.heap.size by omega)]; exact s0
  have bu : Below w.heap.size w u := Below.trans b0 ((below_step (Below.drew (Below.refl _ _)) hu).mono (by omega))
  obtain ⟨v, hv⟩ : ∃ v, u.setRow w.heap.size (u32s l1).toArray = v := ⟨_, rfl⟩
  have rv : row v w.heap.size = (u32s l1).toArray := by rw [← hv]; exact row_setRow_same (by rw [ru]; simp; omega) (by rw [ru]; simp; omega)
  have sv : row v (w.heap.size + 1) = (zeros 16 (Value.int .u32 0)).toArray := by rw [← hv]; simp [go_sem, su]
  have zv : v.heap.size = u.heap.size := by rw [← hv]; simp
  have bv : Below w.heap.size w v := by rw [← hv]; exact Below.setRow bu (by omega) _
  refine ⟨v, by go_simp; (try rw [eL, hv]), trivial, fun hS2 => ?_⟩
  clear eL hv hu ru su bu
  (try simp only [Act.put, List.setIfInBounds_toArray, List.set_cons_zero, List.set_cons_succ])
  refine wpAnyR_done (by kernel_rfl) (fun w1 h1 => ?_) _
  have z1 := h1.size
  replace z1 : w.heap.size + 2 ≤ w1.heap.size := by omega
  have r1 : row w1 w.heap.size = (u32s l1).toArray := by rw [row_below h1 (by omega)]; exact rv
  have s1 : row w1 (w.heap.size + 1) = (zeros 16 (Value.int .u32 0)).toArray := by rw [row_below h1 (by omega)]; exact sv
  have b1 : Below w.heap.size w w1 := Below.trans bv (h1.mono (by omega))
  clear h1 bv rv sv zu zv x1 x2 b0 r0 s0 z0
  clear hS hS2
  clear v u
  clear w0
  go_wp2_with fail
  have x1 : d < (l1).length := by omega
  have x2 : a < (l1).length := by omega
  refine wp_region_beginK 10 [(w.heap.size, (u32s l1).toArray)] [] rfl (by simp only [Rws]; (repeat (first | exact trivial | refine ⟨(by first | assumption | (simp [go_sem, *]; done)), (by first | omega | (simp; done) | (simp; omega)), ?_⟩))) (fun hS => ?_)
  refine wpAnyK_take (i := 0) (v := ?_) (by simp only [List.getElem?_toArray, List.getElem?_cons_succ, List.getElem?_cons_zero]; rfl) (by kernel_rfl) (by kernel_rfl) (by kernel_rfl) (by kernel_rfl) (by first | exact fun _ _ _ h => h | exact fun _ _ _ h => by cases h.1) (Rws.grow _) (Or.inl ⟨by rfl, ?_⟩) hS ?_
  rotate_left
  · intro w' hS'
    simp only [Rws] at hS'
    go_simp
    refine ⟨?_, Below.refl _ _⟩
    rfl
  (try simp only [Act.put, List.setIfInBounds_toArray, List.set_cons_zero, List.set_cons_succ])
  refine wpAnyK_take (i := 1) (v := ?_) (by simp only [List.getElem?_toArray, List.getElem?_cons_succ, List.getElem?_cons_zero]; rfl) (by kernel_rfl) (by kernel_rfl) (by kernel_rfl) (by kernel_rfl) (by first | exact fun _ _ _ h => h | exact fun _ _ _ h => by cases h.1) (Rws.grow _) (Or.inl ⟨by rfl, ?_⟩) hS ?_
  rotate_left
  · intro w' hS'
    simp only [Rws] at hS'
    go_simp
    refine ⟨?_, Below.refl _ _⟩
    rfl
  (try simp only [Act.put, List.setIfInBounds_toArray, List.set_cons_zero, List.set_cons_succ])
  refine wpAnyK_take (i := 2) (v := ?_) (by simp only [List.getElem?_toArray, List.getElem?_cons_succ, List.getElem?_cons_zero]; rfl) (by kernel_rfl) (by kernel_rfl) (by kernel_rfl) (by kernel_rfl) (by first | exact fun _ _ _ h => h | exact fun _ _ _ h => by cases h.1) (Rws.grow _) (Or.inl ⟨by rfl, ?_⟩) hS ?_
  rotate_left
  · intro w' hS'
    simp only [Rws] at hS'
    go_simp
    refine ⟨?_, Below.refl _ _⟩
    rfl
  (try simp only [Act.put, List.setIfInBounds_toArray, List.set_cons_zero, List.set_cons_succ])
  refine wpAnyK_take (i := 3) (v := ?_) (by simp only [List.getElem?_toArray, List.getElem?_cons_succ, List.getElem?_cons_zero]; rfl) (by kernel_rfl) (by kernel_rfl) (by kernel_rfl) (by kernel_rfl) (by first | exact fun _ _ _ h => h | exact fun _ _ _ h => by cases h.1) (Rws.grow _) (Or.inl ⟨by rfl, ?_⟩) hS ?_
  rotate_left
  · intro w' hS'
    simp only [Rws] at hS'
    go_simp
    refine ⟨?_, Below.refl _ _⟩
    rfl
  (try simp only [Act.put, List.setIfInBounds_toArray, List.set_cons_zero, List.set_cons_succ])
  refine wpAnyK_take (i := 4) (v := ?_) (by simp only [List.getElem?_toArray, List.getElem?_cons_succ, List.getElem?_cons_zero]; rfl) (by kernel_rfl) (by kernel_rfl) (by kernel_rfl) (by kernel_rfl) (by first | exact fun _ _ _ h => h | exact fun _ _ _ h => by cases h.1) (Rws.grow _) (Or.inl ⟨by rfl, ?_⟩) hS ?_
  rotate_left
  · intro w' hS'
    simp only [Rws] at hS'
    go_simp
    refine ⟨?_, Below.refl _ _⟩
    rfl
  (try simp only [Act.put, List.setIfInBounds_toArray, List.set_cons_zero, List.set_cons_succ])
  refine wpAnyK_take (i := 5) (v := ?_) (by simp only [List.getElem?_toArray, List.getElem?_cons_succ, List.getElem?_cons_zero]; rfl) (by kernel_rfl) (by kernel_rfl) (by kernel_rfl) (by kernel_rfl) (by first | exact fun _ _ _ h => h | exact fun _ _ _ h => by cases h.1) (Rws.grow _) (Or.inl ⟨by rfl, ?_⟩) hS ?_
  rotate_left
  · intro w' hS'
    simp only [Rws] at hS'
    go_simp
    refine ⟨?_, Below.refl _ _⟩
    rfl
  (try simp only [Act.put, List.setIfInBounds_toArray, List.set_cons_zero, List.set_cons_succ])
  refine wpAnyK_take (i := 6) (v := ?_) (by simp only [List.getElem?_toArray, List.getElem?_cons_succ, List.getElem?_cons_zero]; rfl) (by kernel_rfl) (by kernel_rfl) (by kernel_rfl) (by kernel_rfl) (by first | exact fun _ _ _ h => h | exact fun _ _ _ h => by cases h.1) (Rws.grow _) (Or.inl ⟨by rfl, ?_⟩) hS ?_
  rotate_left
  · intro w' hS'
    simp only [Rws] at hS'
    go_simp
    refine ⟨?_, Below.refl _ _⟩
    rfl
  (try simp only [Act.put, List.setIfInBounds_toArray, List.set_cons_zero, List.set_cons_succ])
  refine wpAnyK_take (i := 7) (v := ?_) (by simp only [List.getElem?_toArray, List.getElem?_cons_succ, List.getElem?_cons_zero]; rfl) (by kernel_rfl) (by kernel_rfl) (by kernel_rfl) (by kernel_rfl) (by first | exact fun _ _ _ h => h | exact fun _ _ _ h => by cases h.1) (Rws.grow _) (Or.inl ⟨by rfl, ?_⟩) hS ?_
  rotate_left
  · intro w' hS'
    simp only [Rws] at hS'
    go_simp
    refine ⟨?_, Below.refl _ _⟩
    rfl
  (try simp only [Act.put, List.setIfInBounds_toArray, List.set_cons_zero, List.set_cons_succ])
  refine wpAnyK_take (i := 8) (v := ?_) (by simp only [List.getElem?_toArray, List.getElem?_cons_succ, List.getElem?_cons_zero]; rfl) (by kernel_rfl) (by kernel_rfl) (by kernel_rfl) (by kernel_rfl) (by first | exact fun _ _ _ h => h | exact fun _ _ _ h => by cases h.1) (Rws.grow _) (Or.inl ⟨by rfl, ?_⟩) hS ?_
  rotate_left
  · intro w' hS'
    simp only [Rws] at hS'
    go_simp
    with_reducible refine (leftR_lit _ 16 16 (by decide) _ (bits32 _ _ _).1 (bits32 _ _ _).2 (by decide)).mono ?_
    rintro e w'' ⟨rfl, hb⟩
    refine ⟨_, rfl, ?_, hb⟩
    rfl
  (try simp only [Act.put, List.setIfInBounds_toArray, List.set_cons_zero, List.set_cons_succ])
  refine wpAnyK_take (i := 9) (v := ?_) (by simp only [List.getElem?_toArray, List.getElem?_cons_succ, List.getElem?_cons_zero]; rfl) (by kernel_rfl) (by kernel_rfl) (by kernel_rfl) (by kernel_rfl) (by first | exact fun _ _ _ h => h | exact fun _ _ _ h => by cases h.1) (Rws.grow _) (Or.inl ⟨by rfl, ?_⟩) hS ?_
  rotate_left
  · intro w' hS'
    simp only [Rws] at hS'
    go_simp
    refine ⟨?_, Below.refl _ _⟩
    rfl
  (try simp only [Act.put, List.setIfInBounds_toArray, List.set_cons_zero, List.set_cons_succ])
  refine wpAnyK_store (k := 10) (by simp only [List.getElem?_toArray, List.getElem?_cons_succ, List.getElem?_cons_zero]; rfl) rfl rfl (by kernel_rfl) (fun u hu => ?_)
  have eL : (l1).set d (rotI (bits .xor .u32 (l1)[d] (l1)[a]) 16) = l2 := by rw [← E2.out, xorL, getD_elemI _ _ x1, getD_elemI _ _ x2]
  have zu := hu.size
  replace zu : w1.heap.size ≤ u.heap.size := zu
  have ru : row u w.heap.size = (u32s l1).toArray := by rw [row_below hu (show _ < w1.heap.size by omega)]; exact r1
  have su : row u (w.heap.size + 1) = (zeros 16 (Value.int .u32 0)).toArray := by rw [row_below hu (show _ < w1.heap.size by omega)]; exact s1
  have bu : Below w.heap.size w u := Below.trans b1 ((below_step (Below.drew (Below.refl _ _)) hu).mono (by omega))
  obtain ⟨v, hv⟩ : ∃ v, u.setRow w.heap.size (u32s l2).toArray = v := ⟨_, rfl⟩
  have rv : row v w.heap.size = (u32s l2).toArray := by rw [← hv]; exact row_setRow_same (by rw [ru]; simp; omega) (by rw [ru]; simp; omega)
  have sv : row v (w.heap.size + 1) = (zeros 16 (Value.int .u32 0)).toArray := by rw [← hv]; simp [go_sem, su]
  have zv : v.heap.size = u.heap.size := by rw [← hv]; simp
  have bv : Below w.heap.size w v := by rw [← hv]; exact Below.setRow bu (by omega) _
  refine ⟨v, by go_simp; (try rw [eL, hv]), trivial, fun hS2 => ?_⟩
  clear eL hv hu ru su bu
  (try simp only [Act.put, List.setIfInBounds_toArray, List.set_cons_zero, List.set_cons_succ])
  refine wpAnyR_done (by kernel_rfl) (fun w2 h2 => ?_) _
  have z2 := h2.size
  replace z2 : w.heap.size + 2 ≤ w2.heap.size := by omega
  have r2 : row w2 w.heap.size = (u32s l2).toArray := by rw [row_below h2 (by omega)]; exact rv
  have s2 : row w2 (w.heap.size + 1) = (zeros 16 (Value.int .u32 0)).toArray := by rw [row_below h2 (by omega)]; exact sv
  have b2 : Below w.heap.size w w2 := Below.trans bv (h2.mono (by omega))
  clear h2 bv rv sv zu zv x1 x2 b1 r1 s1 z1
  clear hS hS2
  clear v u
  clear w1
  go_wp2_with fail
  have x1 : c < (l2).length := by omega
  have x2 : d < (l2).length := by omega
  refine wp_region_beginK 9 [(w.heap.size, (u32s l2).toArray)] [] rfl (by simp only [Rws]; (repeat (first | exact trivial | refine ⟨(by first | assumption | (simp [go_sem, *]; done)), (by first | omega | (simp; done) | (simp; omega)), ?_⟩))) (fun hS => ?_)
  refine wpAnyK_take (i := 0) (v := ?_) (by simp only [List.getElem?_toArray, List.getElem?_cons_succ, List.getElem?_cons_zero]; rfl) (by kernel_rfl) (by kernel_rfl) (by kernel_rfl) (by kernel_rfl) (by first | exact fun _ _ _ h => h | exact fun _ _ _ h => by cases h.1) (Rws.grow _) (Or.inl ⟨by rfl, ?_⟩) hS ?_
  rotate_left
  · intro w' hS'
    simp only [Rws] at hS'
    go_simp
    refine ⟨?_, Below.refl _ _⟩
    rfl
  (try simp only [Act.put, List.setIfInBounds_toArray, List.set_cons_zero, List.set_cons_succ])
  refine wpAnyK_take (i := 1) (v := ?_) (by simp only [List.getElem?_toArray, List.getElem?_cons_succ, List.getElem?_cons_zero]; rfl) (by kernel_rfl) (by kernel_rfl) (by kernel_rfl) (by kernel_rfl) (by first | exact fun _ _ _ h => h | exact fun _ _ _ h => by cases h.1) (Rws.grow _) (Or.inl ⟨by rfl, ?_⟩) hS ?_
  rotate_left
  · intro w' hS'
    simp only [Rws] at hS'
    go_simp
    refine ⟨?_, Below.refl _ _⟩
    rfl
  (try simp only [Act.put, List.setIfInBounds_toArray, List.set_cons_zero, List.set_cons_succ])
  refine wpAnyK_take (i := 2) (v := ?_) (by simp only [List.getElem?_toArray, List.getElem?_cons_succ, List.getElem?_cons_zero]; rfl) (by kernel_rfl) (by kernel_rfl) (by kernel_rfl) (by kernel_rfl) (by first | exact fun _ _ _ h => h | exact fun _ _ _ h => by cases h.1) (Rws.grow _) (Or.inl ⟨by rfl, ?_⟩) hS ?_
  rotate_left
  · intro w' hS'
    simp only [Rws] at hS'
    go_simp
    refine ⟨?_, Below.refl _ _⟩
    rfl
  (try simp only [Act.put, List.setIfInBounds_toArray, List.set_cons_zero, List.set_cons_succ])
  refine wpAnyK_take (i := 3) (v := ?_) (by simp only [List.getElem?_toArray, List.getElem?_cons_succ, List.getElem?_cons_zero]; rfl) (by kernel_rfl) (by kernel_rfl) (by kernel_rfl) (by kernel_rfl) (by first | exact fun _ _ _ h => h | exact fun _ _ _ h => by cases h.1) (Rws.grow _) (Or.inl ⟨by rfl, ?_⟩) hS ?_
  rotate_left
  · intro w' hS'
    simp only [Rws] at hS'
    go_simp
    refine ⟨?_, Below.refl _ _⟩
    rfl
  (try simp only [Act.put, List.setIfInBounds_toArray, List.set_cons_zero, List.set_cons_succ])
  refine wpAnyK_take (i := 4) (v := ?_) (by simp only [List.getElem?_toArray, List.getElem?_cons_succ, List.getElem?_cons_zero]; rfl) (by kernel_rfl) (by kernel_rfl) (by kernel_rfl) (by kernel_rfl) (by first | exact fun _ _ _ h => h | exact fun _ _ _ h => by cases h.1) (Rws.grow _) (Or.inl ⟨by rfl, ?_⟩) hS ?_
  rotate_left
  · intro w' hS'
    simp only [Rws] at hS'
    go_simp
    refine ⟨?_, Below.refl _ _⟩
    rfl
  (try simp only [Act.put, List.setIfInBounds_toArray, List.set_cons_zero, List.set_cons_succ])
  refine wpAnyK_take (i := 5) (v := ?_) (by simp only [List.getElem?_toArray, List.getElem?_cons_succ, List.getElem?_cons_zero]; rfl) (by kernel_rfl) (by kernel_rfl) (by kernel_rfl) (by kernel_rfl) (by first | exact fun _ _ _ h => h | exact fun _ _ _ h => by cases h.1) (Rws.grow _) (Or.inl ⟨by rfl, ?_⟩) hS ?_
  rotate_left
  · intro w' hS'
    simp only [Rws] at hS'
    go_simp
    refine ⟨?_, Below.refl _ _⟩
    rfl
  (try simp only [Act.put, List.setIfInBounds_toArray, List.set_cons_zero, List.set_cons_succ])
  refine wpAnyK_take (i := 6) (v := ?_) (by simp only [List.getElem?_toArray, List.getElem?_cons_succ, List.getElem?_cons_zero]; rfl) (by kernel_rfl) (by kernel_rfl) (by kernel_rfl) (by kernel_rfl) (by first | exact fun _ _ _ h => h | exact fun _ _ _ h => by cases h.1) (Rws.grow _) (Or.inl ⟨by rfl, ?_⟩) hS ?_
  rotate_left
  · intro w' hS'
    simp only [Rws] at hS'
    go_simp
    refine ⟨?_, Below.refl _ _⟩
    rfl
  (try simp only [Act.put, List.setIfInBounds_toArray, List.set_cons_zero, List.set_cons_succ])
  refine wpAnyK_take (i := 7) (v := ?_) (by simp only [List.getElem?_toArray, List.getElem?_cons_succ, List.getElem?_cons_zero]; rfl) (by kernel_rfl) (by kernel_rfl) (by kernel_rfl) (by kernel_rfl) (by first | exact fun _ _ _ h => h | exact fun _ _ _ h => by cases h.1) (Rws.grow _) (Or.inl ⟨by rfl, ?_⟩) hS ?_
  rotate_left
  · intro w' hS'
    simp only [Rws] at hS'
    go_simp
    refine ⟨?_, Below.refl _ _⟩
    rfl
  (try simp only [Act.put, List.setIfInBounds_toArray, List.set_cons_zero, List.set_cons_succ])
  refine wpAnyK_take (i := 8) (v := ?_) (by simp only [List.getElem?_toArray, List.getElem?_cons_succ, List.getElem?_cons_zero]; rfl) (by kernel_rfl) (by kernel_rfl) (by kernel_rfl) (by kernel_rfl) (by first | exact fun _ _ _ h => h | exact fun _ _ _ h => by cases h.1) (Rws.grow _) (Or.inl ⟨by rfl, ?_⟩) hS ?_
  rotate_left
  · intro w' hS'
    simp only [Rws] at hS'
    go_simp
    refine ⟨?_, Below.refl _ _⟩
    rfl
  (try simp only [Act.put, List.setIfInBounds_toArray, List.set_cons_zero, List.set_cons_succ])
  refine wpAnyK_store (k := 9) (by simp only [List.getElem?_toArray, List.getElem?_cons_succ, List.getElem?_cons_zero]; rfl) rfl rfl (by kernel_rfl) (fun u hu => ?_)
  have eL : (l2).set c (IntKind.u32.wrap ((l2)[c] + (l2)[d])) = l3 := by rw [← E3.out, addR, IntKind.wrap_u32, getD_elemI _ _ x1, getD_elemI _ _ x2]
  have zu := hu.size
  replace zu : w2.heap.size ≤ u.heap.size := zu
  have ru : row u w.heap.size = (u32s l2).toArray := by rw [row_below hu (show _ < w2.heap.size by omega)]; exact r2
  have su : row u (w.heap.size + 1) = (zeros 16 (Value.int .u32 0)).toArray := by rw [row_below hu (show _ < w2.heap.size by omega)]; exact s2
  have bu : Below w.heap.size w u := Below.trans b2 ((below_step (Below.drew (Below.refl _ _)) hu).mono (by omega))
  obtain ⟨v, hv⟩ : ∃ v, u.setRow w.heap.size (u32s l3).toArray = v := ⟨_, rfl⟩
  have rv : row v w.heap.size = (u32s l3).toArray := by rw [← hv]; exact row_setRow_same (by rw [ru]; simp; omega) (by rw [ru]; simp; omega)
  have sv : row v (w.heap.size + 1) = (zeros 16 (Value.int .u32 0)).toArray := by rw [← hv]; simp [go_sem, su]
  have zv : v.heap.size = u.heap.size := by rw [← hv]; simp
  have bv : Below w.heap.size w v := by rw [← hv]; exact Below.setRow bu (by omega) _
  refine ⟨v, by go_simp; (try rw [eL, hv]), trivial, fun hS2 => ?_⟩
  clear eL hv hu ru su bu
  (try simp only [Act.put, List.setIfInBounds_toArray, List.set_cons_zero, List.set_cons_succ])
  refine wpAnyR_done (by kernel_rfl) (fun w3 h3 => ?_) _
  have z3 := h3.size
  replace z3 : w.heap.size + 2 ≤ w3.heap.size := by omega
  have r3 : row w3 w.heap.size = (u32s l3).toArray := by rw [row_below h3 (by omega)]; exact rv
  have s3 : row w3 (w.heap.size + 1) = (zeros 16 (Value.int .u32 0)).toArray := by rw [row_below h3 (by omega)]; exact sv
  have b3 : Below w.heap.size w w3 := Below.trans bv (h3.mono (by omega))
  clear h3 bv rv sv zu zv x1 x2 b2 r2 s2 z2
  clear hS hS2
  clear v u
  clear w2
  go_wp2_with fail
  have x1 : b < (l3).length := by omega
  have x2 : c < (l3).length := by omega
  refine wp_region_beginK 10 [(w.heap.size, (u32s l3).toArray)] [] rfl (by simp only [Rws]; (repeat (first | exact trivial | refine ⟨(by first | assumption | (simp [go_sem, *]; done)), (by first | omega | (simp; done) | (simp; omega)), ?_⟩))) (fun hS => ?_)
  refine wpAnyK_take (i := 0) (v := ?_) (by simp only [List.getElem?_toArray, List.getElem?_cons_succ, List.getElem?_cons_zero]; rfl) (by kernel_rfl) (by kernel_rfl) (by kernel_rfl) (by kernel_rfl) (by first | exact fun _ _ _ h => h | exact fun _ _ _ h => by cases h.1) (Rws.grow _) (Or.inl ⟨by rfl, ?_⟩) hS ?_
  rotate_left
  · intro w' hS'
    simp only [Rws] at hS'
    go_simp
    refine ⟨?_, Below.refl _ _⟩
    rfl
  (try simp only [Act.put, List.setIfInBounds_toArray, List.set_cons_zero, List.set_cons_succ])
  refine wpAnyK_take (i := 1) (v := ?_) (by simp only [List.getElem?_toArray, List.getElem?_cons_succ, List.getElem?_cons_zero]; rfl) (by kernel_rfl) (by kernel_rfl) (by kernel_rfl) (by kernel_rfl) (by first | exact fun _ _ _ h => h | exact fun _ _ _ h => by cases h.1) (Rws.grow _) (Or.inl ⟨by rfl, ?_⟩) hS ?_
  rotate_left
  · intro w' hS'
    simp only [Rws] at hS'
    go_simp
    refine ⟨?_, Below.refl _ _⟩
    rfl
  (try simp only [Act.put, List.setIfInBounds_toArray, List.set_cons_zero, List.set_cons_succ])
  refine wpAnyK_take (i := 2) (v := ?_) (by simp only [List.getElem?_toArray, List.getElem?_cons_succ, List.getElem?_cons_zero]; rfl) (by kernel_rfl) (by kernel_rfl) (by kernel_rfl) (by kernel_rfl) (by first | exact fun _ _ _ h => h | exact fun _ _ _ h => by cases h.1) (Rws.grow _) (Or.inl ⟨by rfl, ?_⟩) hS ?_
  rotate_left
  · intro w' hS'
    simp only [Rws] at hS'
    go_simp
    refine ⟨?_, Below.refl _ _⟩
    rfl
  (try simp only [Act.put, List.setIfInBounds_toArray, List.set_cons_zero, List.set_cons_succ])
  refine wpAnyK_take (i := 3) (v := ?_) (by simp only [List.getElem?_toArray, List.getElem?_cons_succ, List.getElem?_cons_zero]; rfl) (by kernel_rfl) (by kernel_rfl) (by kernel_rfl) (by kernel_rfl) (by first | exact fun _ _ _ h => h | exact fun _ _ _ h => by cases h.1) (Rws.grow _) (Or.inl ⟨by rfl, ?_⟩) hS ?_
  rotate_left
  · intro w' hS'
    simp only [Rws] at hS'
    go_simp
    refine ⟨?_, Below.refl _ _⟩
    rfl
  (try simp only [Act.put, List.setIfInBounds_toArray, List.set_cons_zero, List.set_cons_succ])
  refine wpAnyK_take (i := 4) (v := ?_) (by simp only [List.getElem?_toArray, List.getElem?_cons_succ, List.getElem?_cons_zero]; rfl) (by kernel_rfl) (by kernel_rfl) (by kernel_rfl) (by kernel_rfl) (by first | exact fun _ _ _ h => h | exact fun _ _ _ h => by cases h.1) (Rws.grow _) (Or.inl ⟨by rfl, ?_⟩) hS ?_
  rotate_left
  · intro w' hS'
    simp only [Rws] at hS'
    go_simp
    refine ⟨?_, Below.refl _ _⟩
    rfl
  (try simp only [Act.put, List.setIfInBounds_toArray, List.set_cons_zero, List.set_cons_succ])
  refine wpAnyK_take (i := 5) (v := ?_) (by simp only [List.getElem?_toArray, List.getElem?_cons_succ, List.getElem?_cons_zero]; rfl) (by kernel_rfl) (by kernel_rfl) (by kernel_rfl) (by kernel_rfl) (by first | exact fun _ _ _ h => h | exact fun _ _ _ h => by cases h.1) (Rws.grow _) (Or.inl ⟨by rfl, ?_⟩) hS ?_
  rotate_left
  · intro w' hS'
    simp only [Rws] at hS'
    go_simp
    refine ⟨?_, Below.refl _ _⟩
    rfl
  (try simp only [Act.put, List.setIfInBounds_toArray, List.set_cons_zero, List.set_cons_succ])
  refine wpAnyK_take (i := 6) (v := ?_) (by simp only [List.getElem?_toArray, List.getElem?_cons_succ, List.getElem?_cons_zero]; rfl) (by kernel_rfl) (by kernel_rfl) (by kernel_rfl) (by kernel_rfl) (by first | exact fun _ _ _ h => h | exact fun _ _ _ h => by cases h.1) (Rws.grow _) (Or.inl ⟨by rfl, ?_⟩) hS ?_
  rotate_left
  · intro w' hS'
    simp only [Rws] at hS'
    go_simp
    refine ⟨?_, Below.refl _ _⟩
    rfl
  (try simp only [Act.put, List.setIfInBounds_toArray, List.set_cons_zero, List.set_cons_succ])
  refine wpAnyK_take (i := 7) (v := ?_) (by simp only [List.getElem?_toArray, List.getElem?_cons_succ, List.getElem?_cons_zero]; rfl) (by kernel_rfl) (by kernel_rfl) (by kernel_rfl) (by kernel_rfl) (by first | exact fun _ _ _ h => h | exact fun _ _ _ h => by cases h.1) (Rws.grow _) (Or.inl ⟨by rfl, ?_⟩) hS ?_
  rotate_left
  · intro w' hS'
    simp only [Rws] at hS'
    go_simp
    refine ⟨?_, Below.refl _ _⟩
    rfl
  (try simp only [Act.put, List.setIfInBounds_toArray, List.set_cons_zero, List.set_cons_succ])
  refine wpAnyK_take (i := 8) (v := ?_) (by simp only [List.getElem?_toArray, List.getElem?_cons_succ, List.getElem?_cons_zero]; rfl) (by kernel_rfl) (by kernel_rfl) (by kernel_rfl) (by kernel_rfl) (by first | exact fun _ _ _ h => h | exact fun _ _ _ h => by cases h.1) (Rws.grow _) (Or.inl ⟨by rfl, ?_⟩) hS ?_
  rotate_left
  · intro w' hS'
    simp only [Rws] at hS'
    go_simp
    with_reducible refine (leftR_lit _ 12 12 (by decide) _ (bits32 _ _ _).1 (bits32 _ _ _).2 (by decide)).mono ?_
    rintro e w'' ⟨rfl, hb⟩
    refine ⟨_, rfl, ?_, hb⟩
    rfl
  (try simp only [Act.put, List.setIfInBounds_toArray, List.set_cons_zero, List.set_cons_succ])
  refine wpAnyK_take (i := 9) (v := ?_) (by simp only [List.getElem?_toArray, List.getElem?_cons_succ, List.getElem?_cons_zero]; rfl) (by kernel_rfl) (by kernel_rfl) (by kernel_rfl) (by kernel_rfl) (by first | exact fun _ _ _ h => h | exact fun _ _ _ h => by cases h.1) (Rws.grow _) (Or.inl ⟨by rfl, ?_⟩) hS ?_
  rotate_left
  · intro w' hS'
    simp only [Rws] at hS'
    go_simp
    refine ⟨?_, Below.refl _ _⟩
    rfl
  (try simp only [Act.put, List.setIfInBounds_toArray, List.set_cons_zero, List.set_cons_succ])
  refine wpAnyK_store (k := 10) (by simp only [List.getElem?_toArray, List.getElem?_cons_succ, List.getElem?_cons_zero]; rfl) rfl rfl (by kernel_rfl) (fun u hu => ?_)
  have eL : (l3).set b (rotI (bits .xor .u32 (l3)[b] (l3)[c]) 12) = l4 := by rw [← E4.out, xorL, getD_elemI _ _ x1, getD_elemI _ _ x2]
  have zu := hu.size
  replace zu : w3.heap.size ≤ u.heap.size := zu
  have ru : row u w.heap.size = (u32s l3).toArray := by rw [row_below hu (show _ < w3.heap.size by omega)]; exact r3
  have su : row u (w.heap.size + 1) = (zeros 16 (Value.int .u32 0)).toArray := by rw [row_below hu (show _ < w3.heap.size by omega)]; exact s3
  have bu : Below w.heap.size w u := Below.trans b3 ((below_step (Below.drew (Below.refl _ _)) hu).mono (by omega))
  obtain ⟨v, hv⟩ : ∃ v, u.setRow w.heap.size (u32s l4).toArray = v := ⟨_, rfl⟩
  have rv : row v w.heap.size = (u32s l4).toArray := by rw [← hv]; exact row_setRow_same (by rw [ru]; simp; omega) (by rw [ru]; simp; omega)
  have sv : row v (w.heap.size + 1) = (zeros 16 (Value.int .u32 0)).toArray := by rw [← hv]; simp [go_sem, su]
  have zv : v.heap.size = u.heap.size := by rw [← hv]; simp
  have bv : Below w.heap.size w v := by rw [← hv]; exact Below.setRow bu (by omega) _
  refine ⟨v, by go_simp; (try rw [eL, hv]), trivial, fun hS2 => ?_⟩
  clear eL hv hu ru su bu
  (try simp only [Act.put, List.setIfInBounds_toArray, List.set_cons_zero, List.set_cons_succ])
  refine wpAnyR_done (by kernel_rfl) (fun w4 h4 => ?_) _
  have z4 := h4.size
  replace z4 : w.heap.size + 2 ≤ w4.heap.size := by omega
  have r4 : row w4 w.heap.size = (u32s l4).toArray := by rw [row_below h4 (by omega)]; exact rv
  have s4 : row w4 (w.heap.size + 1) = (zeros 16 (Value.int .u32 0)).toArray := by rw [row_below h4 (by omega)]; exact sv
  have b4 : Below w.heap.size w w4 := Below.trans bv (h4.mono (by omega))
  clear h4 bv rv sv zu zv x1 x2 b3 r3 s3 z3
  clear hS hS2
  clear v u
  clear w3
  go_wp2_with fail
  have x1 : a < (l4).length := by omega
  have x2 : b < (l4).length := by omega
  refine wp_region_beginK 9 [(w.heap.size, (u32s l4).toArray)] [] rfl (by simp only [Rws]; (repeat (first | exact trivial | refine ⟨(by first | assumption | (simp [go_sem, *]; done)), (by first | omega | (simp; done) | (simp; omega)), ?_⟩))) (fun hS => ?_)
  refine wpAnyK_take (i := 0) (v := ?_) (by simp only [List.getElem?_toArray, List.getElem?_cons_succ, List.getElem?_cons_zero]; rfl) (by kernel_rfl) (by kernel_rfl) (by kernel_rfl) (by kernel_rfl) (by first | exact fun _ _ _ h => h | exact fun _ _ _ h => by cases h.1) (Rws.grow _) (Or.inl ⟨by rfl, ?_⟩) hS ?_
  rotate_left
  · intro w' hS'
    simp only [Rws] at hS'
    go_simp
    refine ⟨?_, Below.refl _ _⟩
    rfl
  (try simp only [Act.put, List.setIfInBounds_toArray, List.set_cons_zero, List.set_cons_succ])
  refine wpAnyK_take (i := 1) (v := ?_) (by simp only [List.getElem?_toArray, List.getElem?_cons_succ, List.getElem?_cons_zero]; rfl) (by kernel_rfl) (by kernel_rfl) (by kernel_rfl) (by kernel_rfl) (by first | exact fun _ _ _ h => h | exact fun _ _ _ h => by cases h.1) (Rws.grow _) (Or.inl ⟨by rfl, ?_⟩) hS ?_
  rotate_left
  · intro w' hS'
    simp only [Rws] at hS'
    go_simp
    refine ⟨?_, Below.refl _ _⟩
    rfl
  (try simp only [Act.put, List.setIfInBounds_toArray, List.set_cons_zero, List.set_cons_succ])
  refine wpAnyK_take (i := 2) (v := ?_) (by simp only [List.getElem?_toArray, List.getElem?_cons_succ, List.getElem?_cons_zero]; rfl) (by kernel_rfl) (by kernel_rfl) (by kernel_rfl) (by kernel_rfl) (by first | exact fun _ _ _ h => h | exact fun _ _ _ h => by cases h.1) (Rws.grow _) (Or.inl ⟨by rfl, ?_⟩) hS ?_
  rotate_left
  · intro w' hS'
    simp only [Rws] at hS'
    go_simp
    refine ⟨?_, Below.refl _ _⟩
    rfl
  (try simp only [Act.put, List.setIfInBounds_toArray, List.set_cons_zero, List.set_cons_succ])
  refine wpAnyK_take (i := 3) (v := ?_) (by simp only [List.getElem?_toArray, List.getElem?_cons_succ, List.getElem?_cons_zero]; rfl) (by kernel_rfl) (by kernel_rfl) (by kernel_rfl) (by kernel_rfl) (by first | exact fun _ _ _ h => h | exact fun _ _ _ h => by cases h.1) (Rws.grow _) (Or.inl ⟨by rfl, ?_⟩) hS ?_
  rotate_left
  · intro w' hS'
    simp only [Rws] at hS'
    go_simp
    refine ⟨?_, Below.refl _ _⟩
    rfl
  (try simp only [Act.put, List.setIfInBounds_toArray, List.set_cons_zero, List.set_cons_succ])
  refine wpAnyK_take (i := 4) (v := ?_) (by simp only [List.getElem?_toArray, List.getElem?_cons_succ, List.getElem?_cons_zero]; rfl) (by kernel_rfl) (by kernel_rfl) (by kernel_rfl) (by kernel_rfl) (by first | exact fun _ _ _ h => h | exact fun _ _ _ h => by cases h.1) (Rws.grow _) (Or.inl ⟨by rfl, ?_⟩) hS ?_
  rotate_left
  · intro w' hS'
    simp only [Rws] at hS'
    go_simp
    refine ⟨?_, Below.refl _ _⟩
    rfl
  (try simp only [Act.put, List.setIfInBounds_toArray, List.set_cons_zero, List.set_cons_succ])
  refine wpAnyK_take (i := 5) (v := ?_) (by simp only [List.getElem?_toArray, List.getElem?_cons_succ, List.getElem?_cons_zero]; rfl) (by kernel_rfl) (by kernel_rfl) (by kernel_rfl) (by kernel_rfl) (by first | exact fun _ _ _ h => h | exact fun _ _ _ h => by cases h.1) (Rws.grow _) (Or.inl ⟨by rfl, ?_⟩) hS ?_
  rotate_left
  · intro w' hS'
    simp only [Rws] at hS'
    go_simp
    refine ⟨?_, Below.refl _ _⟩
    rfl
  (try simp only [Act.put, List.setIfInBounds_toArray, List.set_cons_zero, List.set_cons_succ])
  refine wpAnyK_take (i := 6) (v := ?_) (by simp only [List.getElem?_toArray, List.getElem?_cons_succ, List.getElem?_cons_zero]; rfl) (by kernel_rfl) (by kernel_rfl) (by kernel_rfl) (by kernel_rfl) (by first | exact fun _ _ _ h => h | exact fun _ _ _ h => by cases h.1) (Rws.grow _) (Or.inl ⟨by rfl, ?_⟩) hS ?_
  rotate_left
  · intro w' hS'
    simp only [Rws] at hS'
    go_simp
    refine ⟨?_, Below.refl _ _⟩
    rfl
  (try simp only [Act.put, List.setIfInBounds_toArray, List.set_cons_zero, List.set_cons_succ])
  refine wpAnyK_take (i := 7) (v := ?_) (by simp only [List.getElem?_toArray, List.getElem?_cons_succ, List.getElem?_cons_zero]; rfl) (by kernel_rfl) (by kernel_rfl) (by kernel_rfl) (by kernel_rfl) (by first | exact fun _ _ _ h => h | exact fun _ _ _ h => by cases h.1) (Rws.grow _) (Or.inl ⟨by rfl, ?_⟩) hS ?_
  rotate_left
  · intro w' hS'
    simp only [Rws] at hS'
    go_simp
    refine ⟨?_, Below.refl _ _⟩
    rfl
  (try simp only [Act.put, List.setIfInBounds_toArray, List.set_cons_zero, List.set_cons_succ])
  refine wpAnyK_take (i := 8) (v := ?_) (by simp only [List.getElem?_toArray, List.getElem?_cons_succ, List.getElem?_cons_zero]; rfl) (by kernel_rfl) (by kernel_rfl) (by kernel_rfl) (by kernel_rfl) (by first | exact fun _ _ _ h => h | exact fun _ _ _ h => by cases h.1) (Rws.grow _) (Or.inl ⟨by rfl, ?_⟩) hS ?_
  rotate_left
  · intro w' hS'
    simp only [Rws] at hS'
    go_simp
    refine ⟨?_, Below.refl _ _⟩
    rfl
  (try simp only [Act.put, List.setIfInBounds_toArray, List.set_cons_zero, List.set_cons_succ])
  refine wpAnyK_store (k := 9) (by simp only [List.getElem?_toArray, List.getElem?_cons_succ, List.getElem?_cons_zero]; rfl) rfl rfl (by kernel_rfl) (fun u hu => ?_)
  have eL : (l4).set a (IntKind.u32.wrap ((l4)[a] + (l4)[b])) = l5 := by rw [← E5.out, addR, IntKind.wrap_u32, getD_elemI _ _ x1, getD_elemI _ _ x2]
  have zu := hu.size
  replace zu : w4.heap.size ≤ u.heap.size := zu
  have ru : row u w.heap.size = (u32s l4).toArray := by rw [row_below hu (show _ < w4.heap.size by omega)]; exact r4
  have su : row u (w.heap.size + 1) = (zeros 16 (Value.int .u32 0)).toArray := by rw [row_below hu (show _ < w4.heap.size by omega)]; exact s4
  have bu : Below w.heap.size w u := Below.trans b4 ((below_step (Below.drew (Below.refl _ _)) hu).mono (by omega))
  obtain ⟨v, hv⟩ : ∃ v, u.setRow w.heap.size (u32s l5).toArray = v := ⟨_, rfl⟩
  have rv : row v w.heap.size = (u32s l5).toArray := by rw [← hv]; exact row_setRow_same (by rw [ru]; simp; omega) (by rw [ru]; simp; omega)
  have sv : row v (w.heap.size + 1) = (zeros 16 (Value.int .u32 0)).toArray := by rw [← hv]; simp [go_sem, su]
  have zv : v.heap.size = u.heap.size := by rw [← hv]; simp
  have bv : Below w.heap.size w v := by rw [← hv]; exact Below.setRow bu (by omega) _
  refine ⟨v, by go_simp; (try rw [eL, hv]), trivial, fun hS2 => ?_⟩
  clear eL hv hu ru su bu
  (try simp only [Act.put, List.setIfInBounds_toArray, List.set_cons_zero, List.set_cons_succ])
  refine wpAnyR_done (by kernel_rfl) (fun w5 h5 => ?_) _
  have z5 := h5.size
  replace z5 : w.heap.size + 2 ≤ w5.heap.size := by omega
  have r5 : row w5 w.heap.size = (u32s l5).toArray := by rw [row_below h5 (by omega)]; exact rv
  have s5 : row w5 (w.heap.size + 1) = (zeros 16 (Value.int .u32 0)).toArray := by rw [row_below h5 (by omega)]; exact sv
  have b5 : Below w.heap.size w w5 := Below.trans bv (h5.mono (by omega))
  clear h5 bv rv sv zu zv x1 x2 b4 r4 s4 z4
  clear hS hS2
  clear v u
  clear w4
  go_wp2_with fail
  have x1 : d < (l5).length := by omega
  have x2 : a < (l5).length := by omega
  refine wp_region_beginK 10 [(w.heap.size, (u32s l5).toArray)] [] rfl (by simp only [Rws]; (repeat (first | exact trivial | refine ⟨(by first | assumption | (simp [go_sem, *]; done)), (by first | omega | (simp; done) | (simp; omega)), ?_⟩))) (fun hS => ?_)
  refine wpAnyK_take (i := 0) (v := ?_) (by simp only [List.getElem?_toArray, List.getElem?_cons_succ, List.getElem?_cons_zero]; rfl) (by kernel_rfl) (by kernel_rfl) (by kernel_rfl) (by kernel_rfl) (by first | exact fun _ _ _ h => h | exact fun _ _ _ h => by cases h.1) (Rws.grow _) (Or.inl ⟨by rfl, ?_⟩) hS ?_
  rotate_left
  · intro w' hS'
    simp only [Rws] at hS'
    go_simp
    refine ⟨?_, Below.refl _ _⟩
    rfl
  (try simp only [Act.put, List.setIfInBounds_toArray, List.set_cons_zero, List.set_cons_succ])
  refine wpAnyK_take (i := 1) (v := ?_) (by simp only [List.getElem?_toArray, List.getElem?_cons_succ, List.getElem?_cons_zero]; rfl) (by kernel_rfl) (by kernel_rfl) (by kernel_rfl) (by kernel_rfl) (by first | exact fun _ _ _ h => h | exact fun _ _ _ h => by cases h.1) (Rws.grow _) (Or.inl ⟨by rfl, ?_⟩) hS ?_
  rotate_left
  · intro w' hS'
    simp only [Rws] at hS'
    go_simp
    refine ⟨?_, Below.refl _ _⟩
    rfl
  (try simp only [Act.put, List.setIfInBounds_toArray, List.set_cons_zero, List.set_cons_succ])
  refine wpAnyK_take (i := 2) (v := ?_) (by simp only [List.getElem?_toArray, List.getElem?_cons_succ, List.getElem?_cons_zero]; rfl) (by kernel_rfl) (by kernel_rfl) (by kernel_rfl) (by kernel_rfl) (by first | exact fun _ _ _ h => h | exact fun _ _ _ h => by cases h.1) (Rws.grow _) (Or.inl ⟨by rfl, ?_⟩) hS ?_
  rotate_left
  · intro w' hS'
    simp only [Rws] at hS'
    go_simp
    refine ⟨?_, Below.refl _ _⟩
    rfl
  (try simp only [Act.put, List.setIfInBounds_toArray, List.set_cons_zero, List.set_cons_succ])
  refine wpAnyK_take (i := 3) (v := ?_) (by simp only [List.getElem?_toArray, List.getElem?_cons_succ, List.getElem?_cons_zero]; rfl) (by kernel_rfl) (by kernel_rfl) (by kernel_rfl) (by kernel_rfl) (by first | exact fun _ _ _ h => h | exact fun _ _ _ h => by cases h.1) (Rws.grow _) (Or.inl ⟨by rfl, ?_⟩) hS ?_
  rotate_left
  · intro w' hS'
    simp only [Rws] at hS'
    go_simp
    refine ⟨?_, Below.refl _ _⟩
    rfl
  (try simp only [Act.put, List.setIfInBounds_toArray, List.set_cons_zero, List.set_cons_succ])
  refine wpAnyK_take (i := 4) (v := ?_) (by simp only [List.getElem?_toArray, List.getElem?_cons_succ, List.getElem?_cons_zero]; rfl) (by kernel_rfl) (by kernel_rfl) (by kernel_rfl) (by kernel_rfl) (by first | exact fun _ _ _ h => h | exact fun _ _ _ h => by cases h.1) (Rws.grow _) (Or.inl ⟨by rfl, ?_⟩) hS ?_
  rotate_left
  · intro w' hS'
    simp only [Rws] at hS'
    go_simp
    refine ⟨?_, Below.refl _ _⟩
    rfl
  (try simp only [Act.put, List.setIfInBounds_toArray, List.set_cons_zero, List.set_cons_succ])
  refine wpAnyK_take (i := 5) (v := ?_) (by simp only [List.getElem?_toArray, List.getElem?_cons_succ, List.getElem?_cons_zero]; rfl) (by kernel_rfl) (by kernel_rfl) (by kernel_rfl) (by kernel_rfl) (by first | exact fun _ _ _ h => h | exact fun _ _ _ h => by cases h.1) (Rws.grow _) (Or.inl ⟨by rfl, ?_⟩) hS ?_
  rotate_left
  · intro w' hS'
    simp only [Rws] at hS'
    go_simp
    refine ⟨?_, Below.refl _ _⟩
    rfl
  (try simp only [Act.put, List.setIfInBounds_toArray, List.set_cons_zero, List.set_cons_succ])
  refine wpAnyK_take (i := 6) (v := ?_) (by simp only [List.getElem?_toArray, List.getElem?_cons_succ, List.getElem?_cons_zero]; rfl) (by kernel_rfl) (by kernel_rfl) (by kernel_rfl) (by kernel_rfl) (by first | exact fun _ _ _ h => h | exact fun _ _ _ h => by cases h.1) (Rws.grow _) (Or.inl ⟨by rfl, ?_⟩) hS ?_
  rotate_left
  · intro w' hS'
    simp only [Rws] at hS'
    go_simp
    refine ⟨?_, Below.refl _ _⟩
    rfl
  (try simp only [Act.put, List.setIfInBounds_toArray, List.set_cons_zero, List.set_cons_succ])
  refine wpAnyK_take (i := 7) (v := ?_) (by simp only [List.getElem?_toArray, List.getElem?_cons_succ, List.getElem?_cons_zero]; rfl) (by kernel_rfl) (by kernel_rfl) (by kernel_rfl) (by kernel_rfl) (by first | exact fun _ _ _ h => h | exact fun _ _ _ h => by cases h.1) (Rws.grow _) (Or.inl ⟨by rfl, ?_⟩) hS ?_
  rotate_left
  · intro w' hS'
    simp only [Rws] at hS'
    go_simp
    refine ⟨?_, Below.refl _ _⟩
    rfl
  (try simp only [Act.put, List.setIfInBounds_toArray, List.set_cons_zero, List.set_cons_succ])
  refine wpAnyK_take (i := 8) (v := ?_) (by simp only [List.getElem?_toArray, List.getElem?_cons_succ, List.getElem?_cons_zero]; rfl) (by kernel_rfl) (by kernel_rfl) (by kernel_rfl) (by kernel_rfl) (by first | exact fun _ _ _ h => h | exact fun _ _ _ h => by cases h.1) (Rws.grow _) (Or.inl ⟨by rfl, ?_⟩) hS ?_
  rotate_left
  · intro w' hS'
    simp only [Rws] at hS'
    go_simp
    with_reducible refine (leftR_lit _ 8 8 (by decide) _ (bits32 _ _ _).1 (bits32 _ _ _).2 (by decide)).mono ?_
    rintro e w'' ⟨rfl, hb⟩
    refine ⟨_, rfl, ?_, hb⟩
    rfl
  (try simp only [Act.put, List.setIfInBounds_toArray, List.set_cons_zero, List.set_cons_succ])
  refine wpAnyK_take (i := 9) (v := ?_) (by simp only [List.getElem?_toArray, List.getElem?_cons_succ, List.getElem?_cons_zero]; rfl) (by kernel_rfl) (by kernel_rfl) (by kernel_rfl) (by kernel_rfl) (by first | exact fun _ _ _ h => h | exact fun _ _ _ h => by cases h.1) (Rws.grow _) (Or.inl ⟨by rfl, ?_⟩) hS ?_
  rotate_left
  · intro w' hS'
    simp only [Rws] at hS'
    go_simp
    refine ⟨?_, Below.refl _ _⟩
    rfl
  (try simp only [Act.put, List.setIfInBounds_toArray, List.set_cons_zero, List.set_cons_succ])
  refine wpAnyK_store (k := 10) (by simp only [List.getElem?_toArray, List.getElem?_cons_succ, List.getElem?_cons_zero]; rfl) rfl rfl (by kernel_rfl) (fun u hu => ?_)
  have eL : (l5).set d (rotI (bits .xor .u32 (l5)[d] (l5)[a]) 8) = l6 := by rw [← E6.out, xorL, getD_elemI _ _ x1, getD_elemI _ _ x2]
  have zu := hu.size
  replace zu : w5.heap.size ≤ u.heap.size := zu
  have ru : row u w.heap.size = (u32s l5).toArray := by rw [row_below hu (show _ < w5.heap.size by omega)]; exact r5
  have su : row u (w.heap.size + 1) = (zeros 16 (Value.int .u32 0)).toArray := by rw [row_below hu (show _ < w5.heap.size by omega)]; exact s5
  have bu : Below w.heap.size w u := Below.trans b5 ((below_step (Below.drew (Below.refl _ _)) hu).mono (by omega))
  obtain ⟨v, hv⟩ : ∃ v, u.setRow w.heap.size (u32s l6).toArray = v := ⟨_, rfl⟩
  have rv : row v w.heap.size = (u32s l6).toArray := by rw [← hv]; exact row_setRow_same (by rw [ru]; simp; omega) (by rw [ru]; simp; omega)
  have sv : row v (w.heap.size + 1) = (zeros 16 (Value.int .u32 0)).toArray := by rw [← hv]; simp [go_sem, su]
  have zv : v.heap.size = u.heap.size := by rw [← hv]; simp
  have bv : Below w.heap.size w v := by rw [← hv]; exact Below.setRow bu (by omega) _
  refine ⟨v, by go_simp; (try rw [eL, hv]), trivial, fun hS2 => ?_⟩
  clear eL hv hu ru su bu
  (try simp only [Act.put, List.setIfInBounds_toArray, List.set_cons_zero, List.set_cons_succ])
  refine wpAnyR_done (by kernel_rfl) (fun w6 h6 => ?_) _
  have z6 := h6.size
  replace z6 : w.heap.size + 2 ≤ w6.heap.size := by omega
  have r6 : row w6 w.heap.size = (u32s l6).toArray := by rw [row_below h6 (by omega)]; exact rv
  have s6 : row w6 (w.heap.size + 1) = (zeros 16 (Value.int .u32 0)).toArray := by rw [row_below h6 (by omega)]; exact sv
  have b6 : Below w.heap.size w w6 := Below.trans bv (h6.mono (by omega))
  clear h6 bv rv sv zu zv x1 x2 b5 r5 s5 z5
  clear hS hS2
  clear v u
  clear w5
  go_wp2_with fail
  have x1 : c < (l6).length := by omega
  have x2 : d < (l6).length := by omega
  refine wp_region_beginK 9 [(w.heap.size, (u32s l6).toArray)] [] rfl (by simp only [Rws]; (repeat (first | exact trivial | refine ⟨(by first | assumption | (simp [go_sem, *]; done)), (by first | omega | (simp; done) | (simp; omega)), ?_⟩))) (fun hS => ?_)
  refine wpAnyK_take (i := 0) (v := ?_) (by simp only [List.getElem?_toArray, List.getElem?_cons_succ, List.getElem?_cons_zero]; rfl) (by kernel_rfl) (by kernel_rfl) (by kernel_rfl) (by kernel_rfl) (by first | exact fun _ _ _ h => h | exact fun _ _ _ h => by cases h.1) (Rws.grow _) (Or.inl ⟨by rfl, ?_⟩) hS ?_
  rotate_left
  · intro w' hS'
    simp only [Rws] at hS'
    go_simp
    refine ⟨?_, Below.refl _ _⟩
    rfl
  (try simp only [Act.put, List.setIfInBounds_toArray, List.set_cons_zero, List.set_cons_succ])
  refine wpAnyK_take (i := 1) (v := ?_) (by simp only [List.getElem?_toArray, List.getElem?_cons_succ, List.getElem?_cons_zero]; rfl) (by kernel_rfl) (by kernel_rfl) (by kernel_rfl) (by kernel_rfl) (by first | exact fun _ _ _ h => h | exact fun _ _ _ h => by cases h.1) (Rws.grow _) (Or.inl ⟨by rfl, ?_⟩) hS ?_
  rotate_left
  · intro w' hS'
    simp only [Rws] at hS'
    go_simp
    refine ⟨?_, Below.refl _ _⟩
    rfl
  (try simp only [Act.put, List.setIfInBounds_toArray, List.set_cons_zero, List.set_cons_succ])
  refine wpAnyK_take (i := 2) (v := ?_) (by simp only [List.getElem?_toArray, List.getElem?_cons_succ, List.getElem?_cons_zero]; rfl) (by kernel_rfl) (by kernel_rfl) (by kernel_rfl) (by kernel_rfl) (by first | exact fun _ _ _ h => h | exact fun _ _ _ h => by cases h.1) (Rws.grow _) (Or.inl ⟨by rfl, ?_⟩) hS ?_
  rotate_left
  · intro w' hS'
    simp only [Rws] at hS'
    go_simp
    refine ⟨?_, Below.refl _ _⟩
    rfl
  (try simp only [Act.put, List.setIfInBounds_toArray, List.set_cons_zero, List.set_cons_succ])
  refine wpAnyK_take (i := 3) (v := ?_) (by simp only [List.getElem?_toArray, List.getElem?_cons_succ, List.getElem?_cons_zero]; rfl) (by kernel_rfl) (by kernel_rfl) (by kernel_rfl) (by kernel_rfl) (by first | exact fun _ _ _ h => h | exact fun _ _ _ h => by cases h.1) (Rws.grow _) (Or.inl ⟨by rfl, ?_⟩) hS ?_
  rotate_left
  · intro w' hS'
    simp only [Rws] at hS'
    go_simp
    refine ⟨?_, Below.refl _ _⟩
    rfl
  (try simp only [Act.put, List.setIfInBounds_toArray, List.set_cons_zero, List.set_cons_succ])
  refine wpAnyK_take (i := 4) (v := ?_) (by simp only [List.getElem?_toArray, List.getElem?_cons_succ, List.getElem?_cons_zero]; rfl) (by kernel_rfl) (by kernel_rfl) (by kernel_rfl) (by kernel_rfl) (by first | exact fun _ _ _ h => h | exact fun _ _ _ h => by cases h.1) (Rws.grow _) (Or.inl ⟨by rfl, ?_⟩) hS ?_
  rotate_left
  · intro w' hS'
    simp only [Rws] at hS'
    go_simp
    refine ⟨?_, Below.refl _ _⟩
    rfl
  (try simp only [Act.put, List.setIfInBounds_toArray, List.set_cons_zero, List.set_cons_succ])
  refine wpAnyK_take (i := 5) (v := ?_) (by simp only [List.getElem?_toArray, List.getElem?_cons_succ, List.getElem?_cons_zero]; rfl) (by kernel_rfl) (by kernel_rfl) (by kernel_rfl) (by kernel_rfl) (by first | exact fun _ _ _ h => h | exact fun _ _ _ h => by cases h.1) (Rws.grow _) (Or.inl ⟨by rfl, ?_⟩) hS ?_
  rotate_left
  · intro w' hS'
    simp only [Rws] at hS'
    go_simp
    refine ⟨?_, Below.refl _ _⟩
    rfl
  (try simp only [Act.put, List.setIfInBounds_toArray, List.set_cons_zero, List.set_cons_succ])
  refine wpAnyK_take (i := 6) (v := ?_) (by simp only [List.getElem?_toArray, List.getElem?_cons_succ, List.getElem?_cons_zero]; rfl) (by kernel_rfl) (by kernel_rfl) (by kernel_rfl) (by kernel_rfl) (by first | exact fun _ _ _ h => h | exact fun _ _ _ h => by cases h.1) (Rws.grow _) (Or.inl ⟨by rfl, ?_⟩) hS ?_
  rotate_left
  · intro w' hS'
    simp only [Rws] at hS'
    go_simp
    refine ⟨?_, Below.refl _ _⟩
    rfl
  (try simp only [Act.put, List.setIfInBounds_toArray, List.set_cons_zero, List.set_cons_succ])
  refine wpAnyK_take (i := 7) (v := ?_) (by simp only [List.getElem?_toArray, List.getElem?_cons_succ, List.getElem?_cons_zero]; rfl) (by kernel_rfl) (by kernel_rfl) (by kernel_rfl) (by kernel_rfl) (by first | exact fun _ _ _ h => h | exact fun _ _ _ h => by cases h.1) (Rws.grow _) (Or.inl ⟨by rfl, ?_⟩) hS ?_
  rotate_left
  · intro w' hS'
    simp only [Rws] at hS'
    go_simp
    refine ⟨?_, Below.refl _ _⟩
    rfl
  (try simp only [Act.put, List.setIfInBounds_toArray, List.set_cons_zero, List.set_cons_succ])
  refine wpAnyK_take (i := 8) (v := ?_) (by simp only [List.getElem?_toArray, List.getElem?_cons_succ, List.getElem?_cons_zero]; rfl) (by kernel_rfl) (by kernel_rfl) (by kernel_rfl) (by kernel_rfl) (by first | exact fun _ _ _ h => h | exact fun _ _ _ h => by cases h.1) (Rws.grow _) (Or.inl ⟨by rfl, ?_⟩) hS ?_
  rotate_left
  · intro w' hS'
    simp only [Rws] at hS'
    go_simp
    refine ⟨?_, Below.refl _ _⟩
    rfl
  (try simp only [Act.put, List.setIfInBounds_toArray, List.set_cons_zero, List.set_cons_succ])
  refine wpAnyK_store (k := 9) (by simp only [List.getElem?_toArray, List.getElem?_cons_succ, List.getElem?_cons_zero]; rfl) rfl rfl (by kernel_rfl) (fun u hu => ?_)
  have eL : (l6).set c (IntKind.u32.wrap ((l6)[c] + (l6)[d])) = l7 := by rw [← E7.out, addR, IntKind.wrap_u32, getD_elemI _ _ x1, getD_elemI _ _ x2]
  have zu := hu.size
  replace zu : w6.heap.size ≤ u.heap.size := zu
  have ru : row u w.heap.size = (u32s l6).toArray := by rw [row_below hu (show _ < w6.heap.size by omega)]; exact r6
  have su : row u (w.heap.size + 1) = (zeros 16 (Value.int .u32 0)).toArray := by rw [row_below hu (show _ < w6.heap.size by omega)]; exact s6
  have bu : Below w.heap.size w u := Below.trans b6 ((below_step (Below.drew (Below.refl _ _)) hu).mono (by omega))
  obtain ⟨v, hv⟩ : ∃ v, u.setRow w.heap.size (u32s l7).toArray = v := ⟨_, rfl⟩
  have rv : row v w.heap.size = (u32s l7).toArray := by rw [← hv]; exact row_setRow_same (by rw [ru]; simp; omega) (by rw [ru]; simp; omega)
  have sv : row v (w.heap.size + 1) = (zeros 16 (Value.int .u32 0)).toArray := by rw [← hv]; simp [go_sem, su]
  have zv : v.heap.size = u.heap.size := by rw [← hv]; simp
  have bv : Below w.heap.size w v := by rw [← hv]; exact Below.setRow bu (by omega) _
  refine ⟨v, by go_simp; (try rw [eL, hv]), trivial, fun hS2 => ?_⟩
  clear eL hv hu ru su bu
  (try simp only [Act.put, List.setIfInBounds_toArray, List.set_cons_zero, List.set_cons_succ])
  refine wpAnyR_done (by kernel_rfl) (fun w7 h7 => ?_) _
  have z7 := h7.size
  replace z7 : w.heap.size + 2 ≤ w7.heap.size := by omega
  have r7 : row w7 w.heap.size = (u32s l7).toArray := by rw [row_below h7 (by omega)]; exact rv
  have s7 : row w7 (w.heap.size + 1) = (zeros 16 (Value.int .u32 0)).toArray := by rw [row_below h7 (by omega)]; exact sv
  have b7 : Below w.heap.size w w7 := Below.trans bv (h7.mono (by omega))
  clear h7 bv rv sv zu zv x1 x2 b6 r6 s6 z6
  clear hS hS2
  clear v u
  clear w6
  go_wp2_with fail
  have x1 : b < (l7).length := by omega
  have x2 : c < (l7).length := by omega
  refine wp_region_beginK 10 [(w.heap.size, (u32s l7).toArray)] [] rfl (by simp only [Rws]; (repeat (first | exact trivial | refine ⟨(by first | assumption | (simp [go_sem, *]; done)), (by first | omega | (simp; done) | (simp; omega)), ?_⟩))) (fun hS => ?_)
  refine wpAnyK_take (i := 0) (v := ?_) (by simp only [List.getElem?_toArray, List.getElem?_cons_succ, List.getElem?_cons_zero]; rfl) (by kernel_rfl) (by kernel_rfl) (by kernel_rfl) (by kernel_rfl) (by first | exact fun _ _ _ h => h | exact fun _ _ _ h => by cases h.1) (Rws.grow _) (Or.inl ⟨by rfl, ?_⟩) hS ?_
  rotate_left
  · intro w' hS'
    simp only [Rws] at hS'
    go_simp
    refine ⟨?_, Below.refl _ _⟩
    rfl
  (try simp only [Act.put, List.setIfInBounds_toArray, List.set_cons_zero, List.set_cons_succ])
  refine wpAnyK_take (i := 1) (v := ?_) (by simp only [List.getElem?_toArray, List.getElem?_cons_succ, List.getElem?_cons_zero]; rfl) (by kernel_rfl) (by kernel_rfl) (by kernel_rfl) (by kernel_rfl) (by first | exact fun _ _ _ h => h | exact fun _ _ _ h => by cases h.1) (Rws.grow _) (Or.inl ⟨by rfl, ?_⟩) hS ?_
  rotate_left
  · intro w' hS'
    simp only [Rws] at hS'
    go_simp
    refine ⟨?_, Below.refl _ _⟩
    rfl
  (try simp only [Act.put, List.setIfInBounds_toArray, List.set_cons_zero, List.set_cons_succ])
  refine wpAnyK_take (i := 2) (v := ?_) (by simp only [List.getElem?_toArray, List.getElem?_cons_succ, List.getElem?_cons_zero]; rfl) (by kernel_rfl) (by kernel_rfl) (by kernel_rfl) (by kernel_rfl) (by first | exact fun _ _ _ h => h | exact fun _ _ _ h => by cases h.1) (Rws.grow _) (Or.inl ⟨by rfl, ?_⟩) hS ?_
  rotate_left
  · intro w' hS'
    simp only [Rws] at hS'
    go_simp
    refine ⟨?_, Below.refl _ _⟩
    rfl
  (try simp only [Act.put, List.setIfInBounds_toArray, List.set_cons_zero, List.set_cons_succ])
  refine wpAnyK_take (i := 3) (v := ?_) (by simp only [List.getElem?_toArray, List.getElem?_cons_succ, List.getElem?_cons_zero]; rfl) (by kernel_rfl) (by kernel_rfl) (by kernel_rfl) (by kernel_rfl) (by first | exact fun _ _ _ h => h | exact fun _ _ _ h => by cases h.1) (Rws.grow _) (Or.inl ⟨by rfl, ?_⟩) hS ?_
  rotate_left
  · intro w' hS'
    simp only [Rws] at hS'
    go_simp
    refine ⟨?_, Below.refl _ _⟩
    rfl
  (try simp only [Act.put, List.setIfInBounds_toArray, List.set_cons_zero, List.set_cons_succ])
  refine wpAnyK_take (i := 4) (v := ?_) (by simp only [List.getElem?_toArray, List.getElem?_cons_succ, List.getElem?_cons_zero]; rfl) (by kernel_rfl) (by kernel_rfl) (by kernel_rfl) (by kernel_rfl) (by first | exact fun _ _ _ h => h | exact fun _ _ _ h => by cases h.1) (Rws.grow _) (Or.inl ⟨by rfl, ?_⟩) hS ?_
  rotate_left
  · intro w' hS'
    simp only [Rws] at hS'
    go_simp
    refine ⟨?_, Below.refl _ _⟩
    rfl
  (try simp only [Act.put, List.setIfInBounds_toArray, List.set_cons_zero, List.set_cons_succ])
  refine wpAnyK_take (i := 5) (v := ?_) (by simp only [List.getElem?_toArray, List.getElem?_cons_succ, List.getElem?_cons_zero]; rfl) (by kernel_rfl) (by kernel_rfl) (by kernel_rfl) (by kernel_rfl) (by first | exact fun _ _ _ h => h | exact fun _ _ _ h => by cases h.1) (Rws.grow _) (Or.inl ⟨by rfl, ?_⟩) hS ?_
  rotate_left
  · intro w' hS'
    simp only [Rws] at hS'
    go_simp
    refine ⟨?_, Below.refl _ _⟩
    rfl
  (try simp only [Act.put, List.setIfInBounds_toArray, List.set_cons_zero, List.set_cons_succ])
  refine wpAnyK_take (i := 6) (v := ?_) (by simp only [List.getElem?_toArray, List.getElem?_cons_succ, List.getElem?_cons_zero]; rfl) (by kernel_rfl) (by kernel_rfl) (by kernel_rfl) (by kernel_rfl) (by first | exact fun _ _ _ h => h | exact fun _ _ _ h => by cases h.1) (Rws.grow _) (Or.inl ⟨by rfl, ?_⟩) hS ?_
  rotate_left
  · intro w' hS'
    simp only [Rws] at hS'
    go_simp
    refine ⟨?_, Below.refl _ _⟩
    rfl
  (try simp only [Act.put, List.setIfInBounds_toArray, List.set_cons_zero, List.set_cons_succ])
  refine wpAnyK_take (i := 7) (v := ?_) (by simp only [List.getElem?_toArray, List.getElem?_cons_succ, List.getElem?_cons_zero]; rfl) (by kernel_rfl) (by kernel_rfl) (by kernel_rfl) (by kernel_rfl) (by first | exact fun _ _ _ h => h | exact fun _ _ _ h => by cases h.1) (Rws.grow _) (Or.inl ⟨by rfl, ?_⟩) hS ?_
  rotate_left
  · intro w' hS'
    simp only [Rws] at hS'
    go_simp
    refine ⟨?_, Below.refl _ _⟩
    rfl
  (try simp only [Act.put, List.setIfInBounds_toArray, List.set_cons_zero, List.set_cons_succ])
  refine wpAnyK_take (i := 8) (v := ?_) (by simp only [List.getElem?_toArray, List.getElem?_cons_succ, List.getElem?_cons_zero]; rfl) (by kernel_rfl) (by kernel_rfl) (by kernel_rfl) (by kernel_rfl) (by first | exact fun _ _ _ h => h | exact fun _ _ _ h => by cases h.1) (Rws.grow _) (Or.inl ⟨by rfl, ?_⟩) hS ?_
  rotate_left
  · intro w' hS'
    simp only [Rws] at hS'
    go_simp
    with_reducible refine (leftR_lit _ 7 7 (by decide) _ (bits32 _ _ _).1 (bits32 _ _ _).2 (by decide)).mono ?_
    rintro e w'' ⟨rfl, hb⟩
    refine ⟨_, rfl, ?_, hb⟩
    rfl
  (try simp only [Act.put, List.setIfInBounds_toArray, List.set_cons_zero, List.set_cons_succ])
  refine wpAnyK_take (i := 9) (v := ?_) (by simp only [List.getElem?_toArray, List.getElem?_cons_succ, List.getElem?_cons_zero]; rfl) (by kernel_rfl) (by kernel_rfl) (by kernel_rfl) (by kernel_rfl) (by first | exact fun _ _ _ h => h | exact fun _ _ _ h => by cases h.1) (Rws.grow _) (Or.inl ⟨by rfl, ?_⟩) hS ?_
  rotate_left
  · intro w' hS'
    simp only [Rws] at hS'
    go_simp
    refine ⟨?_, Below.refl _ _⟩
    rfl
  (try simp only [Act.put, List.setIfInBounds_toArray, List.set_cons_zero, List.set_cons_succ])
  refine wpAnyK_store (k := 10) (by simp only [List.getElem?_toArray, List.getElem?_cons_succ, List.getElem?_cons_zero]; rfl) rfl rfl (by kernel_rfl) (fun u hu => ?_)
  have eL : (l7).set b (rotI (bits .xor .u32 (l7)[b] (l7)[c]) 7) = l8 := by rw [← E8.out, xorL, getD_elemI _ _ x1, getD_elemI _ _ x2]
  have zu := hu.size
  replace zu : w7.heap.size ≤ u.heap.size := zu
  have ru : row u w.heap.size = (u32s l7).toArray := by rw [row_below hu (show _ < w7.heap.size by omega)]; exact r7
  have su : row u (w.heap.size + 1) = (zeros 16 (Value.int .u32 0)).toArray := by rw [row_below hu (show _ < w7.heap.size by omega)]; exact s7
  have bu : Below w.heap.size w u := Below.trans b7 ((below_step (Below.drew (Below.refl _ _)) hu).mono (by omega))
  obtain ⟨v, hv⟩ : ∃ v, u.setRow w.heap.size (u32s l8).toArray = v := ⟨_, rfl⟩
  have rv : row v w.heap.size = (u32s l8).toArray := by rw [← hv]; exact row_setRow_same (by rw [ru]; simp; omega) (by rw [ru]; simp; omega)
  have sv : row v (w.heap.size + 1) = (zeros 16 (Value.int .u32 0)).toArray := by rw [← hv]; simp [go_sem, su]
  have zv : v.heap.size = u.heap.size := by rw [← hv]; simp
  have bv : Below w.heap.size w v := by rw [← hv]; exact Below.setRow bu (by omega) _
  refine ⟨v, by go_simp; (try rw [eL, hv]), trivial, fun hS2 => ?_⟩
  clear eL hv hu ru su bu
  (try simp only [Act.put, List.setIfInBounds_toArray, List.set_cons_zero, List.set_cons_succ])
  refine wpAnyR_done (by kernel_rfl) (fun w8 h8 => ?_) _
  have z8 := h8.size
  replace z8 : w.heap.size + 2 ≤ w8.heap.size := by omega
  have r8 : row w8 w.heap.size = (u32s l8).toArray := by rw [row_below h8 (by omega)]; exact rv
  have s8 : row w8 (w.heap.size + 1) = (zeros 16 (Value.int .u32 0)).toArray := by rw [row_below h8 (by omega)]; exact sv
  have b8 : Below w.heap.size w w8 := Below.trans bv (h8.mono (by omega))
  clear h8 bv rv sv zu zv x1 x2 b7 r7 s7 z7
  clear hS hS2
  clear v u
  clear w7
  go_wp2_with fail
  have hfin := row_setRow_same (w := w8) (g := w.heap.size + 1) (c := (u32s l8).toArray) (by rw [s8]; simp [n8]) (by rw [s8]; simp [n8])
  (try simp only [Exit.inBlock, Exit.then])
  refine bodyPost_ret (results_1 rfl (resOk_row rfl ?_)) rfl ⟨?_, ?_⟩
  · rw [hfin]; simp [n8]
  · rw [hfin]
  · exact Below.setRow b8 (by omega) _
end Go.Proofs.Ytjeclimoknilcaa
