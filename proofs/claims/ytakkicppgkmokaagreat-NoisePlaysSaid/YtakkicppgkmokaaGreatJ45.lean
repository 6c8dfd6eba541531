/- Texts of this proof, merged: RfQ, RfP, RfB. -/
import Derived.Test.YtakkicppgkmokaaGreatRfAJ
import Derived.Test.YtakkicppgkmokaaGreatJ3
import Derived.Test.YtakkicppgkmokaaGreatChaMJ
set_option linter.unusedSimpArgs false
set_option linter.unusedVariables false
namespace Go.Proofs.YtakkicppgkmokaaGreat
section
open Go.RowKit
theorem leftR_any (x : Int) (n : Nat) (w : World) (h0 : 0 ≤ x) (h : x < 4294967296) (hn : n ≤ 31) :
  Calls Tryz.prog 155 #[.int .u32 x, .int .i64 n] w fun e w' => e = .returned (.int .u32 (rotI x n)) ∧ Below w.heap.size w w' := by
 refine (left_any x n w h0 h (by omega)).mono ?_
 rintro e w' ⟨rfl, rfl⟩
 exact ⟨by rw [left_sum n hn x h0 h, rot_leftS n hn x h0 h], Below.refl _ _⟩
theorem leftR_lit (x : Int) (n : Nat) (m : Int) (hm : m = (n : Int)) (w : World) (h0 : 0 ≤ x) (h : x < 4294967296) (hn : n ≤ 31) :
  Calls Tryz.prog 155 #[.int .u32 x, .int .i64 m] w fun e w' => e = .returned (.int .u32 (rotI x n)) ∧ Below w.heap.size w w' := by
 subst hm
 exact leftR_any x n w h0 h hn
theorem bits32 (op : BinOp) (x y : Int) : 0 ≤ bits op .u32 x y ∧ bits op .u32 x y < 4294967296 := by
 unfold bits
 split <;> (rw [IntKind.wrap_u32]; omega)
theorem getD_elemI (l : List Int) (i : Nat) (h : i < l.length) : l.getD i 0 = l[i] := by simp [List.getD_eq_getElem?_getD, h]
def addR (l : List Int) (a b : Nat) : List Int := l.set a ((l.getD a 0 + l.getD b 0) % 4294967296)
def xorL (l : List Int) (d a n : Nat) : List Int := l.set d (rotI (bits .xor .u32 (l.getD d 0) (l.getD a 0)) n)
theorem addR_length (l : List Int) (a b : Nat) : (addR l a b).length = l.length := by simp [addR]
theorem xorL_length (l : List Int) (a b n : Nat) : (xorL l a b n).length = l.length := by simp [xorL]
def quarL (l : List Int) (a b c d : Nat) : List Int :=
 xorL (addR (xorL (addR (xorL (addR (xorL (addR l a b) d a 16) c d) b c 12) a b) d a 8) c d) b c 7
set_option maxRecDepth 20000 in
set_option maxHeartbeats 2000000 in
theorem quarterR_any (l : List Int) (a b c d : Nat) (w : World) (hl : l.length = 16) (ha : a < 16) (hb : b < 16) (hc : c < 16) (hd : d < 16) :
  Calls Tryz.prog 128 #[.agg (u32s l).toArray, .int .i64 a, .int .i64 b, .int .i64 c, .int .i64 d] w fun e w' => e = .returned (.agg (u32s (quarL l a b c d)).toArray) ∧ Below w.heap.size w w' := by
 have ia : (a : Int) < 16 := by omega
 have ib : (b : Int) < 16 := by omega
 have ic : (c : Int) < 16 := by omega
 have id : (d : Int) < 16 := by omega
 obtain ⟨l1, e1⟩ : ∃ x, addR l a b = x := ⟨_, rfl⟩
 obtain ⟨l2, e2⟩ : ∃ x, xorL l1 d a 16 = x := ⟨_, rfl⟩
 obtain ⟨l3, e3⟩ : ∃ x, addR l2 c d = x := ⟨_, rfl⟩
 obtain ⟨l4, e4⟩ : ∃ x, xorL l3 b c 12 = x := ⟨_, rfl⟩
 obtain ⟨l5, e5⟩ : ∃ x, addR l4 a b = x := ⟨_, rfl⟩
 obtain ⟨l6, e6⟩ : ∃ x, xorL l5 d a 8 = x := ⟨_, rfl⟩
 obtain ⟨l7, e7⟩ : ∃ x, addR l6 c d = x := ⟨_, rfl⟩
 obtain ⟨l8, e8⟩ : ∃ x, xorL l7 b c 7 = x := ⟨_, rfl⟩
 have e9 : quarL l a b c d = l8 := by rw [quarL, e1, e2, e3, e4, e5, e6, e7, e8]
 rw [e9]
 have n1 : l1.length = 16 := by rw [← e1, addR_length]; exact hl
 have n2 : l2.length = 16 := by rw [← e2, xorL_length]; exact n1
 have n3 : l3.length = 16 := by rw [← e3, addR_length]; exact n2
 have n4 : l4.length = 16 := by rw [← e4, xorL_length]; exact n3
 have n5 : l5.length = 16 := by rw [← e5, addR_length]; exact n4
 have n6 : l6.length = 16 := by rw [← e6, xorL_length]; exact n5
 have n7 : l7.length = 16 := by rw [← e7, addR_length]; exact n6
 have n8 : l8.length = 16 := by rw [← e8, xorL_length]; exact n7
 have E1 := Lib.hid e1
 have E2 := Lib.hid e2
 have E3 := Lib.hid e3
 have E4 := Lib.hid e4
 have E5 := Lib.hid e5
 have E6 := Lib.hid e6
 have E7 := Lib.hid e7
 have E8 := Lib.hid e8
 clear e1 e2 e3 e4 e5 e6 e7 e8 e9
 go_enter Tryz.func128, Tryz.ntmps128
 go_wp2_with fail
 obtain ⟨w0, h0⟩ : ∃ x, ((w.alloc (.cells (u32s l).toArray 176)).alloc (.cells (zeros 16 (Value.int .u32 0)).toArray 176)) = x := ⟨_, rfl⟩
 have r0 : row w0 w.heap.size = (u32s l).toArray := by rw [← h0]; simp [go_sem]
 have s0 : row w0 (w.heap.size + 1) = (zeros 16 (Value.int .u32 0)).toArray := by rw [← h0]; simp [go_sem]
 have z0 : w0.heap.size = w.heap.size + 2 := by rw [← h0]; simp
 have b0 : Below w.heap.size w w0 := by
  rw [← h0]
  (repeat (first | exact Below.refl _ _ | refine Below.al ?_ _ | refine Below.drew ?_ | refine Below.sr ?_ _ | refine Below.sc ?_ _))
 rw [h0]
 clear h0
 have x1 : a < (l).length := by omega
 have x2 : b < (l).length := by omega
 refine wp_region_beginK 9 [(w.heap.size, (u32s l).toArray)] [] rfl (by simp only [Rws]; (repeat (first | exact trivial | refine ⟨(by first | assumption | (simp [go_sem, *]; done)), (by first | omega | (simp; done) | (simp; omega)), ?_⟩))) (fun hS => ?_)
 refine kp 0 hS ?_
 refine kp 1 hS ?_
 refine kp 2 hS ?_
 refine kp 3 hS ?_
 refine kp 4 hS ?_
 refine kp 5 hS ?_
 refine kp 6 hS ?_
 refine kp 7 hS ?_
 refine kp 8 hS ?_
 refine wpAnyK_store (k := 9) (by simp only [List.getElem?_toArray, List.getElem?_cons_succ, List.getElem?_cons_zero]; rfl) rfl rfl (by kernel_rfl) (fun u hu => ?_)
 have eL : (l).set a (IntKind.u32.wrap ((l)[a] + (l)[b])) = l1 := by rw [← E1.out, addR, IntKind.wrap_u32, getD_elemI _ _ x1, getD_elemI _ _ x2]
 have zu := hu.size
 replace zu : w0.heap.size ≤ u.heap.size := zu
 have ru : row u w.heap.size = (u32s l).toArray := by rw [row_below hu (show _ < w0.heap.size by omega)]; exact r0
 have su : row u (w.heap.size + 1) = (zeros 16 (Value.int .u32 0)).toArray := by rw [row_below hu (show _ < w0.heap.size by omega)]; exact s0
 have bu : Below w.heap.size w u := Below.trans b0 ((below_step (Below.drew (Below.refl _ _)) hu).mono (by omega))
 obtain ⟨v, hv⟩ : ∃ v, u.setRow w.heap.size (u32s l1).toArray = v := ⟨_, rfl⟩
 have rv : row v w.heap.size = (u32s l1).toArray := by rw [← hv]; exact row_setRow_same (by rw [ru]; simp; omega) (by rw [ru]; simp; omega)
 have sv : row v (w.heap.size + 1) = (zeros 16 (Value.int .u32 0)).toArray := by rw [← hv]; simp [go_sem, su]
 have zv : v.heap.size = u.heap.size := by rw [← hv]; simp
 have bv : Below w.heap.size w v := by rw [← hv]; exact Below.setRow bu (by omega) _
 refine ⟨v, by go_simp; (try rw [eL, hv]), trivial, fun hS2 => ?_⟩
 clear eL hv hu ru su bu
 (try simp only [Act.put, List.setIfInBounds_toArray, List.set_cons_zero, List.set_cons_succ])
 refine wpAnyR_done (by kernel_rfl) (fun w1 h1 => ?_) _
 have z1 := h1.size
 replace z1 : w.heap.size + 2 ≤ w1.heap.size := by omega
 have r1 : row w1 w.heap.size = (u32s l1).toArray := by rw [row_below h1 (by omega)]; exact rv
 have s1 : row w1 (w.heap.size + 1) = (zeros 16 (Value.int .u32 0)).toArray := by rw [row_below h1 (by omega)]; exact sv
 have b1 : Below w.heap.size w w1 := Below.trans bv (h1.mono (by omega))
 clear h1 bv rv sv zu zv x1 x2 b0 r0 s0 z0
 clear hS hS2
 clear v u
 clear w0
 go_wp2_with fail
 have x1 : d < (l1).length := by omega
 have x2 : a < (l1).length := by omega
 refine wp_region_beginK 10 [(w.heap.size, (u32s l1).toArray)] [] rfl (by simp only [Rws]; (repeat (first | exact trivial | refine ⟨(by first | assumption | (simp [go_sem, *]; done)), (by first | omega | (simp; done) | (simp; omega)), ?_⟩))) (fun hS => ?_)
 refine kp 0 hS ?_
 refine kp 1 hS ?_
 refine kp 2 hS ?_
 refine kp 3 hS ?_
 refine kp 4 hS ?_
 refine kp 5 hS ?_
 refine kp 6 hS ?_
 refine kp 7 hS ?_
 refine wpAnyK_take (i := 8) (v := ?_) (by simp only [List.getElem?_toArray, List.getElem?_cons_succ, List.getElem?_cons_zero]; rfl) (by kernel_rfl) (by kernel_rfl) (by kernel_rfl) (by kernel_rfl) (by first | exact fun _ _ _ h => h | exact fun _ _ _ h => by cases h.1) (Rws.grow _) (Or.inl ⟨by rfl, ?_⟩) hS ?_
 rotate_left
 ·
  intro w' hS'
  simp only [Rws] at hS'
  go_simp
  with_reducible refine (leftR_lit _ 16 16 (by decide) _ (bits32 _ _ _).1 (bits32 _ _ _).2 (by decide)).mono ?_
  rintro e w'' ⟨rfl, hb⟩
  refine ⟨_, rfl, ?_, hb⟩
  rfl
 (try simp only [Act.put, List.setIfInBounds_toArray, List.set_cons_zero, List.set_cons_succ])
 refine kp 9 hS ?_
 refine wpAnyK_store (k := 10) (by simp only [List.getElem?_toArray, List.getElem?_cons_succ, List.getElem?_cons_zero]; rfl) rfl rfl (by kernel_rfl) (fun u hu => ?_)
 have eL : (l1).set d (rotI (bits .xor .u32 (l1)[d] (l1)[a]) 16) = l2 := by rw [← E2.out, xorL, getD_elemI _ _ x1, getD_elemI _ _ x2]
 have zu := hu.size
 replace zu : w1.heap.size ≤ u.heap.size := zu
 have ru : row u w.heap.size = (u32s l1).toArray := by rw [row_below hu (show _ < w1.heap.size by omega)]; exact r1
 have su : row u (w.heap.size + 1) = (zeros 16 (Value.int .u32 0)).toArray := by rw [row_below hu (show _ < w1.heap.size by omega)]; exact s1
 have bu : Below w.heap.size w u := Below.trans b1 ((below_step (Below.drew (Below.refl _ _)) hu).mono (by omega))
 obtain ⟨v, hv⟩ : ∃ v, u.setRow w.heap.size (u32s l2).toArray = v := ⟨_, rfl⟩
 have rv : row v w.heap.size = (u32s l2).toArray := by rw [← hv]; exact row_setRow_same (by rw [ru]; simp; omega) (by rw [ru]; simp; omega)
 have sv : row v (w.heap.size + 1) = (zeros 16 (Value.int .u32 0)).toArray := by rw [← hv]; simp [go_sem, su]
 have zv : v.heap.size = u.heap.size := by rw [← hv]; simp
 have bv : Below w.heap.size w v := by rw [← hv]; exact Below.setRow bu (by omega) _
 refine ⟨v, by go_simp; (try rw [eL, hv]), trivial, fun hS2 => ?_⟩
 clear eL hv hu ru su bu
 (try simp only [Act.put, List.setIfInBounds_toArray, List.set_cons_zero, List.set_cons_succ])
 refine wpAnyR_done (by kernel_rfl) (fun w2 h2 => ?_) _
 have z2 := h2.size
 replace z2 : w.heap.size + 2 ≤ w2.heap.size := by omega
 have r2 : row w2 w.heap.size = (u32s l2).toArray := by rw [row_below h2 (by omega)]; exact rv
 have s2 : row w2 (w.heap.size + 1) = (zeros 16 (Value.int .u32 0)).toArray := by rw [row_below h2 (by omega)]; exact sv
 have b2 : Below w.heap.size w w2 := Below.trans bv (h2.mono (by omega))
 clear h2 bv rv sv zu zv x1 x2 b1 r1 s1 z1
 clear hS hS2
 clear v u
 clear w1
 go_wp2_with fail
 have x1 : c < (l2).length := by omega
 have x2 : d < (l2).length := by omega
 refine wp_region_beginK 9 [(w.heap.size, (u32s l2).toArray)] [] rfl (by simp only [Rws]; (repeat (first | exact trivial | refine ⟨(by first | assumption | (simp [go_sem, *]; done)), (by first | omega | (simp; done) | (simp; omega)), ?_⟩))) (fun hS => ?_)
 refine kp 0 hS ?_
 refine kp 1 hS ?_
 refine kp 2 hS ?_
 refine kp 3 hS ?_
 refine kp 4 hS ?_
 refine kp 5 hS ?_
 refine kp 6 hS ?_
 refine kp 7 hS ?_
 refine kp 8 hS ?_
 refine wpAnyK_store (k := 9) (by simp only [List.getElem?_toArray, List.getElem?_cons_succ, List.getElem?_cons_zero]; rfl) rfl rfl (by kernel_rfl) (fun u hu => ?_)
 have eL : (l2).set c (IntKind.u32.wrap ((l2)[c] + (l2)[d])) = l3 := by rw [← E3.out, addR, IntKind.wrap_u32, getD_elemI _ _ x1, getD_elemI _ _ x2]
 have zu := hu.size
 replace zu : w2.heap.size ≤ u.heap.size := zu
 have ru : row u w.heap.size = (u32s l2).toArray := by rw [row_below hu (show _ < w2.heap.size by omega)]; exact r2
 have su : row u (w.heap.size + 1) = (zeros 16 (Value.int .u32 0)).toArray := by rw [row_below hu (show _ < w2.heap.size by omega)]; exact s2
 have bu : Below w.heap.size w u := Below.trans b2 ((below_step (Below.drew (Below.refl _ _)) hu).mono (by omega))
 obtain ⟨v, hv⟩ : ∃ v, u.setRow w.heap.size (u32s l3).toArray = v := ⟨_, rfl⟩
 have rv : row v w.heap.size = (u32s l3).toArray := by rw [← hv]; exact row_setRow_same (by rw [ru]; simp; omega) (by rw [ru]; simp; omega)
 have sv : row v (w.heap.size + 1) = (zeros 16 (Value.int .u32 0)).toArray := by rw [← hv]; simp [go_sem, su]
 have zv : v.heap.size = u.heap.size := by rw [← hv]; simp
 have bv : Below w.heap.size w v := by rw [← hv]; exact Below.setRow bu (by omega) _
 refine ⟨v, by go_simp; (try rw [eL, hv]), trivial, fun hS2 => ?_⟩
 clear eL hv hu ru su bu
 (try simp only [Act.put, List.setIfInBounds_toArray, List.set_cons_zero, List.set_cons_succ])
 refine wpAnyR_done (by kernel_rfl) (fun w3 h3 => ?_) _
 have z3 := h3.size
 replace z3 : w.heap.size + 2 ≤ w3.heap.size := by omega
 have r3 : row w3 w.heap.size = (u32s l3).toArray := by rw [row_below h3 (by omega)]; exact rv
 have s3 : row w3 (w.heap.size + 1) = (zeros 16 (Value.int .u32 0)).toArray := by rw [row_below h3 (by omega)]; exact sv
 have b3 : Below w.heap.size w w3 := Below.trans bv (h3.mono (by omega))
 clear h3 bv rv sv zu zv x1 x2 b2 r2 s2 z2
 clear hS hS2
 clear v u
 clear w2
 go_wp2_with fail
 have x1 : b < (l3).length := by omega
 have x2 : c < (l3).length := by omega
 refine wp_region_beginK 10 [(w.heap.size, (u32s l3).toArray)] [] rfl (by simp only [Rws]; (repeat (first | exact trivial | refine ⟨(by first | assumption | (simp [go_sem, *]; done)), (by first | omega | (simp; done) | (simp; omega)), ?_⟩))) (fun hS => ?_)
 refine kp 0 hS ?_
 refine kp 1 hS ?_
 refine kp 2 hS ?_
 refine kp 3 hS ?_
 refine kp 4 hS ?_
 refine kp 5 hS ?_
 refine kp 6 hS ?_
 refine kp 7 hS ?_
 refine wpAnyK_take (i := 8) (v := ?_) (by simp only [List.getElem?_toArray, List.getElem?_cons_succ, List.getElem?_cons_zero]; rfl) (by kernel_rfl) (by kernel_rfl) (by kernel_rfl) (by kernel_rfl) (by first | exact fun _ _ _ h => h | exact fun _ _ _ h => by cases h.1) (Rws.grow _) (Or.inl ⟨by rfl, ?_⟩) hS ?_
 rotate_left
 ·
  intro w' hS'
  simp only [Rws] at hS'
  go_simp
  with_reducible refine (leftR_lit _ 12 12 (by decide) _ (bits32 _ _ _).1 (bits32 _ _ _).2 (by decide)).mono ?_
  rintro e w'' ⟨rfl, hb⟩
  refine ⟨_, rfl, ?_, hb⟩
  rfl
 (try simp only [Act.put, List.setIfInBounds_toArray, List.set_cons_zero, List.set_cons_succ])
 refine kp 9 hS ?_
 refine wpAnyK_store (k := 10) (by simp only [List.getElem?_toArray, List.getElem?_cons_succ, List.getElem?_cons_zero]; rfl) rfl rfl (by kernel_rfl) (fun u hu => ?_)
 have eL : (l3).set b (rotI (bits .xor .u32 (l3)[b] (l3)[c]) 12) = l4 := by rw [← E4.out, xorL, getD_elemI _ _ x1, getD_elemI _ _ x2]
 have zu := hu.size
 replace zu : w3.heap.size ≤ u.heap.size := zu
 have ru : row u w.heap.size = (u32s l3).toArray := by rw [row_below hu (show _ < w3.heap.size by omega)]; exact r3
 have su : row u (w.heap.size + 1) = (zeros 16 (Value.int .u32 0)).toArray := by rw [row_below hu (show _ < w3.heap.size by omega)]; exact s3
 have bu : Below w.heap.size w u := Below.trans b3 ((below_step (Below.drew (Below.refl _ _)) hu).mono (by omega))
 obtain ⟨v, hv⟩ : ∃ v, u.setRow w.heap.size (u32s l4).toArray = v := ⟨_, rfl⟩
 have rv : row v w.heap.size = (u32s l4).toArray := by rw [← hv]; exact row_setRow_same (by rw [ru]; simp; omega) (by rw [ru]; simp; omega)
 have sv : row v (w.heap.size + 1) = (zeros 16 (Value.int .u32 0)).toArray := by rw [← hv]; simp [go_sem, su]
 have zv : v.heap.size = u.heap.size := by rw [← hv]; simp
 have bv : Below w.heap.size w v := by rw [← hv]; exact Below.setRow bu (by omega) _
 refine ⟨v, by go_simp; (try rw [eL, hv]), trivial, fun hS2 => ?_⟩
 clear eL hv hu ru su bu
 (try simp only [Act.put, List.setIfInBounds_toArray, List.set_cons_zero, List.set_cons_succ])
 refine wpAnyR_done (by kernel_rfl) (fun w4 h4 => ?_) _
 have z4 := h4.size
 replace z4 : w.heap.size + 2 ≤ w4.heap.size := by omega
 have r4 : row w4 w.heap.size = (u32s l4).toArray := by rw [row_below h4 (by omega)]; exact rv
 have s4 : row w4 (w.heap.size + 1) = (zeros 16 (Value.int .u32 0)).toArray := by rw [row_below h4 (by omega)]; exact sv
 have b4 : Below w.heap.size w w4 := Below.trans bv (h4.mono (by omega))
 clear h4 bv rv sv zu zv x1 x2 b3 r3 s3 z3
 clear hS hS2
 clear v u
 clear w3
 go_wp2_with fail
 have x1 : a < (l4).length := by omega
 have x2 : b < (l4).length := by omega
 refine wp_region_beginK 9 [(w.heap.size, (u32s l4).toArray)] [] rfl (by simp only [Rws]; (repeat (first | exact trivial | refine ⟨(by first | assumption | (simp [go_sem, *]; done)), (by first | omega | (simp; done) | (simp; omega)), ?_⟩))) (fun hS => ?_)
 refine kp 0 hS ?_
 refine kp 1 hS ?_
 refine kp 2 hS ?_
 refine kp 3 hS ?_
 refine kp 4 hS ?_
 refine kp 5 hS ?_
 refine kp 6 hS ?_
 refine kp 7 hS ?_
 refine kp 8 hS ?_
 refine wpAnyK_store (k := 9) (by simp only [List.getElem?_toArray, List.getElem?_cons_succ, List.getElem?_cons_zero]; rfl) rfl rfl (by kernel_rfl) (fun u hu => ?_)
 have eL : (l4).set a (IntKind.u32.wrap ((l4)[a] + (l4)[b])) = l5 := by rw [← E5.out, addR, IntKind.wrap_u32, getD_elemI _ _ x1, getD_elemI _ _ x2]
 have zu := hu.size
 replace zu : w4.heap.size ≤ u.heap.size := zu
 have ru : row u w.heap.size = (u32s l4).toArray := by rw [row_below hu (show _ < w4.heap.size by omega)]; exact r4
 have su : row u (w.heap.size + 1) = (zeros 16 (Value.int .u32 0)).toArray := by rw [row_below hu (show _ < w4.heap.size by omega)]; exact s4
 have bu : Below w.heap.size w u := Below.trans b4 ((below_step (Below.drew (Below.refl _ _)) hu).mono (by omega))
 obtain ⟨v, hv⟩ : ∃ v, u.setRow w.heap.size (u32s l5).toArray = v := ⟨_, rfl⟩
 have rv : row v w.heap.size = (u32s l5).toArray := by rw [← hv]; exact row_setRow_same (by rw [ru]; simp; omega) (by rw [ru]; simp; omega)
 have sv : row v (w.heap.size + 1) = (zeros 16 (Value.int .u32 0)).toArray := by rw [← hv]; simp [go_sem, su]
 have zv : v.heap.size = u.heap.size := by rw [← hv]; simp
 have bv : Below w.heap.size w v := by rw [← hv]; exact Below.setRow bu (by omega) _
 refine ⟨v, by go_simp; (try rw [eL, hv]), trivial, fun hS2 => ?_⟩
 clear eL hv hu ru su bu
 (try simp only [Act.put, List.setIfInBounds_toArray, List.set_cons_zero, List.set_cons_succ])
 refine wpAnyR_done (by kernel_rfl) (fun w5 h5 => ?_) _
 have z5 := h5.size
 replace z5 : w.heap.size + 2 ≤ w5.heap.size := by omega
 have r5 : row w5 w.heap.size = (u32s l5).toArray := by rw [row_below h5 (by omega)]; exact rv
 have s5 : row w5 (w.heap.size + 1) = (zeros 16 (Value.int .u32 0)).toArray := by rw [row_below h5 (by omega)]; exact sv
 have b5 : Below w.heap.size w w5 := Below.trans bv (h5.mono (by omega))
 clear h5 bv rv sv zu zv x1 x2 b4 r4 s4 z4
 clear hS hS2
 clear v u
 clear w4
 go_wp2_with fail
 have x1 : d < (l5).length := by omega
 have x2 : a < (l5).length := by omega
 refine wp_region_beginK 10 [(w.heap.size, (u32s l5).toArray)] [] rfl (by simp only [Rws]; (repeat (first | exact trivial | refine ⟨(by first | assumption | (simp [go_sem, *]; done)), (by first | omega | (simp; done) | (simp; omega)), ?_⟩))) (fun hS => ?_)
 refine kp 0 hS ?_
 refine kp 1 hS ?_
 refine kp 2 hS ?_
 refine kp 3 hS ?_
 refine kp 4 hS ?_
 refine kp 5 hS ?_
 refine kp 6 hS ?_
 refine kp 7 hS ?_
 refine wpAnyK_take (i := 8) (v := ?_) (by simp only [List.getElem?_toArray, List.getElem?_cons_succ, List.getElem?_cons_zero]; rfl) (by kernel_rfl) (by kernel_rfl) (by kernel_rfl) (by kernel_rfl) (by first | exact fun _ _ _ h => h | exact fun _ _ _ h => by cases h.1) (Rws.grow _) (Or.inl ⟨by rfl, ?_⟩) hS ?_
 rotate_left
 ·
  intro w' hS'
  simp only [Rws] at hS'
  go_simp
  with_reducible refine (leftR_lit _ 8 8 (by decide) _ (bits32 _ _ _).1 (bits32 _ _ _).2 (by decide)).mono ?_
  rintro e w'' ⟨rfl, hb⟩
  refine ⟨_, rfl, ?_, hb⟩
  rfl
 (try simp only [Act.put, List.setIfInBounds_toArray, List.set_cons_zero, List.set_cons_succ])
 refine kp 9 hS ?_
 refine wpAnyK_store (k := 10) (by simp only [List.getElem?_toArray, List.getElem?_cons_succ, List.getElem?_cons_zero]; rfl) rfl rfl (by kernel_rfl) (fun u hu => ?_)
 have eL : (l5).set d (rotI (bits .xor .u32 (l5)[d] (l5)[a]) 8) = l6 := by rw [← E6.out, xorL, getD_elemI _ _ x1, getD_elemI _ _ x2]
 have zu := hu.size
 replace zu : w5.heap.size ≤ u.heap.size := zu
 have ru : row u w.heap.size = (u32s l5).toArray := by rw [row_below hu (show _ < w5.heap.size by omega)]; exact r5
 have su : row u (w.heap.size + 1) = (zeros 16 (Value.int .u32 0)).toArray := by rw [row_below hu (show _ < w5.heap.size by omega)]; exact s5
 have bu : Below w.heap.size w u := Below.trans b5 ((below_step (Below.drew (Below.refl _ _)) hu).mono (by omega))
 obtain ⟨v, hv⟩ : ∃ v, u.setRow w.heap.size (u32s l6).toArray = v := ⟨_, rfl⟩
 have rv : row v w.heap.size = (u32s l6).toArray := by rw [← hv]; exact row_setRow_same (by rw [ru]; simp; omega) (by rw [ru]; simp; omega)
 have sv : row v (w.heap.size + 1) = (zeros 16 (Value.int .u32 0)).toArray := by rw [← hv]; simp [go_sem, su]
 have zv : v.heap.size = u.heap.size := by rw [← hv]; simp
 have bv : Below w.heap.size w v := by rw [← hv]; exact Below.setRow bu (by omega) _
 refine ⟨v, by go_simp; (try rw [eL, hv]), trivial, fun hS2 => ?_⟩
 clear eL hv hu ru su bu
 (try simp only [Act.put, List.setIfInBounds_toArray, List.set_cons_zero, List.set_cons_succ])
 refine wpAnyR_done (by kernel_rfl) (fun w6 h6 => ?_) _
 have z6 := h6.size
 replace z6 : w.heap.size + 2 ≤ w6.heap.size := by omega
 have r6 : row w6 w.heap.size = (u32s l6).toArray := by rw [row_below h6 (by omega)]; exact rv
 have s6 : row w6 (w.heap.size + 1) = (zeros 16 (Value.int .u32 0)).toArray := by rw [row_below h6 (by omega)]; exact sv
 have b6 : Below w.heap.size w w6 := Below.trans bv (h6.mono (by omega))
 clear h6 bv rv sv zu zv x1 x2 b5 r5 s5 z5
 clear hS hS2
 clear v u
 clear w5
 go_wp2_with fail
 have x1 : c < (l6).length := by omega
 have x2 : d < (l6).length := by omega
 refine wp_region_beginK 9 [(w.heap.size, (u32s l6).toArray)] [] rfl (by simp only [Rws]; (repeat (first | exact trivial | refine ⟨(by first | assumption | (simp [go_sem, *]; done)), (by first | omega | (simp; done) | (simp; omega)), ?_⟩))) (fun hS => ?_)
 refine kp 0 hS ?_
 refine kp 1 hS ?_
 refine kp 2 hS ?_
 refine kp 3 hS ?_
 refine kp 4 hS ?_
 refine kp 5 hS ?_
 refine kp 6 hS ?_
 refine kp 7 hS ?_
 refine kp 8 hS ?_
 refine wpAnyK_store (k := 9) (by simp only [List.getElem?_toArray, List.getElem?_cons_succ, List.getElem?_cons_zero]; rfl) rfl rfl (by kernel_rfl) (fun u hu => ?_)
 have eL : (l6).set c (IntKind.u32.wrap ((l6)[c] + (l6)[d])) = l7 := by rw [← E7.out, addR, IntKind.wrap_u32, getD_elemI _ _ x1, getD_elemI _ _ x2]
 have zu := hu.size
 replace zu : w6.heap.size ≤ u.heap.size := zu
 have ru : row u w.heap.size = (u32s l6).toArray := by rw [row_below hu (show _ < w6.heap.size by omega)]; exact r6
 have su : row u (w.heap.size + 1) = (zeros 16 (Value.int .u32 0)).toArray := by rw [row_below hu (show _ < w6.heap.size by omega)]; exact s6
 have bu : Below w.heap.size w u := Below.trans b6 ((below_step (Below.drew (Below.refl _ _)) hu).mono (by omega))
 obtain ⟨v, hv⟩ : ∃ v, u.setRow w.heap.size (u32s l7).toArray = v := ⟨_, rfl⟩
 have rv : row v w.heap.size = (u32s l7).toArray := by rw [← hv]; exact row_setRow_same (by rw [ru]; simp; omega) (by rw [ru]; simp; omega)
 have sv : row v (w.heap.size + 1) = (zeros 16 (Value.int .u32 0)).toArray := by rw [← hv]; simp [go_sem, su]
 have zv : v.heap.size = u.heap.size := by rw [← hv]; simp
 have bv : Below w.heap.size w v := by rw [← hv]; exact Below.setRow bu (by omega) _
 refine ⟨v, by go_simp; (try rw [eL, hv]), trivial, fun hS2 => ?_⟩
 clear eL hv hu ru su bu
 (try simp only [Act.put, List.setIfInBounds_toArray, List.set_cons_zero, List.set_cons_succ])
 refine wpAnyR_done (by kernel_rfl) (fun w7 h7 => ?_) _
 have z7 := h7.size
 replace z7 : w.heap.size + 2 ≤ w7.heap.size := by omega
 have r7 : row w7 w.heap.size = (u32s l7).toArray := by rw [row_below h7 (by omega)]; exact rv
 have s7 : row w7 (w.heap.size + 1) = (zeros 16 (Value.int .u32 0)).toArray := by rw [row_below h7 (by omega)]; exact sv
 have b7 : Below w.heap.size w w7 := Below.trans bv (h7.mono (by omega))
 clear h7 bv rv sv zu zv x1 x2 b6 r6 s6 z6
 clear hS hS2
 clear v u
 clear w6
 go_wp2_with fail
 have x1 : b < (l7).length := by omega
 have x2 : c < (l7).length := by omega
 refine wp_region_beginK 10 [(w.heap.size, (u32s l7).toArray)] [] rfl (by simp only [Rws]; (repeat (first | exact trivial | refine ⟨(by first | assumption | (simp [go_sem, *]; done)), (by first | omega | (simp; done) | (simp; omega)), ?_⟩))) (fun hS => ?_)
 refine kp 0 hS ?_
 refine kp 1 hS ?_
 refine kp 2 hS ?_
 refine kp 3 hS ?_
 refine kp 4 hS ?_
 refine kp 5 hS ?_
 refine kp 6 hS ?_
 refine kp 7 hS ?_
 refine wpAnyK_take (i := 8) (v := ?_) (by simp only [List.getElem?_toArray, List.getElem?_cons_succ, List.getElem?_cons_zero]; rfl) (by kernel_rfl) (by kernel_rfl) (by kernel_rfl) (by kernel_rfl) (by first | exact fun _ _ _ h => h | exact fun _ _ _ h => by cases h.1) (Rws.grow _) (Or.inl ⟨by rfl, ?_⟩) hS ?_
 rotate_left
 ·
  intro w' hS'
  simp only [Rws] at hS'
  go_simp
  with_reducible refine (leftR_lit _ 7 7 (by decide) _ (bits32 _ _ _).1 (bits32 _ _ _).2 (by decide)).mono ?_
  rintro e w'' ⟨rfl, hb⟩
  refine ⟨_, rfl, ?_, hb⟩
  rfl
 (try simp only [Act.put, List.setIfInBounds_toArray, List.set_cons_zero, List.set_cons_succ])
 refine kp 9 hS ?_
 refine wpAnyK_store (k := 10) (by simp only [List.getElem?_toArray, List.getElem?_cons_succ, List.getElem?_cons_zero]; rfl) rfl rfl (by kernel_rfl) (fun u hu => ?_)
 have eL : (l7).set b (rotI (bits .xor .u32 (l7)[b] (l7)[c]) 7) = l8 := by rw [← E8.out, xorL, getD_elemI _ _ x1, getD_elemI _ _ x2]
 have zu := hu.size
 replace zu : w7.heap.size ≤ u.heap.size := zu
 have ru : row u w.heap.size = (u32s l7).toArray := by rw [row_below hu (show _ < w7.heap.size by omega)]; exact r7
 have su : row u (w.heap.size + 1) = (zeros 16 (Value.int .u32 0)).toArray := by rw [row_below hu (show _ < w7.heap.size by omega)]; exact s7
 have bu : Below w.heap.size w u := Below.trans b7 ((below_step (Below.drew (Below.refl _ _)) hu).mono (by omega))
 obtain ⟨v, hv⟩ : ∃ v, u.setRow w.heap.size (u32s l8).toArray = v := ⟨_, rfl⟩
 have rv : row v w.heap.size = (u32s l8).toArray := by rw [← hv]; exact row_setRow_same (by rw [ru]; simp; omega) (by rw [ru]; simp; omega)
 have sv : row v (w.heap.size + 1) = (zeros 16 (Value.int .u32 0)).toArray := by rw [← hv]; simp [go_sem, su]
 have zv : v.heap.size = u.heap.size := by rw [← hv]; simp
 have bv : Below w.heap.size w v := by rw [← hv]; exact Below.setRow bu (by omega) _
 refine ⟨v, by go_simp; (try rw [eL, hv]), trivial, fun hS2 => ?_⟩
 clear eL hv hu ru su bu
 (try simp only [Act.put, List.setIfInBounds_toArray, List.set_cons_zero, List.set_cons_succ])
 refine wpAnyR_done (by kernel_rfl) (fun w8 h8 => ?_) _
 have z8 := h8.size
 replace z8 : w.heap.size + 2 ≤ w8.heap.size := by omega
 have r8 : row w8 w.heap.size = (u32s l8).toArray := by rw [row_below h8 (by omega)]; exact rv
 have s8 : row w8 (w.heap.size + 1) = (zeros 16 (Value.int .u32 0)).toArray := by rw [row_below h8 (by omega)]; exact sv
 have b8 : Below w.heap.size w w8 := Below.trans bv (h8.mono (by omega))
 clear h8 bv rv sv zu zv x1 x2 b7 r7 s7 z7
 clear hS hS2
 clear v u
 clear w7
 go_wp2_with fail
 have hfin := row_setRow_same (w := w8) (g := w.heap.size + 1) (c := (u32s l8).toArray) (by rw [s8]; simp [n8]) (by rw [s8]; simp [n8])
 (try simp only [Exit.inBlock, Exit.then])
 refine bodyPost_ret (results_1 rfl (resOk_row rfl ?_)) rfl ⟨?_, ?_⟩
 ·
  rw [hfin]; simp [n8]
 ·
  rw [hfin]
 ·
  exact Below.setRow b8 (by omega) _
end
section
open Go.RowKit
theorem getD_setI (l : List Int) (i j : Nat) (v : Int) (h : i < l.length) : (l.set i v).getD j 0 = if i = j then v else l.getD j 0 := by
 by_cases hij : i = j
 ·
  subst hij
  simp [List.getD_eq_getElem?_getD, h]
 ·
  simp [List.getD_eq_getElem?_getD, hij]
theorem ext_getD (l m : List Int) (h : l.length = m.length) (hg : ∀ j, j < l.length → l.getD j 0 = m.getD j 0) : l = m := by
 refine List.ext_getElem h fun i h1 h2 => ?_
 have := hg i h1
 rwa [getD_elemI _ _ h1, getD_elemI _ _ h2] at this
theorem quarL_length (l : List Int) (a b c d : Nat) : (quarL l a b c d).length = l.length := by simp [quarL, addR, xorL]
set_option maxHeartbeats 1000000 in
theorem quarL_turn (l : List Int) (a b c d : Nat) (ha : a < l.length) (hb : b < l.length) (hc : c < l.length) (hd : d < l.length) (ab : a ≠ b) (ac : a ≠ c) (ad : a ≠ d) (bc : b ≠ c) (bd : b ≠ d) (cd : c ≠ d) :
  quarL l a b c d = turnL l a b c d := by
 have ba := ab.symm
 have ca := ac.symm
 have da := ad.symm
 have cb := bc.symm
 have db := bd.symm
 have dc := cd.symm
 refine ext_getD _ _ (by rw [quarL_length, turnL_length]) fun j hj => ?_
 rw [quarL_length] at hj
 unfold turnL quarL addR xorL
 unfold qB qC qD qA qb qd
 obtain ⟨A, hA⟩ : ∃ A, l.getD a 0 = A := ⟨_, rfl⟩
 obtain ⟨B, hB⟩ : ∃ A, l.getD b 0 = A := ⟨_, rfl⟩
 obtain ⟨C, hC⟩ : ∃ A, l.getD c 0 = A := ⟨_, rfl⟩
 obtain ⟨D, hD⟩ : ∃ A, l.getD d 0 = A := ⟨_, rfl⟩
 simp only [getD_setI, List.length_set, ha, hb, hc, hd, hA, hB, hC, hD, ab, ac, ad, ba, bc, bd, ca, cb, cd, da, db, dc, if_true, if_false, Int.emod_add_emod]
 by_cases ja : a = j
 ·
  subst ja; simp [ab, ac, ad, ba, bc, bd, ca, cb, cd, da, db, dc]
 by_cases jb : b = j
 ·
  subst jb; simp [ab, ac, ad, ba, bc, bd, ca, cb, cd, da, db, dc]
 by_cases jc : c = j
 ·
  subst jc; simp [ab, ac, ad, ba, bc, bd, ca, cb, cd, da, db, dc]
 by_cases jd : d = j
 ·
  subst jd; simp [ab, ac, ad, ba, bc, bd, ca, cb, cd, da, db, dc]
 simp [ja, jb, jc, jd]
def refW (a b c d : UInt8) : Int :=
 IntKind.u32.wrap (IntKind.u32.wrap (IntKind.u32.wrap (IntKind.u32.wrap (IntKind.u32.wrap (IntKind.u32.wrap (IntKind.u32.wrap (d.toNat : Int) * 256) + IntKind.u32.wrap (c.toNat : Int)) * 256) + IntKind.u32.wrap (b.toNat : Int)) * 256) + IntKind.u32.wrap (a.toNat : Int))
theorem refW_word (l : List UInt8) (i : Nat) (h : 4 * i + 3 < l.length) : refW l[4 * i] l[4 * i + 1] l[4 * i + 2] l[4 * i + 3] = wordI (l.drop (4 * i)) := by
 have e0 : (l.drop (4 * i)).getD 0 0 = l[4 * i] := by rw [getD_elem _ _ _ (by simp; omega)]; simp
 have e1 : (l.drop (4 * i)).getD 1 0 = l[4 * i + 1] := by rw [getD_elem _ _ _ (by simp; omega)]; simp
 have e2 : (l.drop (4 * i)).getD 2 0 = l[4 * i + 2] := by rw [getD_elem _ _ _ (by simp; omega)]; simp
 have e3 : (l.drop (4 * i)).getD 3 0 = l[4 * i + 3] := by rw [getD_elem _ _ _ (by simp; omega)]; simp
 rw [refW, wordI, e0, e1, e2, e3]
 have a0 := l[4 * i].toNat_lt
 have a1 := l[4 * i + 1].toNat_lt
 have a2 := l[4 * i + 2].toNat_lt
 have a3 := l[4 * i + 3].toNat_lt
 generalize l[4 * i].toNat = x0 at *
 generalize l[4 * i + 1].toNat = x1 at *
 generalize l[4 * i + 2].toNat = x2 at *
 generalize l[4 * i + 3].toNat = x3 at *
 simp only [IntKind.wrap_u32]
 have k0 : (x0 : Int) % 4294967296 = x0 := by omega
 have k1 : (x1 : Int) % 4294967296 = x1 := by omega
 have k2 : (x2 : Int) % 4294967296 = x2 := by omega
 have k3 : (x3 : Int) % 4294967296 = x3 := by omega
 have k4 : (x1 : Int) * 256 % 4294967296 = x1 * 256 := by omega
 have k5 : (x2 : Int) * 65536 % 4294967296 = x2 * 65536 := by omega
 have k6 : (x3 : Int) * 16777216 % 4294967296 = x3 * 16777216 := by omega
 rw [k0, k1, k2, k3, k4, k5, k6]
 have o1 : bits .or .u32 (x0 : Int) ((x1 : Int) * 256) = x0 + x1 * 256 := u32_or8 _ _ (by omega) (by omega) (by omega) (by omega) (by omega)
 have o2 : bits .or .u32 ((x0 : Int) + x1 * 256) ((x2 : Int) * 65536) = x0 + x1 * 256 + x2 * 65536 := u32_or16 _ _ (by omega) (by omega) (by omega) (by omega) (by omega)
 have o3 : bits .or .u32 ((x0 : Int) + x1 * 256 + x2 * 65536) ((x3 : Int) * 16777216) = x0 + x1 * 256 + x2 * 65536 + x3 * 16777216 := u32_or24 _ _ (by omega) (by omega) (by omega) (by omega) (by omega)
 rw [o1, o2, o3]
 omega
def nonF (l : List UInt8) (i : Nat) (x : List Int) : List Int := x.set (13 + i) (wordI (l.drop (4 * i)))
theorem nonF_length (l : List UInt8) (i : Nat) (x : List Int) : (nonF l i x).length = x.length := by simp [nonF]
def begR (k : List UInt8) (count : Int) (nonce : List UInt8) : List Int := upTo (nonF nonce) 3 ((upTo (firstF (beginL ++ k)) 12 (List.replicate 16 0)).set 12 count)
theorem wordI_append (l m : List UInt8) (h : 4 ≤ l.length) : wordI (l ++ m) = wordI l := by
 have e : ∀ i, i < 4 → (l ++ m).getD i 0 = l.getD i 0 := by
  intro i hi
  rw [getD_elem _ _ _ (by simp; omega), getD_elem _ _ _ (by omega), List.getElem_append_left (by omega)]
 unfold wordI
 rw [e 0 (by decide), e 1 (by decide), e 2 (by decide), e 3 (by decide)]
theorem first_same (t m : List UInt8) (n : Nat) (h : 4 * n ≤ t.length) (x : List Int) : upTo (firstF (t ++ m)) n x = upTo (firstF t) n x := by
 induction n with
 | zero => rw [upTo, upTo]
 | succ n ih =>
  have e : (t ++ m).drop (4 * n) = t.drop (4 * n) ++ m := List.drop_append_of_le_length (by omega)
  have key : wordI ((t ++ m).drop (4 * n)) = wordI (t.drop (4 * n)) := by
   rw [e]
   exact wordI_append _ _ (by rw [List.length_drop]; omega)
  have ih2 := ih (by omega)
  rw [upTo, upTo, ih2, firstF, firstF, key]
theorem begR_eq (k : List UInt8) (count : Int) (nonce : List UInt8) (hk : k.length = 32) : begR k count nonce = firstL k count nonce := by
 have hs : firstT k nonce = (beginL ++ k) ++ ([48, 48, 48, 48] ++ nonce) := by rw [firstT, List.append_assoc]
 have htl : (beginL ++ k).length = 48 := by simp [beginL, hk]
 have hd : ∀ i, (firstT k nonce).drop (4 * (13 + i)) = nonce.drop (4 * i) := by
  intro i
  have hl : ((beginL ++ k) ++ [48, 48, 48, 48]).length = 52 := by rw [List.length_append, htl]; rfl
  rw [hs, ← List.append_assoc, List.drop_append, hl, List.drop_eq_nil_of_le (by omega), List.nil_append]
  congr 1
  omega
 obtain ⟨U, hU⟩ : ∃ U, upTo (firstF (beginL ++ k)) 12 (List.replicate 16 0) = U := ⟨_, rfl⟩
 have hUl : U.length = 16 := by rw [← hU, upTo_len (firstF_length _)]; simp
 have e12 : upTo (firstF (firstT k nonce)) 12 (List.replicate 16 0) = U := by rw [hs, first_same _ _ _ (by omega), hU]
 have e16 : upTo (firstF (firstT k nonce)) 16 (List.replicate 16 0) = firstF (firstT k nonce) 15 (firstF (firstT k nonce) 14 (firstF (firstT k nonce) 13 (firstF (firstT k nonce) 12 (upTo (firstF (firstT k nonce)) 12 (List.replicate 16 0))))) := by
  rw [upTo, upTo, upTo, upTo]
 rw [begR, firstL, e16, e12, hU]
 show nonF nonce 2 (nonF nonce 1 (nonF nonce 0 (U.set 12 count))) = _
 simp only [nonF, firstF]
 have d0 := hd 0
 have d1 := hd 1
 have d2 := hd 2
 simp only [Nat.add_zero] at d0
 rw [show 13 + 1 = 14 from rfl] at d1
 rw [show 13 + 2 = 15 from rfl] at d2
 rw [d0, d1, d2]
 generalize wordI (nonce.drop (4 * 0)) = a
 generalize wordI (nonce.drop (4 * 1)) = b
 generalize wordI (nonce.drop (4 * 2)) = c
 generalize wordI ((firstT k nonce).drop (4 * 12)) = d
 refine ext_getD _ _ (by simp) fun j hj => ?_
 simp only [getD_setI, List.length_set, hUl, Nat.add_zero, show (13 : Nat) < 16 from by decide, show (12 : Nat) < 16 from by decide, show (14 : Nat) < 16 from by decide, show (15 : Nat) < 16 from by decide, show 13 + 1 < 16 from by decide, show 13 + 2 < 16 from by decide]
 by_cases j12 : 12 = j
 ·
  subst j12; simp
 by_cases j13 : 13 = j
 ·
  subst j13; simp
 by_cases j14 : 14 = j
 ·
  subst j14; simp
 by_cases j15 : 15 = j
 ·
  subst j15; simp
 simp [j12, j13, j14, j15]
theorem ownsRow_belowR {w w' : World} {base e s n : Nat} {v : Value} {xs : List Value} (h : w.ownsRow base e s v n xs) (hb : Below w.heap.size w w') : w'.ownsRow base e s v n xs := by
 obtain ⟨hl, ⟨rfl, rfl⟩ | ⟨g, cap, cur, rfl, hg0, hg, hr⟩⟩ := h
 ·
  exact ⟨hl, .inl ⟨rfl, rfl⟩⟩
 ·
  refine ⟨hl, .inr ⟨g, cap, cur, rfl, hg0, ?_, hr⟩⟩
  rw [hb.block g ?_]
  ·
   exact hg
  ·
   rcases Nat.lt_or_ge g w.heap.size with h1 | h1
   ·
    exact h1
   ·
    rw [Array.getElem?_eq_none h1] at hg
    cases hg
def eightL (l : List Int) : List Int :=
 quarL (quarL (quarL (quarL (quarL (quarL (quarL (quarL l 0 4 8 12) 1 5 9 13) 2 6 10 14) 3 7 11 15) 0 5 10 15) 1 6 11 12) 2 7 8 13) 3 4 9 14
theorem eightL_dbl (l : List Int) (h : l.length = 16) : eightL l = dblL l := by
 have q : ∀ (m : List Int) (a b c d : Nat), m.length = 16 → a < 16 → b < 16 → c < 16 → d < 16 → a ≠ b → a ≠ c → a ≠ d → b ≠ c → b ≠ d → c ≠ d → quarL m a b c d = turnL m a b c d := fun m a b c d hm ha hb hc hd => quarL_turn m a b c d (by omega) (by omega) (by omega) (by omega)
 have s1 : (turnL l 0 4 8 12).length = 16 := by rw [turnL_length]; exact h
 have s2 : (turnL (turnL l 0 4 8 12) 1 5 9 13).length = 16 := by rw [turnL_length]; exact s1
 have s3 : (turnL (turnL (turnL l 0 4 8 12) 1 5 9 13) 2 6 10 14).length = 16 := by rw [turnL_length]; exact s2
 unfold eightL
 rw [q l 0 4 8 12 h (by decide) (by decide) (by decide) (by decide) (by decide) (by decide) (by decide) (by decide) (by decide) (by decide)]
 rw [q _ 1 5 9 13 s1 (by decide) (by decide) (by decide) (by decide) (by decide) (by decide) (by decide) (by decide) (by decide) (by decide)]
 rw [q _ 2 6 10 14 s2 (by decide) (by decide) (by decide) (by decide) (by decide) (by decide) (by decide) (by decide) (by decide) (by decide)]
 rw [q _ 3 7 11 15 s3 (by decide) (by decide) (by decide) (by decide) (by decide) (by decide) (by decide) (by decide) (by decide) (by decide)]
 have e4 : turnL (turnL (turnL (turnL l 0 4 8 12) 1 5 9 13) 2 6 10 14) 3 7 11 15 = upTo dblF 4 l := by
  rw [upTo, upTo, upTo, upTo, upTo, dblF, dblF, dblF, dblF]
 rw [e4]
 generalize hM : upTo dblF 4 l = M
 have s4 : M.length = 16 := by rw [← hM, upTo_len dblF_length]; exact h
 have s5 : (turnL M 0 5 10 15).length = 16 := by rw [turnL_length]; exact s4
 have s6 : (turnL (turnL M 0 5 10 15) 1 6 11 12).length = 16 := by rw [turnL_length]; exact s5
 have s7 : (turnL (turnL (turnL M 0 5 10 15) 1 6 11 12) 2 7 8 13).length = 16 := by rw [turnL_length]; exact s6
 rw [q M 0 5 10 15 s4 (by decide) (by decide) (by decide) (by decide) (by decide) (by decide) (by decide) (by decide) (by decide) (by decide)]
 rw [q _ 1 6 11 12 s5 (by decide) (by decide) (by decide) (by decide) (by decide) (by decide) (by decide) (by decide) (by decide) (by decide)]
 rw [q _ 2 7 8 13 s6 (by decide) (by decide) (by decide) (by decide) (by decide) (by decide) (by decide) (by decide) (by decide) (by decide)]
 rw [q _ 3 4 9 14 s7 (by decide) (by decide) (by decide) (by decide) (by decide) (by decide) (by decide) (by decide) (by decide) (by decide)]
 rw [dblL, hM, upTo, upTo, upTo, upTo, upTo, dblG, dblG, dblG, dblG]
theorem eightL_length (l : List Int) : (eightL l).length = l.length := by simp [eightL, quarL_length]
def eightF (_ : Nat) (l : List Int) : List Int := eightL l
theorem eightF_length (i : Nat) (l : List Int) : (eightF i l).length = l.length := eightL_length l
theorem eightF_twenty (n : Nat) (l : List Int) (h : l.length = 16) : upTo eightF n l = upTo twentyF n l := by
 induction n with
 | zero => rw [upTo, upTo]
 | succ n ih => rw [upTo, upTo, ih, eightF, twentyF, eightL_dbl _ (by rw [upTo_len twentyF_length]; exact h)]
def byteW (x : List Int) (n : Nat) : UInt8 := byteI (x.getD (n / 4) 0 / 2 ^ (8 * (n % 4)))
def bytesW (x : List Int) (n : Nat) : List UInt8 := (List.range n).map (byteW x)
theorem bytesW_succ (x : List Int) (n : Nat) : bytesW x (n + 1) = bytesW x n ++ [byteW x n] := by simp [bytesW, List.range_succ]
theorem outF_get (x : List Int) (n : Nat) (b : List UInt8) (i : Nat) (hb : n ≤ b.length) (hi : i < n) : (upTo (outF x) n b).getD i 0 = byteW x i := by
 induction n with
 | zero => omega
 | succ n ih =>
  have hl : (upTo (outF x) n b).length = b.length := upTo_len8 (outF_length x) n b
  rw [upTo, outF]
  by_cases hin : n = i
  ·
   subst hin
   rw [List.getD_eq_getElem?_getD, List.getElem?_set_self (by omega)]
   rfl
  ·
   rw [List.getD_eq_getElem?_getD, List.getElem?_set_ne hin, ← List.getD_eq_getElem?_getD]
   exact ih (by omega) (by omega)
theorem bytesW_out (x : List Int) : bytesW x 64 = outL x := by
 refine List.ext_getElem (by rw [outL_length]; simp [bytesW]) fun i h1 h2 => ?_
 have hi : i < 64 := by simpa [bytesW] using h1
 have this : (outL x).getD i 0 = byteW x i := by
  rw [outL]
  exact outF_get x 64 (List.replicate 64 0) i (by simp) hi
 rw [getD_elem _ _ _ h2] at this
 rw [this]
 simp [bytesW]
theorem addF_get (v : List Int) (n : Nat) (b : List Int) (i : Nat) (hb : n ≤ b.length) (hi : i < n) : (upTo (addF v) n b).getD i 0 = (b.getD i 0 + v.getD i 0) % 4294967296 := by
 induction n with
 | zero => omega
 | succ n ih =>
  have hl : ∀ m, (upTo (addF v) m b).length = b.length := fun m => upTo_len (addF_length v) m b
  have hge : ∀ m, m ≤ n → (upTo (addF v) m b).getD n 0 = b.getD n 0 := by
   intro m
   induction m with
   | zero => intro _; rw [upTo]
   | succ m ihm =>
    intro hm
    rw [upTo, addF, getD_setI _ _ _ _ (by rw [hl]; omega), if_neg (by omega)]
    exact ihm (by omega)
  rw [upTo, addF, getD_setI _ _ _ _ (by rw [hl]; omega)]
  by_cases hin : n = i
  ·
   subst hin
   rw [if_pos rfl, hge n (Nat.le_refl _)]
  ·
   rw [if_neg hin]
   exact ih (by omega) (by omega)
end
section
open Go.RowKit
attribute [local irreducible] wordI upTo
set_option maxRecDepth 20000 in
set_option maxHeartbeats 2000000 in
theorem blockR_any (k : List UInt8) (count : Int) (nonce : List UInt8) (w : World) (hk : k.length = 32) (hn : nonce.length = 12) :
  Calls Tryz.prog 102 #[.agg (u8s k).toArray, .int .u32 count, .string ⟨nonce.toArray⟩] w fun e w' => e = .returned (.string ⟨(streamL k count nonce).toArray⟩) ∧ Below w.heap.size w w' := by
 obtain ⟨t, ht⟩ : ∃ t, beginL ++ k = t := ⟨_, rfl⟩
 have htl : t.length = 48 := by rw [← ht]; simp [beginL, hk]
 have HT := Lib.hid ht
 go_enter Tryz.func102, Tryz.ntmps102
 go_wp2_with fail
 rw [show (101 :: 120 :: 112 :: 97 :: 110 :: 100 :: 32 :: 51 :: 50 :: 45 :: 98 :: 121 :: 116 :: 101 :: 32 :: 107 :: k : List UInt8) = t from HT.out]
 clear ht
 go_loopw [9] (fun i wr => ∃ m : Nat, m ≤ 12 ∧ i = .int .i64 m ∧ row wr (w.heap.size + 1) = (u32s (upTo (firstF t) m (List.replicate 16 0))).toArray ∧ w.heap.size + 1 < wr.heap.size ∧ Below w.heap.size w wr) (fun i _ => 12 - (intOf i).toNat)
 case atStart =>
  refine ⟨0, by omega, rfl, ?_, by simp, (by (repeat (first | exact Below.refl _ _ | refine Below.al ?_ _ | refine Below.drew ?_ | refine Below.sr ?_ _ | refine Below.sc ?_ _)))⟩
  rw [upTo, u32s_zeros]
  simp [go_sem]
 case round =>
  obtain ⟨m, hm, rfl, hV, hz, hbel⟩ := hrel
  obtain ⟨L, hL⟩ : ∃ L, upTo (firstF t) m (List.replicate 16 0) = L := ⟨_, rfl⟩
  have hLl : L.length = 16 := by rw [← hL, upTo_len (firstF_length _)]; simp
  rw [hL] at hV
  have HL := Lib.hid hL
  clear hL
  by_cases hlt : m < 12
  ·
   have h1 : (m : Int) < 12 := by omega
   obtain ⟨q, hq⟩ : ∃ q, 4 * m = q := ⟨_, rfl⟩
   obtain ⟨q1, hq1⟩ : ∃ x, q + 1 = x := ⟨_, rfl⟩
   obtain ⟨q2, hq2⟩ : ∃ x, q + 2 = x := ⟨_, rfl⟩
   obtain ⟨q3, hq3⟩ : ∃ x, q + 3 = x := ⟨_, rfl⟩
   have f0 : IntKind.i64.wrap (4 * (m : Int)) = (q : Int) := by rw [wraps_i64 _ (by omega) (by omega)]; omega
   have f1 : IntKind.i64.wrap ((q : Int) + 1) = (q1 : Int) := by rw [wraps_i64 _ (by omega) (by omega)]; omega
   have f2 : IntKind.i64.wrap ((q : Int) + 2) = (q2 : Int) := by rw [wraps_i64 _ (by omega) (by omega)]; omega
   have f3 : IntKind.i64.wrap ((q : Int) + 3) = (q3 : Int) := by rw [wraps_i64 _ (by omega) (by omega)]; omega
   have i0 : (q : Int) < 48 := by omega
   have i1 : (q1 : Int) < 48 := by omega
   have i2 : (q2 : Int) < 48 := by omega
   have i3 : (q3 : Int) < 48 := by omega
   have j0 : q < t.length := by omega
   have j1 : q1 < t.length := by omega
   have j2 : q2 < t.length := by omega
   have j3 : q3 < t.length := by omega
   have HQ := Lib.hid hq
   have HQ1 := Lib.hid hq1
   have HQ2 := Lib.hid hq2
   have HQ3 := Lib.hid hq3
   clear hq hq1 hq2 hq3
   have h3 : m < L.length := by omega
   have h4 : m < 16 := by omega
   have h5 : (m : Int) < 16 := by omega
   go_wp2_with fail
   refine wp_region_beginR [] rfl trivial (fun hS => ?_)
   refine qp 0 hS ?_
   refine qp 1 hS ?_
   refine qp 2 hS ?_
   refine qp 3 hS ?_
   refine qp 4 hS ?_
   refine qp 5 hS ?_
   refine qp 6 hS ?_
   refine qp 7 hS ?_
   refine qp 8 hS ?_
   refine qp 9 hS ?_
   refine qp 10 hS ?_
   refine qp 11 hS ?_
   refine qp 12 hS ?_
   refine qp 13 hS ?_
   refine qp 14 hS ?_
   refine qp 15 hS ?_
   refine qp 16 hS ?_
   refine qp 17 hS ?_
   refine qp 18 hS ?_
   refine qp 19 hS ?_
   refine qp 20 hS ?_
   refine qp 21 hS ?_
   refine qp 22 hS ?_
   refine qp 23 hS ?_
   refine qp 24 hS ?_
   refine qp 25 hS ?_
   refine qp 26 hS ?_
   refine qp 27 hS ?_
   refine qp 28 hS ?_
   refine qp 29 hS ?_
   refine qp 30 hS ?_
   obtain ⟨x, hx⟩ : ∃ x, refW t[q] t[q1] t[q2] t[q3] = x := ⟨_, rfl⟩
   have hx2 := hx
   unfold refW at hx2
   rw [hx2]
   clear hx2
   have hVd : row wr.drew (w.heap.size + 1) = (u32s L).toArray := hV
   refine wpAnyR_store (i := 31) (b := w.heap.size + 1) (c := (u32s (L.set m x)).toArray) (by simp only [List.getElem?_toArray, List.getElem?_cons_succ, List.getElem?_cons_zero]; rfl) rfl rfl (by kernel_rfl) (by simp; (try omega)) hS (by rw [hVd]; simp; (try omega)) (fun w1 hr => by rw [hVd] at hr; go_simp; (try rfl)) (fun u hu ru hS => ?_)
   refine wpAnyR_done (by kernel_rfl) (fun w2 h2 => ?_) _
   have zu : wr.heap.size ≤ u.heap.size := hu.size
   have z2 := h2.size
   simp at z2
   have r2 : row w2 (w.heap.size + 1) = (u32s (L.set m x)).toArray := by
    rw [row_below h2 (by simp; omega)]
    exact row_setRow_same (by rw [ru, hVd]; simp; omega) (by rw [ru, hVd]; simp)
   have b2 : Below w.heap.size w w2 := Below.trans (Below.setRow (Below.trans hbel ((below_step (Below.drew (Below.refl _ _)) hu).mono (by omega))) (by omega) _) (h2.mono (by simp; omega))
   clear hu h2 ru hVd hS
   go_wp2_with fail
   go_roundw
   case rel =>
    refine ⟨m + 1, by omega, rfl, ?_, by omega, b2⟩
    rw [upTo, HL.out, firstF, r2, ← refW_word t m (by omega)]
    have := HQ.out
    subst this
    have := HQ1.out
    subst this
    have := HQ2.out
    subst this
    have := HQ3.out
    subst this
    rw [← hx]
   case measure => simp [intOf]; omega
  ·
   obtain rfl : m = 12 := by omega
   rw [show ((12 : Nat) : Int) = 12 from rfl]
   have h12 : 12 < L.length := by omega
   have V1 := row_setRow_same (w := wr) (g := w.heap.size + 1) (c := (u32s (L.set 12 count)).toArray) (by rw [hV]; simp; omega) (by rw [hV]; simp)
   go_wp2_with fail
   obtain ⟨f, hf⟩ : ∃ f, L.set 12 count = f := ⟨_, rfl⟩
   have hfl : f.length = 16 := by rw [← hf]; simpa using hLl
   rw [hf] at V1 ⊢
   have e0 : f = (upTo (firstF (beginL ++ k)) 12 (List.replicate 16 0)).set 12 count := by rw [← hf, HT.out, HL.out]
   have E0 := Lib.hid e0
   obtain ⟨w1, hw1⟩ : ∃ v, wr.setRow (w.heap.size + 1) (u32s f).toArray = v := ⟨_, rfl⟩
   have b1 : Below w.heap.size w w1 := by rw [← hw1]; exact Below.setRow hbel (by omega) _
   have z1 : w.heap.size + 1 < w1.heap.size := by rw [← hw1]; simpa using hz
   rw [hw1] at V1 ⊢
   clear hw1 e0 hf hV hbel hz hm
   go_loopw [10] (fun i wq => ∃ m : Nat, m ≤ 3 ∧ i = .int .i64 m ∧ row wq (w.heap.size + 1) = (u32s (upTo (nonF nonce) m f)).toArray ∧ w.heap.size + 1 < wq.heap.size ∧ Below w.heap.size w wq) (fun i _ => 3 - (intOf i).toNat)
   case atStart =>
    refine ⟨0, by omega, rfl, ?_, z1, b1⟩
    rw [upTo]
    exact V1
   case round =>
    clear V1 z1 b1 h12 HL hLl hlt L
    obtain ⟨m, hm, rfl, hV, hz, hbel⟩ := hrel
    obtain ⟨L, hL⟩ : ∃ L, upTo (nonF nonce) m f = L := ⟨_, rfl⟩
    have hLl : L.length = 16 := by rw [← hL, upTo_len (nonF_length _)]; exact hfl
    rw [hL] at hV
    have HL := Lib.hid hL
    clear hL
    by_cases hlt : m < 3
    ·
     have h1 : (m : Int) < 3 := by omega
     have h3 : 13 + m < L.length := by omega
     have h4 : 13 + m < 16 := by omega
     obtain ⟨r, hr⟩ : ∃ r, 13 + m = r := ⟨_, rfl⟩
     have h5 : (r : Int) < 16 := by omega
     have fr : IntKind.i64.wrap (13 + (m : Int)) = (r : Int) := by rw [wraps_i64 _ (by omega) (by omega)]; omega
     rw [hr] at h3 h4
     have HR := Lib.hid hr
     obtain ⟨q, hq⟩ : ∃ q, 4 * m = q := ⟨_, rfl⟩
     obtain ⟨q1, hq1⟩ : ∃ x, q + 1 = x := ⟨_, rfl⟩
     obtain ⟨q2, hq2⟩ : ∃ x, q + 2 = x := ⟨_, rfl⟩
     obtain ⟨q3, hq3⟩ : ∃ x, q + 3 = x := ⟨_, rfl⟩
     have f0 : IntKind.i64.wrap (4 * (m : Int)) = (q : Int) := by rw [wraps_i64 _ (by omega) (by omega)]; omega
     have f1 : IntKind.i64.wrap ((q : Int) + 1) = (q1 : Int) := by rw [wraps_i64 _ (by omega) (by omega)]; omega
     have f2 : IntKind.i64.wrap ((q : Int) + 2) = (q2 : Int) := by rw [wraps_i64 _ (by omega) (by omega)]; omega
     have f3 : IntKind.i64.wrap ((q : Int) + 3) = (q3 : Int) := by rw [wraps_i64 _ (by omega) (by omega)]; omega
     have i0 : (q : Int) < 12 := by omega
     have i1 : (q1 : Int) < 12 := by omega
     have i2 : (q2 : Int) < 12 := by omega
     have i3 : (q3 : Int) < 12 := by omega
     have j0 : q < nonce.length := by omega
     have j1 : q1 < nonce.length := by omega
     have j2 : q2 < nonce.length := by omega
     have j3 : q3 < nonce.length := by omega
     have HQ := Lib.hid hq
     have HQ1 := Lib.hid hq1
     have HQ2 := Lib.hid hq2
     have HQ3 := Lib.hid hq3
     clear hq hq1 hq2 hq3 hr
     go_wp2_with fail
     refine wp_region_beginR [] rfl trivial (fun hS => ?_)
     refine qp 0 hS ?_
     refine qp 1 hS ?_
     refine qp 2 hS ?_
     refine qp 3 hS ?_
     refine qp 4 hS ?_
     refine qp 5 hS ?_
     refine qp 6 hS ?_
     refine qp 7 hS ?_
     refine qp 8 hS ?_
     refine qp 9 hS ?_
     refine qp 10 hS ?_
     refine qp 11 hS ?_
     refine qp 12 hS ?_
     refine qp 13 hS ?_
     refine qp 14 hS ?_
     refine qp 15 hS ?_
     refine qp 16 hS ?_
     refine qp 17 hS ?_
     refine qp 18 hS ?_
     refine qp 19 hS ?_
     refine qp 20 hS ?_
     refine qp 21 hS ?_
     refine qp 22 hS ?_
     refine qp 23 hS ?_
     refine qp 24 hS ?_
     refine qp 25 hS ?_
     refine qp 26 hS ?_
     refine qp 27 hS ?_
     refine qp 28 hS ?_
     refine qp 29 hS ?_
     refine qp 30 hS ?_
     refine qp 31 hS ?_
     obtain ⟨x, hx⟩ : ∃ x, refW nonce[q] nonce[q1] nonce[q2] nonce[q3] = x := ⟨_, rfl⟩
     have hx2 := hx
     unfold refW at hx2
     rw [hx2]
     clear hx2
     have hVd : row wr.drew (w.heap.size + 1) = (u32s L).toArray := hV
     refine wpAnyR_store (i := 32) (b := w.heap.size + 1) (c := (u32s (L.set r x)).toArray) (by simp only [List.getElem?_toArray, List.getElem?_cons_succ, List.getElem?_cons_zero]; rfl) rfl rfl (by kernel_rfl) (by simp; (try omega)) hS (by rw [hVd]; simp; (try omega)) (fun w1 hr => by rw [hVd] at hr; go_simp; (try rfl)) (fun u hu ru hS => ?_)
     refine wpAnyR_done (by kernel_rfl) (fun w2 h2 => ?_) _
     have zu : wr.heap.size ≤ u.heap.size := hu.size
     have z2 := h2.size
     simp at z2
     have r2 : row w2 (w.heap.size + 1) = (u32s (L.set r x)).toArray := by
      rw [row_below h2 (by simp; omega)]
      exact row_setRow_same (by rw [ru, hVd]; simp; omega) (by rw [ru, hVd]; simp)
     have b2 : Below w.heap.size w w2 := Below.trans (Below.setRow (Below.trans hbel ((below_step (Below.drew (Below.refl _ _)) hu).mono (by omega))) (by omega) _) (h2.mono (by simp; omega))
     clear hu h2 ru hVd hS
     go_wp2_with fail
     go_roundw
     case rel =>
      refine ⟨m + 1, by omega, rfl, ?_, by omega, b2⟩
      rw [upTo, HL.out, nonF, r2, ← refW_word nonce m (by omega), HR.out]
      have := HQ.out
      subst this
      have := HQ1.out
      subst this
      have := HQ2.out
      subst this
      have := HQ3.out
      subst this
      rw [← hx]
     case measure => simp [intOf]; omega
    ·
     obtain rfl : m = 3 := by omega
     rw [show ((3 : Nat) : Int) = 3 from rfl]
     go_wp2_with fail
     have eL : L = firstL k count nonce := by rw [← begR_eq k count nonce hk, begR, ← E0.out]; exact HL.out.symm
     obtain ⟨X, hX⟩ : ∃ X, wr.heap.size = X := ⟨_, rfl⟩
     obtain ⟨w3, hw3⟩ : ∃ v, wr.alloc (.cells (u32s L).toArray 176) = v := ⟨_, rfl⟩
     have rX3 : row w3 X = (u32s L).toArray := by rw [← hw3, ← hX]; exact row_alloc_at _ _ _ (by simp)
     have rV3 : row w3 (w.heap.size + 1) = (u32s L).toArray := by rw [← hw3, row_alloc_past _ _ (by omega)]; exact hV
     have z3 : X < w3.heap.size := by rw [← hw3, ← hX]; simp
     have b3 : Below w.heap.size w w3 := by rw [← hw3]; exact Below.alloc hbel (by omega) _
     have zX : w.heap.size + 1 < X := by rw [← hX]; exact hz
     rw [hw3, hX]
     clear hw3 hX hV hz hbel hm hlt E0 hfl
     clear HL
     obtain ⟨g, hf⟩ : ∃ f, L = f := ⟨_, rfl⟩
     rw [hf] at rX3 rV3 eL hLl ⊢
     clear hf L
     have EL := Lib.hid eL
     clear eL
     go_loopw [12] (fun i wq => ∃ m : Nat, m ≤ 10 ∧ i = .int .i64 m ∧ row wq X = (u32s (upTo eightF m g)).toArray ∧ row wq (w.heap.size + 1) = (u32s g).toArray ∧ X < wq.heap.size ∧ Below w.heap.size w wq) (fun i _ => 10 - (intOf i).toNat)
     case atStart =>
      refine ⟨0, by omega, rfl, ?_, rV3, z3, b3⟩
      rw [upTo]
      exact rX3
     case round =>
      clear rX3 rV3 z3 b3
      obtain ⟨n, hn2, rfl, rX0, rV0, zv0, bv0⟩ := hrel
      obtain ⟨m0, hL⟩ : ∃ L, upTo eightF n g = L := ⟨_, rfl⟩
      have nm0 : m0.length = 16 := by rw [← hL, upTo_len eightF_length]; exact hLl
      rw [hL] at rX0
      have HL := Lib.hid hL
      clear hL
      by_cases hlt : n < 10
      ·
       have h1 : (n : Int) < 10 := by omega
       go_wp2_with fail
       refine (quarterR_any m0 0 4 8 12 _ nm0 (by decide) (by decide) (by decide) (by decide)).mono ?_
       rintro e t1 ⟨rfl, c1⟩
       have zt := c1.size
       obtain ⟨m1, em1⟩ : ∃ x, quarL m0 0 4 8 12 = x := ⟨_, rfl⟩
       have nm1 : m1.length = 16 := by rw [← em1, quarL_length]; exact nm0
       rw [em1]
       have EM1 := Lib.hid em1
       clear em1
       have rt : row t1 X = (u32s m0).toArray := (row_below c1 (by omega)).trans rX0
       have rX1 := row_setRow_same (w := t1) (g := X) (c := (u32s m1).toArray) (by rw [rt]; simp [nm0]) (by rw [rt]; simp [nm0, nm1])
       have rV1 : row (t1.setRow X (u32s m1).toArray) (w.heap.size + 1) = (u32s g).toArray := by rw [row_setRow_other _ _ _ (by omega), row_below c1 (by omega)]; exact rV0
       have zv1 : X < (t1.setRow X (u32s m1).toArray).heap.size := by simp; omega
       have bv1 : Below w.heap.size w (t1.setRow X (u32s m1).toArray) := Below.setRow (Below.trans bv0 (c1.mono (by omega))) (by omega) _
       clear c1 zv0 bv0 rX0 rV0
       go_wp2_with fail
       obtain ⟨v1, hv1⟩ : ∃ v, t1.setRow X (u32s m1).toArray = v := ⟨_, rfl⟩
       rw [hv1] at rX1 rV1 zv1 bv1 ⊢
       clear hv1 rt zt
       refine (quarterR_any m1 1 5 9 13 _ nm1 (by decide) (by decide) (by decide) (by decide)).mono ?_
       rintro e t2 ⟨rfl, c2⟩
       have zt := c2.size
       obtain ⟨m2, em2⟩ : ∃ x, quarL m1 1 5 9 13 = x := ⟨_, rfl⟩
       have nm2 : m2.length = 16 := by rw [← em2, quarL_length]; exact nm1
       rw [em2]
       have EM2 := Lib.hid em2
       clear em2
       have rt : row t2 X = (u32s m1).toArray := (row_below c2 (by omega)).trans rX1
       have rX2 := row_setRow_same (w := t2) (g := X) (c := (u32s m2).toArray) (by rw [rt]; simp [nm1]) (by rw [rt]; simp [nm1, nm2])
       have rV2 : row (t2.setRow X (u32s m2).toArray) (w.heap.size + 1) = (u32s g).toArray := by rw [row_setRow_other _ _ _ (by omega), row_below c2 (by omega)]; exact rV1
       have zv2 : X < (t2.setRow X (u32s m2).toArray).heap.size := by simp; omega
       have bv2 : Below w.heap.size w (t2.setRow X (u32s m2).toArray) := Below.setRow (Below.trans bv1 (c2.mono (by omega))) (by omega) _
       clear c2 zv1 bv1 rX1 rV1
       go_wp2_with fail
       obtain ⟨v2, hv2⟩ : ∃ v, t2.setRow X (u32s m2).toArray = v := ⟨_, rfl⟩
       rw [hv2] at rX2 rV2 zv2 bv2 ⊢
       clear hv2 rt zt
       refine (quarterR_any m2 2 6 10 14 _ nm2 (by decide) (by decide) (by decide) (by decide)).mono ?_
       rintro e t3 ⟨rfl, c3⟩
       have zt := c3.size
       obtain ⟨m3, em3⟩ : ∃ x, quarL m2 2 6 10 14 = x := ⟨_, rfl⟩
       have nm3 : m3.length = 16 := by rw [← em3, quarL_length]; exact nm2
       rw [em3]
       have EM3 := Lib.hid em3
       clear em3
       have rt : row t3 X = (u32s m2).toArray := (row_below c3 (by omega)).trans rX2
       have rX3 := row_setRow_same (w := t3) (g := X) (c := (u32s m3).toArray) (by rw [rt]; simp [nm2]) (by rw [rt]; simp [nm2, nm3])
       have rV3 : row (t3.setRow X (u32s m3).toArray) (w.heap.size + 1) = (u32s g).toArray := by rw [row_setRow_other _ _ _ (by omega), row_below c3 (by omega)]; exact rV2
       have zv3 : X < (t3.setRow X (u32s m3).toArray).heap.size := by simp; omega
       have bv3 : Below w.heap.size w (t3.setRow X (u32s m3).toArray) := Below.setRow (Below.trans bv2 (c3.mono (by omega))) (by omega) _
       clear c3 zv2 bv2 rX2 rV2
       go_wp2_with fail
       obtain ⟨v3, hv3⟩ : ∃ v, t3.setRow X (u32s m3).toArray = v := ⟨_, rfl⟩
       rw [hv3] at rX3 rV3 zv3 bv3 ⊢
       clear hv3 rt zt
       refine (quarterR_any m3 3 7 11 15 _ nm3 (by decide) (by decide) (by decide) (by decide)).mono ?_
       rintro e t4 ⟨rfl, c4⟩
       have zt := c4.size
       obtain ⟨m4, em4⟩ : ∃ x, quarL m3 3 7 11 15 = x := ⟨_, rfl⟩
       have nm4 : m4.length = 16 := by rw [← em4, quarL_length]; exact nm3
       rw [em4]
       have EM4 := Lib.hid em4
       clear em4
       have rt : row t4 X = (u32s m3).toArray := (row_below c4 (by omega)).trans rX3
       have rX4 := row_setRow_same (w := t4) (g := X) (c := (u32s m4).toArray) (by rw [rt]; simp [nm3]) (by rw [rt]; simp [nm3, nm4])
       have rV4 : row (t4.setRow X (u32s m4).toArray) (w.heap.size + 1) = (u32s g).toArray := by rw [row_setRow_other _ _ _ (by omega), row_below c4 (by omega)]; exact rV3
       have zv4 : X < (t4.setRow X (u32s m4).toArray).heap.size := by simp; omega
       have bv4 : Below w.heap.size w (t4.setRow X (u32s m4).toArray) := Below.setRow (Below.trans bv3 (c4.mono (by omega))) (by omega) _
       clear c4 zv3 bv3 rX3 rV3
       go_wp2_with fail
       obtain ⟨v4, hv4⟩ : ∃ v, t4.setRow X (u32s m4).toArray = v := ⟨_, rfl⟩
       rw [hv4] at rX4 rV4 zv4 bv4 ⊢
       clear hv4 rt zt
       refine (quarterR_any m4 0 5 10 15 _ nm4 (by decide) (by decide) (by decide) (by decide)).mono ?_
       rintro e t5 ⟨rfl, c5⟩
       have zt := c5.size
       obtain ⟨m5, em5⟩ : ∃ x, quarL m4 0 5 10 15 = x := ⟨_, rfl⟩
       have nm5 : m5.length = 16 := by rw [← em5, quarL_length]; exact nm4
       rw [em5]
       have EM5 := Lib.hid em5
       clear em5
       have rt : row t5 X = (u32s m4).toArray := (row_below c5 (by omega)).trans rX4
       have rX5 := row_setRow_same (w := t5) (g := X) (c := (u32s m5).toArray) (by rw [rt]; simp [nm4]) (by rw [rt]; simp [nm4, nm5])
       have rV5 : row (t5.setRow X (u32s m5).toArray) (w.heap.size + 1) = (u32s g).toArray := by rw [row_setRow_other _ _ _ (by omega), row_below c5 (by omega)]; exact rV4
       have zv5 : X < (t5.setRow X (u32s m5).toArray).heap.size := by simp; omega
       have bv5 : Below w.heap.size w (t5.setRow X (u32s m5).toArray) := Below.setRow (Below.trans bv4 (c5.mono (by omega))) (by omega) _
       clear c5 zv4 bv4 rX4 rV4
       go_wp2_with fail
       obtain ⟨v5, hv5⟩ : ∃ v, t5.setRow X (u32s m5).toArray = v := ⟨_, rfl⟩
       rw [hv5] at rX5 rV5 zv5 bv5 ⊢
       clear hv5 rt zt
       refine (quarterR_any m5 1 6 11 12 _ nm5 (by decide) (by decide) (by decide) (by decide)).mono ?_
       rintro e t6 ⟨rfl, c6⟩
       have zt := c6.size
       obtain ⟨m6, em6⟩ : ∃ x, quarL m5 1 6 11 12 = x := ⟨_, rfl⟩
       have nm6 : m6.length = 16 := by rw [← em6, quarL_length]; exact nm5
       rw [em6]
       have EM6 := Lib.hid em6
       clear em6
       have rt : row t6 X = (u32s m5).toArray := (row_below c6 (by omega)).trans rX5
       have rX6 := row_setRow_same (w := t6) (g := X) (c := (u32s m6).toArray) (by rw [rt]; simp [nm5]) (by rw [rt]; simp [nm5, nm6])
       have rV6 : row (t6.setRow X (u32s m6).toArray) (w.heap.size + 1) = (u32s g).toArray := by rw [row_setRow_other _ _ _ (by omega), row_below c6 (by omega)]; exact rV5
       have zv6 : X < (t6.setRow X (u32s m6).toArray).heap.size := by simp; omega
       have bv6 : Below w.heap.size w (t6.setRow X (u32s m6).toArray) := Below.setRow (Below.trans bv5 (c6.mono (by omega))) (by omega) _
       clear c6 zv5 bv5 rX5 rV5
       go_wp2_with fail
       obtain ⟨v6, hv6⟩ : ∃ v, t6.setRow X (u32s m6).toArray = v := ⟨_, rfl⟩
       rw [hv6] at rX6 rV6 zv6 bv6 ⊢
       clear hv6 rt zt
       refine (quarterR_any m6 2 7 8 13 _ nm6 (by decide) (by decide) (by decide) (by decide)).mono ?_
       rintro e t7 ⟨rfl, c7⟩
       have zt := c7.size
       obtain ⟨m7, em7⟩ : ∃ x, quarL m6 2 7 8 13 = x := ⟨_, rfl⟩
       have nm7 : m7.length = 16 := by rw [← em7, quarL_length]; exact nm6
       rw [em7]
       have EM7 := Lib.hid em7
       clear em7
       have rt : row t7 X = (u32s m6).toArray := (row_below c7 (by omega)).trans rX6
       have rX7 := row_setRow_same (w := t7) (g := X) (c := (u32s m7).toArray) (by rw [rt]; simp [nm6]) (by rw [rt]; simp [nm6, nm7])
       have rV7 : row (t7.setRow X (u32s m7).toArray) (w.heap.size + 1) = (u32s g).toArray := by rw [row_setRow_other _ _ _ (by omega), row_below c7 (by omega)]; exact rV6
       have zv7 : X < (t7.setRow X (u32s m7).toArray).heap.size := by simp; omega
       have bv7 : Below w.heap.size w (t7.setRow X (u32s m7).toArray) := Below.setRow (Below.trans bv6 (c7.mono (by omega))) (by omega) _
       clear c7 zv6 bv6 rX6 rV6
       go_wp2_with fail
       obtain ⟨v7, hv7⟩ : ∃ v, t7.setRow X (u32s m7).toArray = v := ⟨_, rfl⟩
       rw [hv7] at rX7 rV7 zv7 bv7 ⊢
       clear hv7 rt zt
       refine (quarterR_any m7 3 4 9 14 _ nm7 (by decide) (by decide) (by decide) (by decide)).mono ?_
       rintro e t8 ⟨rfl, c8⟩
       have zt := c8.size
       obtain ⟨m8, em8⟩ : ∃ x, quarL m7 3 4 9 14 = x := ⟨_, rfl⟩
       have nm8 : m8.length = 16 := by rw [← em8, quarL_length]; exact nm7
       rw [em8]
       have EM8 := Lib.hid em8
       clear em8
       have rt : row t8 X = (u32s m7).toArray := (row_below c8 (by omega)).trans rX7
       have rX8 := row_setRow_same (w := t8) (g := X) (c := (u32s m8).toArray) (by rw [rt]; simp [nm7]) (by rw [rt]; simp [nm7, nm8])
       have rV8 : row (t8.setRow X (u32s m8).toArray) (w.heap.size + 1) = (u32s g).toArray := by rw [row_setRow_other _ _ _ (by omega), row_below c8 (by omega)]; exact rV7
       have zv8 : X < (t8.setRow X (u32s m8).toArray).heap.size := by simp; omega
       have bv8 : Below w.heap.size w (t8.setRow X (u32s m8).toArray) := Below.setRow (Below.trans bv7 (c8.mono (by omega))) (by omega) _
       clear c8 zv7 bv7 rX7 rV7
       go_wp2_with fail
       obtain ⟨v8, hv8⟩ : ∃ v, t8.setRow X (u32s m8).toArray = v := ⟨_, rfl⟩
       rw [hv8] at rX8 rV8 zv8 bv8 ⊢
       clear hv8 rt zt
       go_roundw
       case rel =>
        refine ⟨n + 1, by omega, rfl, ?_, rV8, zv8, bv8⟩
        rw [upTo, HL.out, eightF, eightL, EM1.out, EM2.out, EM3.out, EM4.out, EM5.out, EM6.out, EM7.out, EM8.out]
        exact rX8
       case measure => simp [intOf]; omega
      ·
       obtain rfl : n = 10 := by omega
       rw [show ((10 : Nat) : Int) = 10 from rfl]
       go_wp2_with fail
       have zb := bv0.size
       obtain ⟨w5, hw5⟩ : ∃ v, wr = v := ⟨_, rfl⟩
       rw [hw5] at rX0 rV0 zv0 bv0 zb ⊢
       clear hw5
       obtain ⟨B, hB⟩ : ∃ B, w5.heap.size = B := ⟨_, rfl⟩
       rw [hB] at zv0 zb
       obtain ⟨S, hS⟩ : ∃ S, streamW g = S := ⟨_, rfl⟩
       have hSg : ∀ i, i < 16 → S.getD i 0 = (m0.getD i 0 + g.getD i 0) % 4294967296 := by
        intro i hi
        rw [← hS, streamW, ← eightF_twenty _ _ hLl, HL.out]
        exact addF_get g 16 m0 i (by omega) hi
       have HS := Lib.hid hS
       have HG := Lib.hid hSg
       clear hS hSg
       go_loopw [13, 14] (fun v i wq => ∃ n : Nat, n ≤ 16 ∧ i = .int .i64 n ∧ wq.ownsRow B 5 1 v (4 * n) (u8s (bytesW S (4 * n))) ∧ Below B w5 wq) (fun _ i _ => 16 - (intOf i).toNat)
       case atStart => exact ⟨0, by omega, rfl, World.ownsRow_nil _ _ _ _, Below.refl _ _⟩
       case round =>
        obtain ⟨n, hn16, rfl, hown, hbel⟩ := hrel
        by_cases hlt : n < 16
        ·
         have h1 : (n : Int) < 16 := by omega
         have k1 : n < m0.length := by omega
         have k2 : n < g.length := by omega
         have q1 : X < wr.heap.size := by have := hbel.size; omega
         have q2 : w.heap.size + 1 < wr.heap.size := by omega
         have rX1 : row wr X = (u32s m0).toArray := (row_below hbel (by omega)).trans rX0
         have rV1 : row wr (w.heap.size + 1) = (u32s g).toArray := (row_below hbel (by omega)).trans rV0
         have es : IntKind.u32.wrap (m0[n] + g[n]) = S.getD n 0 := by rw [HG.out n hlt, IntKind.wrap_u32, getD_elemI _ _ k1, getD_elemI _ _ k2]
         obtain ⟨s, hs⟩ : ∃ s, S.getD n 0 = s := ⟨_, rfl⟩
         rw [hs] at es
         have sb : 0 ≤ s ∧ s < 4294967296 := by rw [← es, IntKind.wrap_u32]; omega
         have HSn := Lib.hid hs
         have HE := Lib.hid es
         clear hs es
         go_wp2_with fail
         refine wp_region_beginR [(X, (u32s m0).toArray), (w.heap.size + 1, (u32s g).toArray)] rfl (by simp only [Rws]; (repeat (first | exact trivial | refine ⟨(by first | assumption | (simp [go_sem, *]; done)), (by first | omega | (simp; done) | (simp; omega)), ?_⟩))) (fun hS => ?_)
         refine qp 0 hS ?_
         refine qp 1 hS ?_
         refine qp 2 hS ?_
         refine qp 3 hS ?_
         refine qp 4 hS ?_
         refine qp 5 hS ?_
         refine qp 6 hS ?_
         rw [HE.out]
         refine qp 7 hS ?_
         refine wpAnyR_done (by kernel_rfl) (fun w6 b6 => ?_) _
         replace b6 : Below (wr).heap.size (wr) w6 := below_step (Below.drew (Below.refl _ _)) b6
         have z6 : B ≤ wr.heap.size := by have := hbel.size; omega
         have b7 : Below B w5 w6 := hbel.trans (b6.mono z6)
         have hown6 : w6.ownsRow B 5 1 u13 (4 * n) (u8s (bytesW S (4 * n))) := ownsRow_belowR hown b6
         go_wp2_with fail
         go_loopw [13, 15, 16] (fun v x j wq => ∃ m : Nat, m ≤ 4 ∧ j = .int .i64 m ∧ x = .int .u32 (s / 2 ^ (8 * m)) ∧ wq.ownsRow B 5 1 v (4 * n + m) (u8s (bytesW S (4 * n + m))) ∧ Below B w5 wq) (fun _ _ j _ => 4 - (intOf j).toNat)
         case atStart => exact ⟨0, by omega, rfl, by simp, hown6, b7⟩
         case round =>
          clear b7 hown6 b6 hown hbel
          obtain ⟨m, hm4, rfl, rfl, hown, hbel⟩ := hrel
          by_cases hlt2 : m < 4
          ·
           have h1 : (m : Int) < 4 := by omega
           obtain ⟨y, hy⟩ : ∃ y, s / 2 ^ (8 * m) = y := ⟨_, rfl⟩
           have y0 : 0 ≤ y := by rw [← hy]; exact Int.ediv_nonneg sb.1 (Int.le_of_lt (Int.pow_pos (by decide)))
           have y1 : y < 4294967296 := by
            rw [← hy]
            refine Int.lt_of_le_of_lt ?_ sb.2
            exact Int.ediv_le_self _ sb.1
           have hbt : y % 256 = ((byteW S (4 * n + m)).toNat : Int) := by
            rw [byteW, show (4 * n + m) / 4 = n by omega, show (4 * n + m) % 4 = m by omega, HSn.out, hy, byteI_toNat]
           have hys : s / 2 ^ (8 * (m + 1)) = y / 256 := by
            rw [← hy, show 8 * (m + 1) = 8 * m + 8 by omega, Int.pow_add, ← Int.ediv_ediv_of_nonneg (Int.le_of_lt (Int.pow_pos (by decide)))]
            rfl
           rw [hy]
           have HB := Lib.hid hbt
           have HY := Lib.hid hys
           have hsz := hbel.size
           clear hbt hys hy
           go_wp2_with (at_builtin; refine wpList_append_u8 rfl rfl inferInstance B _ (4 * n + m) _ rfl hown _ (byteW S (4 * n + m)) rfl HB.out (by omega) (by omega) ?_)
           intro v' w2 hown2 hb2
           go_wp2_with fail
           go_roundw
           case rel => exact ⟨m + 1, by omega, rfl, by rw [HY.out], by rw [← Nat.add_assoc, bytesW_succ, u8s_append]; exact hown2, hbel.trans hb2⟩
           case measure => simp [intOf]; omega
          ·
           obtain rfl : m = 4 := by omega
           rw [show ((4 : Nat) : Int) = 4 from rfl]
           go_wp2_with fail
           go_roundw
           case rel => exact ⟨n + 1, by omega, rfl, by rw [show 4 * (n + 1) = 4 * n + 4 by omega]; exact hown, hbel⟩
           case measure => simp [intOf]; omega
        ·
         obtain rfl : n = 16 := by omega
         rw [show ((16 : Nat) : Int) = 16 from rfl]
         have hc := convS_own (P := Tryz.prog) (src := 113) (dst := 9) hown
         rw [show 4 * 16 = 64 from rfl, bytesW_out] at hc
         have e9 : outL S = streamL k count nonce := by rw [streamL, ← EL.out, HS.out]
         rw [e9] at hc
         go_wp2_with fail
         go_ret
         exact ⟨rfl, Below.trans bv0 (hbel.mono (by omega))⟩
end
end Go.Proofs.YtakkicppgkmokaaGreat
