/- Contracts of package cha: words and quarters; each operation as the machine does it. -/
import Derived.Test.YtakkicppgkmokaaGreatCmpJ
import Derived.Test.YtakkicppgkmokaaGreatBytJ
import Derived.Lib.Hide
set_option linter.unusedSimpArgs false
set_option linter.unusedVariables false
namespace Go.Proofs.YtakkicppgkmokaaGreat
open Go.RowKit
def rotI (x : Int) (k : Nat) : Int := bits .or .u32 (IntKind.u32.wrap (x * 2 ^ k)) (x / 2 ^ (32 - k))
theorem rot16_any (x : Int) (w : World) :
  Calls Tryz.prog 151 #[.int .u32 x, .int .i64 16] w fun e w' => e = .returned (.int .u32 (rotI x 16)) ∧ w = w' := by
 have hb : bits .and .u64 16 31 = 16 := by decide +kernel
 go_enter Tryz.func151, Tryz.ntmps151
 go_wp2_with fail
 go_ret
 exact ⟨rfl, rfl⟩
theorem rot12_any (x : Int) (w : World) :
  Calls Tryz.prog 151 #[.int .u32 x, .int .i64 12] w fun e w' => e = .returned (.int .u32 (rotI x 12)) ∧ w = w' := by
 have hb : bits .and .u64 12 31 = 12 := by decide +kernel
 go_enter Tryz.func151, Tryz.ntmps151
 go_wp2_with fail
 go_ret
 exact ⟨rfl, rfl⟩
theorem rot8_any (x : Int) (w : World) :
  Calls Tryz.prog 151 #[.int .u32 x, .int .i64 8] w fun e w' => e = .returned (.int .u32 (rotI x 8)) ∧ w = w' := by
 have hb : bits .and .u64 8 31 = 8 := by decide +kernel
 go_enter Tryz.func151, Tryz.ntmps151
 go_wp2_with fail
 go_ret
 exact ⟨rfl, rfl⟩
theorem rot7_any (x : Int) (w : World) :
  Calls Tryz.prog 151 #[.int .u32 x, .int .i64 7] w fun e w' => e = .returned (.int .u32 (rotI x 7)) ∧ w = w' := by
 have hb : bits .and .u64 7 31 = 7 := by decide +kernel
 go_enter Tryz.func151, Tryz.ntmps151
 go_wp2_with fail
 go_ret
 exact ⟨rfl, rfl⟩
theorem results_4 {P : Program} {w : World} {fn : Func} {tmps : Array Value} {r s q t : ResultVar} {u v x y : Value} (h : fn.results = #[r, s, q, t]) (h1 : ResOk P w tmps r u) (h2 : ResOk P w tmps s v) (h3 : ResOk P w tmps q x) (h4 : ResOk P w tmps t y) : (results fn tmps).run P w = .ok (.tuple #[u, v, x, y]) w := by
 unfold ResOk at h1 h2 h3 h4
 rw [results_eq]
 simp [h, h1, h2, h3, h4]
def qd (a b d : Int) : Int := rotI (bits .xor .u32 d ((a + b) % 4294967296)) 16
def qb (a b c d : Int) : Int := rotI (bits .xor .u32 b ((c + qd a b d) % 4294967296)) 12
def qA (a b c d : Int) : Int := (a + b + qb a b c d) % 4294967296
def qD (a b c d : Int) : Int := rotI (bits .xor .u32 (qd a b d) (qA a b c d)) 8
def qC (a b c d : Int) : Int := (c + qd a b d + qD a b c d) % 4294967296
def qB (a b c d : Int) : Int := rotI (bits .xor .u32 (qb a b c d) (qC a b c d)) 7
theorem quarter_any (a b c d : Int) (w : World) :
  Calls Tryz.prog 158 #[.int .u32 a, .int .u32 b, .int .u32 c, .int .u32 d] w fun e w' => e = .returned (.tuple #[.int .u32 (qA a b c d), .int .u32 (qB a b c d), .int .u32 (qC a b c d), .int .u32 (qD a b c d)]) ∧ Below w.heap.size w w' := by
 go_enter Tryz.func158, Tryz.ntmps158
 go_wp2_with fail
 refine (rot16_any _ _).mono ?_
 rintro e w1 ⟨rfl, rfl⟩
 go_wp2_with fail
 refine (rot12_any _ _).mono ?_
 rintro e w1 ⟨rfl, rfl⟩
 go_wp2_with fail
 refine (rot8_any _ _).mono ?_
 rintro e w1 ⟨rfl, rfl⟩
 go_wp2_with fail
 refine (rot7_any _ _).mono ?_
 rintro e w1 ⟨rfl, rfl⟩
 go_wp2_with fail
 exact bodyPost_ret (results_4 rfl resOk_tmp resOk_tmp resOk_tmp resOk_tmp) rfl ⟨rfl, Below.refl _ _⟩
def u32s (l : List Int) : List Value := l.map (Value.int .u32)
@[simp] theorem u32s_length (l : List Int) : (u32s l).length = l.length := by simp [u32s]
@[simp] theorem ones_u32s (l : List Int) : ones (u32s l) = true := by simp [ones, u32s, Value.oneCell']
@[simp] theorem u32s_get (l : List Int) (i : Nat) (h : i < (u32s l).length) : (u32s l)[i] = .int .u32 (l[i]'(by simpa using h)) := by simp [u32s]
@[simp] theorem u32s_set (l : List Int) (i : Nat) (v : Int) : (u32s l).set i (.int .u32 v) = u32s (l.set i v) := by simp [u32s, List.map_set]
def turnL (l : List Int) (a b c d : Nat) : List Int :=
 (((l.set a (qA (l.getD a 0) (l.getD b 0) (l.getD c 0) (l.getD d 0))).set b (qB (l.getD a 0) (l.getD b 0) (l.getD c 0) (l.getD d 0))).set c (qC (l.getD a 0) (l.getD b 0) (l.getD c 0) (l.getD d 0))).set d (qD (l.getD a 0) (l.getD b 0) (l.getD c 0) (l.getD d 0))
theorem turnL_length (l : List Int) (a b c d : Nat) : (turnL l a b c d).length = l.length := by simp [turnL]
attribute [local irreducible] qA qB qC qD
set_option maxRecDepth 20000 in
set_option maxHeartbeats 2000000 in
theorem turn_any (l : List Int) (a b c d V S : Nat) (w : World) (hl : l.length = 16) (ha : a < 16) (hb : b < 16) (hc : c < 16) (hd : d < 16) (hV : row w V = #[.pointer (some ⟨S, 0, none⟩)]) (hS0 : row w S = (u32s l).toArray) :
  Calls Tryz.prog 157 #[.int .i64 a, .int .i64 b, .int .i64 c, .int .i64 d, .pointer (some ⟨V, 0, none⟩)] w fun e w' => e = .returned (.tuple #[]) ∧ row w' S = (u32s (turnL l a b c d)).toArray ∧ BelowBut w.heap.size S w w' := by
 have zV : V < w.heap.size := lt_of_row (i := 0) (by rw [hV]; simp)
 have zS : S < w.heap.size := lt_of_row (i := 0) (by rw [hS0]; simp; omega)
 have ka : a < l.length := by omega
 have kb : b < l.length := by omega
 have kc : c < l.length := by omega
 have kd : d < l.length := by omega
 have ia : (a : Int) < 16 := by omega
 have ib : (b : Int) < 16 := by omega
 have ic : (c : Int) < 16 := by omega
 have id : (d : Int) < 16 := by omega
 have hQ := fun w => quarter_any l[a] l[b] l[c] l[d] w
 obtain ⟨xa, hxa⟩ : ∃ x, qA l[a] l[b] l[c] l[d] = x := ⟨_, rfl⟩
 obtain ⟨xb, hxb⟩ : ∃ x, qB l[a] l[b] l[c] l[d] = x := ⟨_, rfl⟩
 obtain ⟨xc, hxc⟩ : ∃ x, qC l[a] l[b] l[c] l[d] = x := ⟨_, rfl⟩
 obtain ⟨xd, hxd⟩ : ∃ x, qD l[a] l[b] l[c] l[d] = x := ⟨_, rfl⟩
 have ht : turnL l a b c d = (((l.set a xa).set b xb).set c xc).set d xd := by
  rw [← hxa, ← hxb, ← hxc, ← hxd]
  simp [turnL, List.getD_eq_getElem?_getD, ka, kb, kc, kd]
 rw [ht]
 rw [hxa, hxb, hxc, hxd] at hQ
 have HQ := Lib.hid hQ
 clear ht hxa hxb hxc hxd hQ
 go_enter Tryz.func157, Tryz.ntmps157
 go_wp2_with fail
 refine wp_region_beginK 36 [(V, #[.pointer (some ⟨S, 0, none⟩)]), (S, (u32s l).toArray)] [(V, #[.pointer (some ⟨S, 0, none⟩)])] rfl (by simp only [Rws]; (repeat (first | exact trivial | refine ⟨(by first | assumption | (simp [go_sem, *]; done)), (by first | omega | (simp; done) | (simp; omega)), ?_⟩))) (fun hS => ?_)
 refine kp 0 hS ?_
 refine kp 1 hS ?_
 refine wpAnyK_both (i := 2) (v := ?_) (by simp only [List.getElem?_toArray, List.getElem?_cons_succ, List.getElem?_cons_zero]; rfl) (by kernel_rfl) (by kernel_rfl) (by kernel_rfl) (by decide) (by first | exact fun _ _ _ h => h | exact fun _ _ _ h => by cases h.1) (Rws.grow _) (Rws.grow _) (by intro w h; simp only [Rws] at h ⊢; (try simp only [h, and_self])) (Or.inl ⟨by rfl, ?_⟩) hS ?_
 rotate_left
 ·
  intro w' hS'
  simp only [Rws] at hS'
  go_simp
  refine ⟨?_, Below.refl _ _⟩
  rfl
 (try simp only [Act.put, List.setIfInBounds_toArray, List.set_cons_zero, List.set_cons_succ])
 refine wpAnyK_both (i := 3) (v := ?_) (by simp only [List.getElem?_toArray, List.getElem?_cons_succ, List.getElem?_cons_zero]; rfl) (by kernel_rfl) (by kernel_rfl) (by kernel_rfl) (by decide) (by first | exact fun _ _ _ h => h | exact fun _ _ _ h => by cases h.1) (Rws.grow _) (Rws.grow _) (by intro w h; simp only [Rws] at h ⊢; (try simp only [h, and_self])) (Or.inl ⟨by rfl, ?_⟩) hS ?_
 rotate_left
 ·
  intro w' hS'
  simp only [Rws] at hS'
  go_simp
  refine ⟨?_, Below.refl _ _⟩
  rfl
 (try simp only [Act.put, List.setIfInBounds_toArray, List.set_cons_zero, List.set_cons_succ])
 refine wpAnyK_both (i := 4) (v := ?_) (by simp only [List.getElem?_toArray, List.getElem?_cons_succ, List.getElem?_cons_zero]; rfl) (by kernel_rfl) (by kernel_rfl) (by kernel_rfl) (by decide) (by first | exact fun _ _ _ h => h | exact fun _ _ _ h => by cases h.1) (Rws.grow _) (Rws.grow _) (by intro w h; simp only [Rws] at h ⊢; (try simp only [h, and_self])) (Or.inl ⟨by rfl, ?_⟩) hS ?_
 rotate_left
 ·
  intro w' hS'
  simp only [Rws] at hS'
  go_simp
  refine ⟨?_, Below.refl _ _⟩
  rfl
 (try simp only [Act.put, List.setIfInBounds_toArray, List.set_cons_zero, List.set_cons_succ])
 refine wpAnyK_both (i := 5) (v := ?_) (by simp only [List.getElem?_toArray, List.getElem?_cons_succ, List.getElem?_cons_zero]; rfl) (by kernel_rfl) (by kernel_rfl) (by kernel_rfl) (by decide) (by first | exact fun _ _ _ h => h | exact fun _ _ _ h => by cases h.1) (Rws.grow _) (Rws.grow _) (by intro w h; simp only [Rws] at h ⊢; (try simp only [h, and_self])) (Or.inl ⟨by rfl, ?_⟩) hS ?_
 rotate_left
 ·
  intro w' hS'
  simp only [Rws] at hS'
  go_simp
  refine ⟨?_, Below.refl _ _⟩
  rfl
 (try simp only [Act.put, List.setIfInBounds_toArray, List.set_cons_zero, List.set_cons_succ])
 refine wpAnyK_both (i := 6) (v := ?_) (by simp only [List.getElem?_toArray, List.getElem?_cons_succ, List.getElem?_cons_zero]; rfl) (by kernel_rfl) (by kernel_rfl) (by kernel_rfl) (by decide) (by first | exact fun _ _ _ h => h | exact fun _ _ _ h => by cases h.1) (Rws.grow _) (Rws.grow _) (by intro w h; simp only [Rws] at h ⊢; (try simp only [h, and_self])) (Or.inl ⟨by rfl, ?_⟩) hS ?_
 rotate_left
 ·
  intro w' hS'
  simp only [Rws] at hS'
  go_simp
  refine ⟨?_, Below.refl _ _⟩
  rfl
 (try simp only [Act.put, List.setIfInBounds_toArray, List.set_cons_zero, List.set_cons_succ])
 refine wpAnyK_both (i := 7) (v := ?_) (by simp only [List.getElem?_toArray, List.getElem?_cons_succ, List.getElem?_cons_zero]; rfl) (by kernel_rfl) (by kernel_rfl) (by kernel_rfl) (by decide) (by first | exact fun _ _ _ h => h | exact fun _ _ _ h => by cases h.1) (Rws.grow _) (Rws.grow _) (by intro w h; simp only [Rws] at h ⊢; (try simp only [h, and_self])) (Or.inl ⟨by rfl, ?_⟩) hS ?_
 rotate_left
 ·
  intro w' hS'
  simp only [Rws] at hS'
  go_simp
  refine ⟨?_, Below.refl _ _⟩
  rfl
 (try simp only [Act.put, List.setIfInBounds_toArray, List.set_cons_zero, List.set_cons_succ])
 refine kp 8 hS ?_
 refine kp 9 hS ?_
 refine kp 10 hS ?_
 refine kp 11 hS ?_
 refine kp 12 hS ?_
 refine kp 13 hS ?_
 refine kp 14 hS ?_
 refine kp 15 hS ?_
 refine kp 16 hS ?_
 refine kp 17 hS ?_
 refine kp 18 hS ?_
 refine kp 19 hS ?_
 refine kp 20 hS ?_
 refine kp 21 hS ?_
 refine kp 22 hS ?_
 refine kp 23 hS ?_
 refine kp 24 hS ?_
 refine kp 25 hS ?_
 refine kp 26 hS ?_
 refine kp 27 hS ?_
 refine wpAnyK_take (i := 28) (v := ?_) (by simp only [List.getElem?_toArray, List.getElem?_cons_succ, List.getElem?_cons_zero]; rfl) (by kernel_rfl) (by kernel_rfl) (by kernel_rfl) (by kernel_rfl) (by first | exact fun _ _ _ h => h | exact fun _ _ _ h => by cases h.1) (Rws.grow _) (Or.inl ⟨by rfl, ?_⟩) hS ?_
 rotate_left
 ·
  intro w' hS'
  simp only [Rws] at hS'
  go_simp
  with_reducible refine (HQ.out _).mono ?_
  rintro e w'' ⟨rfl, hb⟩
  refine ⟨_, rfl, ?_, hb⟩
  rfl
 (try simp only [Act.put, List.setIfInBounds_toArray, List.set_cons_zero, List.set_cons_succ])
 refine kp 29 hS ?_
 refine kp 30 hS ?_
 refine wpAnyK_both (i := 31) (v := ?_) (by simp only [List.getElem?_toArray, List.getElem?_cons_succ, List.getElem?_cons_zero]; rfl) (by kernel_rfl) (by kernel_rfl) (by kernel_rfl) (by decide) (by first | exact fun _ _ _ h => h | exact fun _ _ _ h => by cases h.1) (Rws.grow _) (Rws.grow _) (by intro w h; simp only [Rws] at h ⊢; (try simp only [h, and_self])) (Or.inl ⟨by rfl, ?_⟩) hS ?_
 rotate_left
 ·
  intro w' hS'
  simp only [Rws] at hS'
  go_simp
  refine ⟨?_, Below.refl _ _⟩
  rfl
 (try simp only [Act.put, List.setIfInBounds_toArray, List.set_cons_zero, List.set_cons_succ])
 refine wpAnyK_both (i := 32) (v := ?_) (by simp only [List.getElem?_toArray, List.getElem?_cons_succ, List.getElem?_cons_zero]; rfl) (by kernel_rfl) (by kernel_rfl) (by kernel_rfl) (by decide) (by first | exact fun _ _ _ h => h | exact fun _ _ _ h => by cases h.1) (Rws.grow _) (Rws.grow _) (by intro w h; simp only [Rws] at h ⊢; (try simp only [h, and_self])) (Or.inl ⟨by rfl, ?_⟩) hS ?_
 rotate_left
 ·
  intro w' hS'
  simp only [Rws] at hS'
  go_simp
  refine ⟨?_, Below.refl _ _⟩
  rfl
 (try simp only [Act.put, List.setIfInBounds_toArray, List.set_cons_zero, List.set_cons_succ])
 refine wpAnyK_both (i := 33) (v := ?_) (by simp only [List.getElem?_toArray, List.getElem?_cons_succ, List.getElem?_cons_zero]; rfl) (by kernel_rfl) (by kernel_rfl) (by kernel_rfl) (by decide) (by first | exact fun _ _ _ h => h | exact fun _ _ _ h => by cases h.1) (Rws.grow _) (Rws.grow _) (by intro w h; simp only [Rws] at h ⊢; (try simp only [h, and_self])) (Or.inl ⟨by rfl, ?_⟩) hS ?_
 rotate_left
 ·
  intro w' hS'
  simp only [Rws] at hS'
  go_simp
  refine ⟨?_, Below.refl _ _⟩
  rfl
 (try simp only [Act.put, List.setIfInBounds_toArray, List.set_cons_zero, List.set_cons_succ])
 refine wpAnyK_both (i := 34) (v := ?_) (by simp only [List.getElem?_toArray, List.getElem?_cons_succ, List.getElem?_cons_zero]; rfl) (by kernel_rfl) (by kernel_rfl) (by kernel_rfl) (by decide) (by first | exact fun _ _ _ h => h | exact fun _ _ _ h => by cases h.1) (Rws.grow _) (Rws.grow _) (by intro w h; simp only [Rws] at h ⊢; (try simp only [h, and_self])) (Or.inl ⟨by rfl, ?_⟩) hS ?_
 rotate_left
 ·
  intro w' hS'
  simp only [Rws] at hS'
  go_simp
  refine ⟨?_, Below.refl _ _⟩
  rfl
 (try simp only [Act.put, List.setIfInBounds_toArray, List.set_cons_zero, List.set_cons_succ])
 refine kp 35 hS ?_
 refine wpAnyK_both (i := 37) (v := ?_) (by simp only [List.getElem?_toArray, List.getElem?_cons_succ, List.getElem?_cons_zero]; rfl) (by kernel_rfl) (by kernel_rfl) (by kernel_rfl) (by decide) (by first | exact fun _ _ _ h => h | exact fun _ _ _ h => by cases h.1) (Rws.grow _) (Rws.grow _) (by intro w h; simp only [Rws] at h ⊢; (try simp only [h, and_self])) (Or.inl ⟨by rfl, ?_⟩) hS ?_
 rotate_left
 ·
  intro w' hS'
  simp only [Rws] at hS'
  go_simp
  refine ⟨?_, Below.refl _ _⟩
  rfl
 (try simp only [Act.put, List.setIfInBounds_toArray, List.set_cons_zero, List.set_cons_succ])
 refine wpAnyK_both (i := 40) (v := ?_) (by simp only [List.getElem?_toArray, List.getElem?_cons_succ, List.getElem?_cons_zero]; rfl) (by kernel_rfl) (by kernel_rfl) (by kernel_rfl) (by decide) (by first | exact fun _ _ _ h => h | exact fun _ _ _ h => by cases h.1) (Rws.grow _) (Rws.grow _) (by intro w h; simp only [Rws] at h ⊢; (try simp only [h, and_self])) (Or.inl ⟨by rfl, ?_⟩) hS ?_
 rotate_left
 ·
  intro w' hS'
  simp only [Rws] at hS'
  go_simp
  refine ⟨?_, Below.refl _ _⟩
  rfl
 (try simp only [Act.put, List.setIfInBounds_toArray, List.set_cons_zero, List.set_cons_succ])
 refine wpAnyK_both (i := 43) (v := ?_) (by simp only [List.getElem?_toArray, List.getElem?_cons_succ, List.getElem?_cons_zero]; rfl) (by kernel_rfl) (by kernel_rfl) (by kernel_rfl) (by decide) (by first | exact fun _ _ _ h => h | exact fun _ _ _ h => by cases h.1) (Rws.grow _) (Rws.grow _) (by intro w h; simp only [Rws] at h ⊢; (try simp only [h, and_self])) (Or.inl ⟨by rfl, ?_⟩) hS ?_
 rotate_left
 ·
  intro w' hS'
  simp only [Rws] at hS'
  go_simp
  refine ⟨?_, Below.refl _ _⟩
  rfl
 (try simp only [Act.put, List.setIfInBounds_toArray, List.set_cons_zero, List.set_cons_succ])
 refine wpAnyK_store (k := 36) (by simp only [List.getElem?_toArray, List.getElem?_cons_succ, List.getElem?_cons_zero]; rfl) rfl rfl (by kernel_rfl) (fun u1 hu1 => ?_)
 have zu : w.heap.size ≤ u1.heap.size := hu1.size
 have r1 : row u1 S = (u32s l).toArray := by rw [row_below hu1 zS]; exact hS0
 have hV1 : row u1 V = #[.pointer (some ⟨S, 0, none⟩)] := by rw [row_below hu1 zV]; exact hV
 have hb1 : Below w.heap.size w u1 := Below.trans (Below.drew (Below.refl _ _)) (hu1.mono (Nat.le_refl _))
 clear hu1 hS
 have nVS : V ≠ S := by
  intro e
  subst e
  rw [hV] at hS0
  have := congrArg Array.size hS0
  simp [hl] at this
 have c1 : BelowBut w.heap.size S w (u1.setRow S (u32s (l.set a xa)).toArray) := (BelowBut.of hb1).trans (BelowBut.set _ _)
 refine ⟨u1.setRow S (u32s (l.set a xa)).toArray, by go_simp, ⟨by rw [row_setRow_other _ _ _ nVS]; exact hV1, by simp; omega, trivial⟩, fun hS => ?_⟩
 obtain ⟨w2, hw2⟩ : ∃ w2, u1.setRow S (u32s (l.set a xa)).toArray = w2 := ⟨_, rfl⟩
 have r2 : row w2 S = (u32s (l.set a xa)).toArray := by rw [← hw2]; exact row_setRow_same (by rw [r1]; simp; omega) (by rw [r1]; simp)
 have z2 : w.heap.size ≤ w2.heap.size := by rw [← hw2]; simp; omega
 rw [hw2] at hS c1 ⊢
 clear hw2
 refine qp 38 hS ?_
 refine wpAnyR_store (i := 39) (b := S) (c := (u32s ((l.set a xa).set b xb)).toArray) (by simp only [List.getElem?_toArray, List.getElem?_cons_succ, List.getElem?_cons_zero]; rfl) rfl rfl (by kernel_rfl) (by simp; (try omega)) hS (by rw [r2]; simp; (try omega)) (fun w1 hr => by rw [r2] at hr; go_simp; (try rfl)) (fun u3 hu3 ru3 hS => ?_)
 have zu3 := hu3.size
 have cu3 : BelowBut w.heap.size S w (u3.setRow S (u32s ((l.set a xa).set b xb)).toArray) := (c1.trans (BelowBut.of (hu3.mono (by omega)))).trans (BelowBut.set _ _)
 obtain ⟨w4, hww4⟩ : ∃ v, u3.setRow S (u32s ((l.set a xa).set b xb)).toArray = v := ⟨_, rfl⟩
 have r4 : row w4 S = (u32s ((l.set a xa).set b xb)).toArray := by
  rw [← hww4]
  exact row_setRow_same (by rw [ru3, r2]; simp; omega) (by rw [ru3, r2]; simp)
 have zw4 : w.heap.size ≤ w4.heap.size := by rw [← hww4]; simp; omega
 rw [hww4] at hS cu3 ⊢
 clear hww4 hu3 ru3
 refine qp 41 hS ?_
 refine wpAnyR_store (i := 42) (b := S) (c := (u32s (((l.set a xa).set b xb).set c xc)).toArray) (by simp only [List.getElem?_toArray, List.getElem?_cons_succ, List.getElem?_cons_zero]; rfl) rfl rfl (by kernel_rfl) (by simp; (try omega)) hS (by rw [r4]; simp; (try omega)) (fun w1 hr => by rw [r4] at hr; go_simp; (try rfl)) (fun u5 hu5 ru5 hS => ?_)
 have zu5 := hu5.size
 have cu5 : BelowBut w.heap.size S w (u5.setRow S (u32s (((l.set a xa).set b xb).set c xc)).toArray) := (cu3.trans (BelowBut.of (hu5.mono (by omega)))).trans (BelowBut.set _ _)
 obtain ⟨w6, hww6⟩ : ∃ v, u5.setRow S (u32s (((l.set a xa).set b xb).set c xc)).toArray = v := ⟨_, rfl⟩
 have r6 : row w6 S = (u32s (((l.set a xa).set b xb).set c xc)).toArray := by
  rw [← hww6]
  exact row_setRow_same (by rw [ru5, r4]; simp; omega) (by rw [ru5, r4]; simp)
 have zw6 : w.heap.size ≤ w6.heap.size := by rw [← hww6]; simp; omega
 rw [hww6] at hS cu5 ⊢
 clear hww6 hu5 ru5
 refine qp 44 hS ?_
 refine wpAnyR_store (i := 45) (b := S) (c := (u32s ((((l.set a xa).set b xb).set c xc).set d xd)).toArray) (by simp only [List.getElem?_toArray, List.getElem?_cons_succ, List.getElem?_cons_zero]; rfl) rfl rfl (by kernel_rfl) (by simp; (try omega)) hS (by rw [r6]; simp; (try omega)) (fun w1 hr => by rw [r6] at hr; go_simp; (try rfl)) (fun u7 hu7 ru7 hS => ?_)
 have zu7 := hu7.size
 have cu7 : BelowBut w.heap.size S w (u7.setRow S (u32s ((((l.set a xa).set b xb).set c xc).set d xd)).toArray) := (cu5.trans (BelowBut.of (hu7.mono (by omega)))).trans (BelowBut.set _ _)
 obtain ⟨w8, hww8⟩ : ∃ v, u7.setRow S (u32s ((((l.set a xa).set b xb).set c xc).set d xd)).toArray = v := ⟨_, rfl⟩
 have r8 : row w8 S = (u32s ((((l.set a xa).set b xb).set c xc).set d xd)).toArray := by
  rw [← hww8]
  exact row_setRow_same (by rw [ru7, r6]; simp; omega) (by rw [ru7, r6]; simp)
 have zw8 : w.heap.size ≤ w8.heap.size := by rw [← hww8]; simp; omega
 rw [hww8] at hS cu7 ⊢
 clear hww8 hu7 ru7
 refine wpAnyR_done (by kernel_rfl) (fun wN hN => ?_) _
 have r9 : row wN S = (u32s ((((l.set a xa).set b xb).set c xc).set d xd)).toArray := by rw [row_below hN (by omega)]; exact r8
 have c9 : BelowBut w.heap.size S w wN := cu7.trans (BelowBut.of (hN.mono (by omega)))
 go_wp2_with fail
 go_end0
 exact ⟨rfl, r9, c9⟩
end Go.Proofs.YtakkicppgkmokaaGreat
