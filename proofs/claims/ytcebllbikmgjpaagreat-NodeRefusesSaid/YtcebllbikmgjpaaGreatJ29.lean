/- Texts of this proof, merged: Cha, ChaD, ChaE, ChaS. -/
import Derived.Test.YtcebllbikmgjpaaGreatJ2
import Derived.Test.YtcebllbikmgjpaaGreatBytJ
import Derived.Lib.Hide
set_option linter.unusedSimpArgs false
set_option linter.unusedVariables false
set_option maxHeartbeats 8000000
set_option maxRecDepth 20000
namespace Go.Proofs.YtcebllbikmgjpaaGreat
section
open Go.RowKit
def rotI (x : Int) (k : Nat) : Int := bits .or .u32 (IntKind.u32.wrap (x * 2 ^ k)) (x / 2 ^ (32 - k))
theorem rot16_any (x : Int) (w : World) :
  Calls Tryz.prog 274 #[.int .u32 x, .int .i64 16] w fun e w' => e = .returned (.int .u32 (rotI x 16)) ∧ w = w' := by
 have hb : bits .and .u64 16 31 = 16 := by decide +kernel
 go_enter Tryz.func274, Tryz.ntmps274
 go_wp2_with fail
 go_ret
 exact ⟨rfl, rfl⟩
theorem rot12_any (x : Int) (w : World) :
  Calls Tryz.prog 274 #[.int .u32 x, .int .i64 12] w fun e w' => e = .returned (.int .u32 (rotI x 12)) ∧ w = w' := by
 have hb : bits .and .u64 12 31 = 12 := by decide +kernel
 go_enter Tryz.func274, Tryz.ntmps274
 go_wp2_with fail
 go_ret
 exact ⟨rfl, rfl⟩
theorem rot8_any (x : Int) (w : World) :
  Calls Tryz.prog 274 #[.int .u32 x, .int .i64 8] w fun e w' => e = .returned (.int .u32 (rotI x 8)) ∧ w = w' := by
 have hb : bits .and .u64 8 31 = 8 := by decide +kernel
 go_enter Tryz.func274, Tryz.ntmps274
 go_wp2_with fail
 go_ret
 exact ⟨rfl, rfl⟩
theorem rot7_any (x : Int) (w : World) :
  Calls Tryz.prog 274 #[.int .u32 x, .int .i64 7] w fun e w' => e = .returned (.int .u32 (rotI x 7)) ∧ w = w' := by
 have hb : bits .and .u64 7 31 = 7 := by decide +kernel
 go_enter Tryz.func274, Tryz.ntmps274
 go_wp2_with fail
 go_ret
 exact ⟨rfl, rfl⟩
theorem results_4 {P : Program} {w : World} {fn : Func} {tmps : Array Value} {r s q t : ResultVar} {u v x y : Value} (h : fn.results = #[r, s, q, t]) (h1 : ResOk P w tmps r u) (h2 : ResOk P w tmps s v) (h3 : ResOk P w tmps q x) (h4 : ResOk P w tmps t y) : (results fn tmps).run P w = .ok (.tuple #[u, v, x, y]) w := by
 unfold ResOk at h1 h2 h3 h4
 rw [results_eq]
 simp [h, h1, h2, h3, h4]
def qd (a b d : Int) : Int := rotI (bits .xor .u32 d ((a + b) % 4294967296)) 16
def qb (a b c d : Int) : Int := rotI (bits .xor .u32 b ((c + qd a b d) % 4294967296)) 12
def qA (a b c d : Int) : Int := (a + b + qb a b c d) % 4294967296
def qD (a b c d : Int) : Int := rotI (bits .xor .u32 (qd a b d) (qA a b c d)) 8
def qC (a b c d : Int) : Int := (c + qd a b d + qD a b c d) % 4294967296
def qB (a b c d : Int) : Int := rotI (bits .xor .u32 (qb a b c d) (qC a b c d)) 7
theorem quarter_any (a b c d : Int) (w : World) :
  Calls Tryz.prog 272 #[.int .u32 a, .int .u32 b, .int .u32 c, .int .u32 d] w fun e w' => e = .returned (.tuple #[.int .u32 (qA a b c d), .int .u32 (qB a b c d), .int .u32 (qC a b c d), .int .u32 (qD a b c d)]) ∧ Below w.heap.size w w' := by
 go_enter Tryz.func272, Tryz.ntmps272
 go_wp2_with fail
 refine (rot16_any _ _).mono ?_
 rintro e w1 ⟨rfl, rfl⟩
 go_wp2_with fail
 refine (rot12_any _ _).mono ?_
 rintro e w1 ⟨rfl, rfl⟩
 go_wp2_with fail
 refine (rot8_any _ _).mono ?_
 rintro e w1 ⟨rfl, rfl⟩
 go_wp2_with fail
 refine (rot7_any _ _).mono ?_
 rintro e w1 ⟨rfl, rfl⟩
 go_wp2_with fail
 exact bodyPost_ret (results_4 rfl resOk_tmp resOk_tmp resOk_tmp resOk_tmp) rfl ⟨rfl, Below.refl _ _⟩
def u32s (l : List Int) : List Value := l.map (Value.int .u32)
@[simp] theorem u32s_length (l : List Int) : (u32s l).length = l.length := by simp [u32s]
@[simp] theorem ones_u32s (l : List Int) : ones (u32s l) = true := by simp [ones, u32s, Value.oneCell']
@[simp] theorem u32s_get (l : List Int) (i : Nat) (h : i < (u32s l).length) : (u32s l)[i] = .int .u32 (l[i]'(by simpa using h)) := by simp [u32s]
@[simp] theorem u32s_set (l : List Int) (i : Nat) (v : Int) : (u32s l).set i (.int .u32 v) = u32s (l.set i v) := by simp [u32s, List.map_set]
def turnL (l : List Int) (a b c d : Nat) : List Int :=
 (((l.set a (qA (l.getD a 0) (l.getD b 0) (l.getD c 0) (l.getD d 0))).set b (qB (l.getD a 0) (l.getD b 0) (l.getD c 0) (l.getD d 0))).set c (qC (l.getD a 0) (l.getD b 0) (l.getD c 0) (l.getD d 0))).set d (qD (l.getD a 0) (l.getD b 0) (l.getD c 0) (l.getD d 0))
theorem turnL_length (l : List Int) (a b c d : Nat) : (turnL l a b c d).length = l.length := by simp [turnL]
attribute [local irreducible] qA qB qC qD
theorem turn_any (l : List Int) (a b c d V S : Nat) (w : World) (hl : l.length = 16) (ha : a < 16) (hb : b < 16) (hc : c < 16) (hd : d < 16) (hV : row w V = #[.pointer (some ⟨S, 0, none⟩)]) (hS0 : row w S = (u32s l).toArray) :
  Calls Tryz.prog 271 #[.int .i64 a, .int .i64 b, .int .i64 c, .int .i64 d, .pointer (some ⟨V, 0, none⟩)] w fun e w' => e = .returned (.tuple #[]) ∧ row w' S = (u32s (turnL l a b c d)).toArray ∧ BelowBut w.heap.size S w w' := by
 have zV : V < w.heap.size := lt_of_row (i := 0) (by rw [hV]; simp)
 have zS : S < w.heap.size := lt_of_row (i := 0) (by rw [hS0]; simp; omega)
 have ka : a < l.length := by omega
 have kb : b < l.length := by omega
 have kc : c < l.length := by omega
 have kd : d < l.length := by omega
 have ia : (a : Int) < 16 := by omega
 have ib : (b : Int) < 16 := by omega
 have ic : (c : Int) < 16 := by omega
 have id : (d : Int) < 16 := by omega
 have hQ := fun w => quarter_any l[a] l[b] l[c] l[d] w
 obtain ⟨xa, hxa⟩ : ∃ x, qA l[a] l[b] l[c] l[d] = x := ⟨_, rfl⟩
 obtain ⟨xb, hxb⟩ : ∃ x, qB l[a] l[b] l[c] l[d] = x := ⟨_, rfl⟩
 obtain ⟨xc, hxc⟩ : ∃ x, qC l[a] l[b] l[c] l[d] = x := ⟨_, rfl⟩
 obtain ⟨xd, hxd⟩ : ∃ x, qD l[a] l[b] l[c] l[d] = x := ⟨_, rfl⟩
 have ht : turnL l a b c d = (((l.set a xa).set b xb).set c xc).set d xd := by
  rw [← hxa, ← hxb, ← hxc, ← hxd]
  simp [turnL, List.getD_eq_getElem?_getD, ka, kb, kc, kd]
 rw [ht]
 rw [hxa, hxb, hxc, hxd] at hQ
 have HQ := h_ hQ
 clear ht hxa hxb hxc hxd hQ
 go_enter Tryz.func271, Tryz.ntmps271
 go_wp2_with fail
 refine rgK_ 36 [(V, #[.pointer (some ⟨S, 0, none⟩)]), (S, (u32s l).toArray)] [(V, #[.pointer (some ⟨S, 0, none⟩)])] (fun hS => ?_)
 refine kp 0 hS ?_
 refine kp 1 hS ?_
 refine wpAnyK_both (i := 2) (v := ?_) opt_ kr_ kr_ kr_ (by decide) (by first | exact fun _ _ _ h => h | exact fun _ _ _ h => by cases h.1) (Rws.grow _) (Rws.grow _) (by intro w h; simp only [Rws] at h ⊢; (try simp only [h, and_self])) (Or.inl ⟨by rfl, ?_⟩) hS ?_
 rotate_left
 ·
  intro w' hS'
  simp only [Rws] at hS'
  go_simp
  refine ⟨?_, Below.refl _ _⟩
  rfl
 (try simp only [Act.put, List.setIfInBounds_toArray, List.set_cons_zero, List.set_cons_succ])
 refine wpAnyK_both (i := 3) (v := ?_) opt_ kr_ kr_ kr_ (by decide) (by first | exact fun _ _ _ h => h | exact fun _ _ _ h => by cases h.1) (Rws.grow _) (Rws.grow _) (by intro w h; simp only [Rws] at h ⊢; (try simp only [h, and_self])) (Or.inl ⟨by rfl, ?_⟩) hS ?_
 rotate_left
 ·
  intro w' hS'
  simp only [Rws] at hS'
  go_simp
  refine ⟨?_, Below.refl _ _⟩
  rfl
 (try simp only [Act.put, List.setIfInBounds_toArray, List.set_cons_zero, List.set_cons_succ])
 refine wpAnyK_both (i := 4) (v := ?_) opt_ kr_ kr_ kr_ (by decide) (by first | exact fun _ _ _ h => h | exact fun _ _ _ h => by cases h.1) (Rws.grow _) (Rws.grow _) (by intro w h; simp only [Rws] at h ⊢; (try simp only [h, and_self])) (Or.inl ⟨by rfl, ?_⟩) hS ?_
 rotate_left
 ·
  intro w' hS'
  simp only [Rws] at hS'
  go_simp
  refine ⟨?_, Below.refl _ _⟩
  rfl
 (try simp only [Act.put, List.setIfInBounds_toArray, List.set_cons_zero, List.set_cons_succ])
 refine wpAnyK_both (i := 5) (v := ?_) opt_ kr_ kr_ kr_ (by decide) (by first | exact fun _ _ _ h => h | exact fun _ _ _ h => by cases h.1) (Rws.grow _) (Rws.grow _) (by intro w h; simp only [Rws] at h ⊢; (try simp only [h, and_self])) (Or.inl ⟨by rfl, ?_⟩) hS ?_
 rotate_left
 ·
  intro w' hS'
  simp only [Rws] at hS'
  go_simp
  refine ⟨?_, Below.refl _ _⟩
  rfl
 (try simp only [Act.put, List.setIfInBounds_toArray, List.set_cons_zero, List.set_cons_succ])
 refine wpAnyK_both (i := 6) (v := ?_) opt_ kr_ kr_ kr_ (by decide) (by first | exact fun _ _ _ h => h | exact fun _ _ _ h => by cases h.1) (Rws.grow _) (Rws.grow _) (by intro w h; simp only [Rws] at h ⊢; (try simp only [h, and_self])) (Or.inl ⟨by rfl, ?_⟩) hS ?_
 rotate_left
 ·
  intro w' hS'
  simp only [Rws] at hS'
  go_simp
  refine ⟨?_, Below.refl _ _⟩
  rfl
 (try simp only [Act.put, List.setIfInBounds_toArray, List.set_cons_zero, List.set_cons_succ])
 refine wpAnyK_both (i := 7) (v := ?_) opt_ kr_ kr_ kr_ (by decide) (by first | exact fun _ _ _ h => h | exact fun _ _ _ h => by cases h.1) (Rws.grow _) (Rws.grow _) (by intro w h; simp only [Rws] at h ⊢; (try simp only [h, and_self])) (Or.inl ⟨by rfl, ?_⟩) hS ?_
 rotate_left
 ·
  intro w' hS'
  simp only [Rws] at hS'
  go_simp
  refine ⟨?_, Below.refl _ _⟩
  rfl
 (try simp only [Act.put, List.setIfInBounds_toArray, List.set_cons_zero, List.set_cons_succ])
 refine kp 8 hS ?_
 refine kp 9 hS ?_
 refine kp 10 hS ?_
 refine kp 11 hS ?_
 refine kp 12 hS ?_
 refine kp 13 hS ?_
 refine kp 14 hS ?_
 refine kp 15 hS ?_
 refine kp 16 hS ?_
 refine kp 17 hS ?_
 refine kp 18 hS ?_
 refine kp 19 hS ?_
 refine kp 20 hS ?_
 refine kp 21 hS ?_
 refine kp 22 hS ?_
 refine kp 23 hS ?_
 refine kp 24 hS ?_
 refine kp 25 hS ?_
 refine kp 26 hS ?_
 refine kp 27 hS ?_
 refine wpAnyK_take (i := 28) (v := ?_) opt_ kr_ kr_ kr_ kr_ (by first | exact fun _ _ _ h => h | exact fun _ _ _ h => by cases h.1) (Rws.grow _) (Or.inl ⟨by rfl, ?_⟩) hS ?_
 rotate_left
 ·
  intro w' hS'
  simp only [Rws] at hS'
  go_simp
  with_reducible refine (HQ.out _).mono ?_
  rintro e w'' ⟨rfl, hb⟩
  refine ⟨_, rfl, ?_, hb⟩
  rfl
 (try simp only [Act.put, List.setIfInBounds_toArray, List.set_cons_zero, List.set_cons_succ])
 refine kp 29 hS ?_
 refine kp 30 hS ?_
 refine wpAnyK_both (i := 31) (v := ?_) opt_ kr_ kr_ kr_ (by decide) (by first | exact fun _ _ _ h => h | exact fun _ _ _ h => by cases h.1) (Rws.grow _) (Rws.grow _) (by intro w h; simp only [Rws] at h ⊢; (try simp only [h, and_self])) (Or.inl ⟨by rfl, ?_⟩) hS ?_
 rotate_left
 ·
  intro w' hS'
  simp only [Rws] at hS'
  go_simp
  refine ⟨?_, Below.refl _ _⟩
  rfl
 (try simp only [Act.put, List.setIfInBounds_toArray, List.set_cons_zero, List.set_cons_succ])
 refine wpAnyK_both (i := 32) (v := ?_) opt_ kr_ kr_ kr_ (by decide) (by first | exact fun _ _ _ h => h | exact fun _ _ _ h => by cases h.1) (Rws.grow _) (Rws.grow _) (by intro w h; simp only [Rws] at h ⊢; (try simp only [h, and_self])) (Or.inl ⟨by rfl, ?_⟩) hS ?_
 rotate_left
 ·
  intro w' hS'
  simp only [Rws] at hS'
  go_simp
  refine ⟨?_, Below.refl _ _⟩
  rfl
 (try simp only [Act.put, List.setIfInBounds_toArray, List.set_cons_zero, List.set_cons_succ])
 refine wpAnyK_both (i := 33) (v := ?_) opt_ kr_ kr_ kr_ (by decide) (by first | exact fun _ _ _ h => h | exact fun _ _ _ h => by cases h.1) (Rws.grow _) (Rws.grow _) (by intro w h; simp only [Rws] at h ⊢; (try simp only [h, and_self])) (Or.inl ⟨by rfl, ?_⟩) hS ?_
 rotate_left
 ·
  intro w' hS'
  simp only [Rws] at hS'
  go_simp
  refine ⟨?_, Below.refl _ _⟩
  rfl
 (try simp only [Act.put, List.setIfInBounds_toArray, List.set_cons_zero, List.set_cons_succ])
 refine wpAnyK_both (i := 34) (v := ?_) opt_ kr_ kr_ kr_ (by decide) (by first | exact fun _ _ _ h => h | exact fun _ _ _ h => by cases h.1) (Rws.grow _) (Rws.grow _) (by intro w h; simp only [Rws] at h ⊢; (try simp only [h, and_self])) (Or.inl ⟨by rfl, ?_⟩) hS ?_
 rotate_left
 ·
  intro w' hS'
  simp only [Rws] at hS'
  go_simp
  refine ⟨?_, Below.refl _ _⟩
  rfl
 (try simp only [Act.put, List.setIfInBounds_toArray, List.set_cons_zero, List.set_cons_succ])
 refine kp 35 hS ?_
 refine wpAnyK_both (i := 37) (v := ?_) opt_ kr_ kr_ kr_ (by decide) (by first | exact fun _ _ _ h => h | exact fun _ _ _ h => by cases h.1) (Rws.grow _) (Rws.grow _) (by intro w h; simp only [Rws] at h ⊢; (try simp only [h, and_self])) (Or.inl ⟨by rfl, ?_⟩) hS ?_
 rotate_left
 ·
  intro w' hS'
  simp only [Rws] at hS'
  go_simp
  refine ⟨?_, Below.refl _ _⟩
  rfl
 (try simp only [Act.put, List.setIfInBounds_toArray, List.set_cons_zero, List.set_cons_succ])
 refine wpAnyK_both (i := 40) (v := ?_) opt_ kr_ kr_ kr_ (by decide) (by first | exact fun _ _ _ h => h | exact fun _ _ _ h => by cases h.1) (Rws.grow _) (Rws.grow _) (by intro w h; simp only [Rws] at h ⊢; (try simp only [h, and_self])) (Or.inl ⟨by rfl, ?_⟩) hS ?_
 rotate_left
 ·
  intro w' hS'
  simp only [Rws] at hS'
  go_simp
  refine ⟨?_, Below.refl _ _⟩
  rfl
 (try simp only [Act.put, List.setIfInBounds_toArray, List.set_cons_zero, List.set_cons_succ])
 refine wpAnyK_both (i := 43) (v := ?_) opt_ kr_ kr_ kr_ (by decide) (by first | exact fun _ _ _ h => h | exact fun _ _ _ h => by cases h.1) (Rws.grow _) (Rws.grow _) (by intro w h; simp only [Rws] at h ⊢; (try simp only [h, and_self])) (Or.inl ⟨by rfl, ?_⟩) hS ?_
 rotate_left
 ·
  intro w' hS'
  simp only [Rws] at hS'
  go_simp
  refine ⟨?_, Below.refl _ _⟩
  rfl
 (try simp only [Act.put, List.setIfInBounds_toArray, List.set_cons_zero, List.set_cons_succ])
 refine wpAnyK_store (k := 36) opt_ rfl rfl kr_ (fun u1 hu1 => ?_)
 have zu : w.heap.size ≤ u1.heap.size := hu1.size
 have r1 : row u1 S = (u32s l).toArray := by rw [row_below hu1 zS]; exact hS0
 have hV1 : row u1 V = #[.pointer (some ⟨S, 0, none⟩)] := by rw [row_below hu1 zV]; exact hV
 have hb1 : Below w.heap.size w u1 := Below.trans (Below.drew (Below.refl _ _)) (hu1.mono (Nat.le_refl _))
 clear hu1 hS
 have nVS : V ≠ S := by
  intro e
  subst e
  rw [hV] at hS0
  have := congrArg Array.size hS0
  simp [hl] at this
 have c1 : BelowBut w.heap.size S w (u1.setRow S (u32s (l.set a xa)).toArray) := (BelowBut.of hb1).trans (BelowBut.set _ _)
 refine ⟨u1.setRow S (u32s (l.set a xa)).toArray, by go_simp, ⟨by rw [row_setRow_other _ _ _ nVS]; exact hV1, by simp; omega, trivial⟩, fun hS => ?_⟩
 obtain ⟨w2, hw2⟩ : ∃ w2, u1.setRow S (u32s (l.set a xa)).toArray = w2 := ⟨_, rfl⟩
 have r2 : row w2 S = (u32s (l.set a xa)).toArray := by rw [← hw2]; exact row_setRow_same (by rw [r1]; simp; omega) (by rw [r1]; simp)
 have z2 : w.heap.size ≤ w2.heap.size := by rw [← hw2]; simp; omega
 rw [hw2] at hS c1 ⊢
 clear hw2
 refine qp 38 hS ?_
 refine wpAnyR_store (i := 39) (b := S) (c := (u32s ((l.set a xa).set b xb)).toArray) opt_ rfl rfl kr_ (by simp; (try omega)) hS (by rw [r2]; simp; (try omega)) (fun w1 hr => by rw [r2] at hr; go_simp; (try rfl)) (fun u3 hu3 ru3 hS => ?_)
 have zu3 := hu3.size
 have cu3 : BelowBut w.heap.size S w (u3.setRow S (u32s ((l.set a xa).set b xb)).toArray) := (c1.trans (BelowBut.of (hu3.mono (by omega)))).trans (BelowBut.set _ _)
 obtain ⟨w4, hww4⟩ : ∃ v, u3.setRow S (u32s ((l.set a xa).set b xb)).toArray = v := ⟨_, rfl⟩
 have r4 : row w4 S = (u32s ((l.set a xa).set b xb)).toArray := by
  rw [← hww4]
  exact row_setRow_same (by rw [ru3, r2]; simp; omega) (by rw [ru3, r2]; simp)
 have zw4 : w.heap.size ≤ w4.heap.size := by rw [← hww4]; simp; omega
 rw [hww4] at hS cu3 ⊢
 clear hww4 hu3 ru3
 refine qp 41 hS ?_
 refine wpAnyR_store (i := 42) (b := S) (c := (u32s (((l.set a xa).set b xb).set c xc)).toArray) opt_ rfl rfl kr_ (by simp; (try omega)) hS (by rw [r4]; simp; (try omega)) (fun w1 hr => by rw [r4] at hr; go_simp; (try rfl)) (fun u5 hu5 ru5 hS => ?_)
 have zu5 := hu5.size
 have cu5 : BelowBut w.heap.size S w (u5.setRow S (u32s (((l.set a xa).set b xb).set c xc)).toArray) := (cu3.trans (BelowBut.of (hu5.mono (by omega)))).trans (BelowBut.set _ _)
 obtain ⟨w6, hww6⟩ : ∃ v, u5.setRow S (u32s (((l.set a xa).set b xb).set c xc)).toArray = v := ⟨_, rfl⟩
 have r6 : row w6 S = (u32s (((l.set a xa).set b xb).set c xc)).toArray := by
  rw [← hww6]
  exact row_setRow_same (by rw [ru5, r4]; simp; omega) (by rw [ru5, r4]; simp)
 have zw6 : w.heap.size ≤ w6.heap.size := by rw [← hww6]; simp; omega
 rw [hww6] at hS cu5 ⊢
 clear hww6 hu5 ru5
 refine qp 44 hS ?_
 refine wpAnyR_store (i := 45) (b := S) (c := (u32s ((((l.set a xa).set b xb).set c xc).set d xd)).toArray) opt_ rfl rfl kr_ (by simp; (try omega)) hS (by rw [r6]; simp; (try omega)) (fun w1 hr => by rw [r6] at hr; go_simp; (try rfl)) (fun u7 hu7 ru7 hS => ?_)
 have zu7 := hu7.size
 have cu7 : BelowBut w.heap.size S w (u7.setRow S (u32s ((((l.set a xa).set b xb).set c xc).set d xd)).toArray) := (cu5.trans (BelowBut.of (hu7.mono (by omega)))).trans (BelowBut.set _ _)
 obtain ⟨w8, hww8⟩ : ∃ v, u7.setRow S (u32s ((((l.set a xa).set b xb).set c xc).set d xd)).toArray = v := ⟨_, rfl⟩
 have r8 : row w8 S = (u32s ((((l.set a xa).set b xb).set c xc).set d xd)).toArray := by
  rw [← hww8]
  exact row_setRow_same (by rw [ru7, r6]; simp; omega) (by rw [ru7, r6]; simp)
 have zw8 : w.heap.size ≤ w8.heap.size := by rw [← hww8]; simp; omega
 rw [hww8] at hS cu7 ⊢
 clear hww8 hu7 ru7
 refine wpAnyR_done kr_ (fun wN hN => ?_) _
 have r9 : row wN S = (u32s ((((l.set a xa).set b xb).set c xc).set d xd)).toArray := by rw [row_below hN (by omega)]; exact r8
 have c9 : BelowBut w.heap.size S w wN := cu7.trans (BelowBut.of (hN.mono (by omega)))
 go_wp2_with fail
 go_end0
 exact ⟨rfl, r9, c9⟩
end
section
open Go.RowKit
def dblF (k : Nat) (l : List Int) : List Int := turnL l k (4 + k) (8 + k) (12 + k)
def dblG (k : Nat) (l : List Int) : List Int := turnL l k (4 + (k + 1) % 4) (8 + (k + 2) % 4) (12 + (k + 3) % 4)
def dblL (l : List Int) : List Int := upTo dblG 4 (upTo dblF 4 l)
theorem dblF_length (k : Nat) (l : List Int) : (dblF k l).length = l.length := turnL_length _ _ _ _ _
theorem dblG_length (k : Nat) (l : List Int) : (dblG k l).length = l.length := turnL_length _ _ _ _ _
theorem dblL_length (l : List Int) : (dblL l).length = l.length := by rw [dblL, upTo_len dblG_length, upTo_len dblF_length]
attribute [local irreducible] turnL upTo
theorem double_any (l : List Int) (S : Nat) (w : World) (hl : l.length = 16) (hS0 : row w S = (u32s l).toArray) :
  Calls Tryz.prog 247 #[.pointer (some ⟨S, 0, none⟩)] w fun e w' => e = .returned (.tuple #[]) ∧ row w' S = (u32s (dblL l)).toArray ∧ BelowBut w.heap.size S w w' := by
 have zS : S < w.heap.size := lt_of_row (i := 0) (by rw [hS0]; simp; omega)
 go_enter Tryz.func247, Tryz.ntmps247
 go_wp2_with fail
 go_loopw [6] (fun i wr => ∃ k : Nat, k ≤ 4 ∧ i = .int .i64 k ∧ row wr w.heap.size = #[.pointer (some ⟨S, 0, none⟩)] ∧ row wr S = (u32s (upTo dblF k l)).toArray ∧ w.heap.size < wr.heap.size ∧ BelowBut w.heap.size S w wr) (fun i _ => 4 - (intOf i).toNat)
 case atStart =>
  refine ⟨0, by omega, rfl, by simp [go_sem], ?_, by simp, BelowBut.of blw_⟩
  rw [upTo]
  simp [go_sem, zS, hS0]
 case round =>
  obtain ⟨k, hk, rfl, hV, hS, hz, hbel⟩ := hrel
  obtain ⟨L, hL⟩ : ∃ L, upTo dblF k l = L := ⟨_, rfl⟩
  have hLl : L.length = 16 := by rw [← hL, upTo_len dblF_length, hl]
  rw [hL] at hS
  have HL := h_ hL
  clear hL
  by_cases hlt : k < 4
  ·
   have h1 : (k : Int) < 4 := by omega
   have HT := turn_any L k (4 + k) (8 + k) (12 + k) w.heap.size S wr hLl (by omega) (by omega) (by omega) (by omega) hV hS
   push_cast at HT
   have HT' := h_ HT
   clear HT
   go_wp2_with fail
   refine (HT'.out).mono ?_
   rintro e w2 ⟨rfl, r2, b2⟩
   have z2 := b2.size
   have hV2 := (b2.row hz (show w.heap.size ≠ S by omega)).trans hV
   clear HT'
   go_wp2_with fail
   go_roundw
   case rel =>
    refine ⟨k + 1, by omega, rfl, hV2, ?_, by omega, hbel.trans (b2.mono (by omega))⟩
    rw [upTo, HL.out]
    exact r2
   case measure => simp [intOf]; omega
  ·
   obtain rfl : k = 4 := by omega
   rw [show ((4 : Nat) : Int) = 4 from rfl]
   go_wp2_with fail
   have HF := HL
   have hL4 := hLl
   clear HL hLl
   go_loopw [19] (fun i wr => ∃ k : Nat, k ≤ 4 ∧ i = .int .i64 k ∧ row wr w.heap.size = #[.pointer (some ⟨S, 0, none⟩)] ∧ row wr S = (u32s (upTo dblG k L)).toArray ∧ w.heap.size < wr.heap.size ∧ BelowBut w.heap.size S w wr) (fun i _ => 4 - (intOf i).toNat)
   case atStart =>
    refine ⟨0, by omega, rfl, hV, ?_, hz, hbel⟩
    rw [upTo]
    exact hS
   case round =>
    clear hS hV hz hbel hk hlt
    obtain ⟨k, hk, rfl, hV, hS, hz, hbel⟩ := hrel
    obtain ⟨M, hL⟩ : ∃ M, upTo dblG k L = M := ⟨_, rfl⟩
    have hLl : M.length = 16 := by rw [← hL, upTo_len dblG_length, hL4]
    rw [hL] at hS
    have HL := h_ hL
    clear hL
    by_cases hlt : k < 4
    ·
     have h1 : (k : Int) < 4 := by omega
     have HT := turn_any M k (4 + (k + 1) % 4) (8 + (k + 2) % 4) (12 + (k + 3) % 4) w.heap.size S wr hLl (by omega) (by omega) (by omega) (by omega) hV hS
     push_cast at HT
     have HT' := h_ HT
     clear HT
     go_wp2_with fail
     refine (HT'.out).mono ?_
     rintro e w2 ⟨rfl, r2, b2⟩
     have z2 := b2.size
     have hV2 := (b2.row hz (show w.heap.size ≠ S by omega)).trans hV
     clear HT'
     go_wp2_with fail
     go_roundw
     case rel =>
      refine ⟨k + 1, by omega, rfl, hV2, ?_, by omega, hbel.trans (b2.mono (by omega))⟩
      rw [upTo, HL.out]
      exact r2
     case measure => simp [intOf]; omega
    ·
     obtain rfl : k = 4 := by omega
     rw [show ((4 : Nat) : Int) = 4 from rfl]
     go_wp2_with fail
     go_end0
     refine ⟨rfl, ?_, hbel⟩
     rw [hS, dblL, HF.out, HL.out]
end
section
open Go.RowKit
def wordI (l : List UInt8) : Int :=
 bits .or .u32 (bits .or .u32 (bits .or .u32 (IntKind.u32.wrap ((l.getD 0 0).toNat : Int)) (IntKind.u32.wrap (IntKind.u32.wrap ((l.getD 1 0).toNat : Int) * 256))) (IntKind.u32.wrap (IntKind.u32.wrap ((l.getD 2 0).toNat : Int) * 65536))) (IntKind.u32.wrap (IntKind.u32.wrap ((l.getD 3 0).toNat : Int) * 16777216))
theorem getD_elem {α : Type} (l : List α) (i : Nat) (d : α) (h : i < l.length) : l.getD i d = l[i] := by simp [List.getD_eq_getElem?_getD, h]
theorem word_any (l : List UInt8) (w : World) (hl : 4 ≤ l.length) :
  Calls Tryz.prog 270 #[.string ⟨l.toArray⟩] w fun e w' => e = .returned (.int .u32 (wordI l)) ∧ Below w.heap.size w w' := by
 have h0 : 0 < l.length := by omega
 have h1 : 1 < l.length := by omega
 have h2 : 2 < l.length := by omega
 have h3 : 3 < l.length := by omega
 have hw : wordI l = bits .or .u32 (bits .or .u32 (bits .or .u32 (IntKind.u32.wrap (l[0].toNat : Int)) (IntKind.u32.wrap (IntKind.u32.wrap (l[1].toNat : Int) * 256))) (IntKind.u32.wrap (IntKind.u32.wrap (l[2].toNat : Int) * 65536))) (IntKind.u32.wrap (IntKind.u32.wrap (l[3].toNat : Int) * 16777216)) := by
  rw [wordI, getD_elem _ _ _ h0, getD_elem _ _ _ h1, getD_elem _ _ _ h2, getD_elem _ _ _ h3]
 rw [hw]
 clear hw
 have g0 : (0 : Int) < l.length := by omega
 have g1 : (1 : Int) < l.length := by omega
 have g2 : (2 : Int) < l.length := by omega
 have g3 : (3 : Int) < l.length := by omega
 go_enter Tryz.func270, Tryz.ntmps270
 go_wp2_with fail
 refine wp_region_beginR [] rfl trivial (fun hS => ?_)
 refine qp 0 hS ?_
 refine qp 1 hS ?_
 refine qp 2 hS ?_
 refine qp 3 hS ?_
 refine qp 4 hS ?_
 refine qp 5 hS ?_
 refine qp 6 hS ?_
 refine qp 7 hS ?_
 refine qp 8 hS ?_
 refine qp 9 hS ?_
 refine qp 10 hS ?_
 refine qp 11 hS ?_
 refine qp 12 hS ?_
 refine qp 13 hS ?_
 refine qp 14 hS ?_
 refine qp 15 hS ?_
 refine qp 16 hS ?_
 refine qp 17 hS ?_
 refine qp 18 hS ?_
 refine wpAnyR_done kr_ (fun wN hN => ?_) _
 replace hN : Below (w).heap.size (w) wN := below_step (Below.drew (Below.refl _ _)) hN
 go_wp2_with fail
 go_ret
 exact ⟨rfl, hN⟩
def beginL : List UInt8 := [101, 120, 112, 97, 110, 100, 32, 51, 50, 45, 98, 121, 116, 101, 32, 107]
def firstT (k nonce : List UInt8) : List UInt8 := beginL ++ (k ++ ([48, 48, 48, 48] ++ nonce))
def firstF (t : List UInt8) (i : Nat) (l : List Int) : List Int := l.set i (wordI (t.drop (4 * i)))
def firstL (k : List UInt8) (count : Int) (nonce : List UInt8) : List Int := (upTo (firstF (firstT k nonce)) 16 (List.replicate 16 0)).set 12 count
theorem firstF_length (t : List UInt8) (i : Nat) (l : List Int) : (firstF t i l).length = l.length := by simp [firstF]
theorem firstL_length (k : List UInt8) (count : Int) (nonce : List UInt8) : (firstL k count nonce).length = 16 := by simp [firstL, upTo_len (firstF_length _)]
theorem u32s_zeros (n : Nat) : u32s (List.replicate n 0) = zeros n (.int .u32 0) := by simp [u32s, zeros]
attribute [local irreducible] wordI upTo
theorem first_any (k : List UInt8) (count : Int) (nonce : List UInt8) (w : World) (hk : k.length = 32) (hn : nonce.length = 12) :
  Calls Tryz.prog 246 #[.agg (u8s k).toArray, .int .u32 count, .string ⟨nonce.toArray⟩] w fun e w' => e = .returned (.agg (u32s (firstL k count nonce)).toArray) ∧ Below w.heap.size w w' := by
 obtain ⟨t, ht⟩ : ∃ t, firstT k nonce = t := ⟨_, rfl⟩
 have htl : t.length = 64 := by rw [← ht]; simp [firstT, beginL, hk, hn]
 have HT := h_ ht
 go_enter Tryz.func246, Tryz.ntmps246
 go_wp2_with fail
 rw [show (101 :: 120 :: 112 :: 97 :: 110 :: 100 :: 32 :: 51 :: 50 :: 45 :: 98 :: 121 :: 116 :: 101 :: 32 :: 107 :: (k ++ 48 :: 48 :: 48 :: 48 :: nonce) : List UInt8) = t from HT.out]
 go_loopw [16] (fun i wr => ∃ m : Nat, m ≤ 16 ∧ i = .int .i64 m ∧ row wr (w.heap.size + 1 + 1) = (u32s (upTo (firstF t) m (List.replicate 16 0))).toArray ∧ row wr (w.heap.size + 1) = (zeros 16 (.int .u32 0)).toArray ∧ w.heap.size + 1 + 1 < wr.heap.size ∧ Below w.heap.size w wr) (fun i _ => 16 - (intOf i).toNat)
 case atStart =>
  refine ⟨0, by omega, rfl, ?_, by simp [go_sem], by simp, blw_⟩
  rw [upTo, u32s_zeros]
  simp [go_sem]
 case round =>
  obtain ⟨m, hm, rfl, hV, hR, hz, hbel⟩ := hrel
  obtain ⟨L, hL⟩ : ∃ L, upTo (firstF t) m (List.replicate 16 0) = L := ⟨_, rfl⟩
  have hLl : L.length = 16 := by rw [← hL, upTo_len (firstF_length _)]; simp
  rw [hL] at hV
  have HL := h_ hL
  clear hL
  by_cases hlt : m < 16
  ·
   have h1 : (m : Int) < 16 := by omega
   have h2 : (4 : Int) * m ≤ t.length := by omega
   have h3 : m < L.length := by omega
   have hwd := h_ (fun w => word_any (t.drop (4 * m)) w (by simp; omega))
   obtain ⟨x, hx⟩ : ∃ x, wordI (t.drop (4 * m)) = x := ⟨_, rfl⟩
   rw [hx] at hwd
   have HX := h_ hx
   clear hx
   go_wp2_with fail
   refine (hwd.out _).mono ?_
   rintro e w2 ⟨rfl, b2⟩
   have z2 := b2.size
   have hV2 := (row_below b2 (by omega)).trans hV
   have hR2 := (row_below b2 (by omega)).trans hR
   go_wp2_with fail
   go_roundw
   case rel =>
    have e : upTo (firstF t) (m + 1) (List.replicate 16 0) = L.set m x := by rw [upTo, HL.out, firstF, HX.out]
    refine ⟨m + 1, by omega, rfl, ?_, by (try show row (World.setRow _ _ _) _ = _); rw [row_setRow_other _ _ _ (by omega)]; exact hR2, by simp; omega, Below.setRow (Below.trans hbel (b2.mono (by omega))) (by omega) _⟩
    rw [e]
    exact row_setRow_same (by rw [hV2]; simp; omega) (by rw [hV2]; simp)
   case measure => simp [intOf]; omega
  ·
   obtain rfl : m = 16 := by omega
   rw [show ((16 : Nat) : Int) = 16 from rfl]
   have h12 : 12 < L.length := by omega
   have e12 := row_setRow_same (w := wr) (g := w.heap.size + 1 + 1) (c := (u32s (L.set 12 count)).toArray) (by rw [hV]; simp; omega) (by rw [hV]; simp)
   have hR3 : row (wr.setRow (w.heap.size + 1 + 1) (u32s (L.set 12 count)).toArray) (w.heap.size + 1) = (zeros 16 (.int .u32 0)).toArray := by (try show row (World.setRow _ _ _) _ = _); rw [row_setRow_other _ _ _ (by omega)]; exact hR
   have hl12 : (L.set 12 count).length = 16 := by simpa using hLl
   go_wp2_with fail
   have e : L.set 12 count = firstL k count nonce := by rw [firstL, HT.out, HL.out]
   rw [e] at e12 hl12 hR3 ⊢
   have hfin := row_setRow_same (w := wr.setRow (w.heap.size + 1 + 1) (u32s (firstL k count nonce)).toArray) (g := w.heap.size + 1) (c := (u32s (firstL k count nonce)).toArray) (by rw [hR3]; simp) (by rw [hR3]; simp [hl12])
   (try simp only [Exit.inBlock, Exit.then])
   refine bodyPost_ret (results_1 rfl (resOk_row rfl ?_)) rfl ?_
   ·
    rw [hfin]
    simp [hl12]
   refine ⟨by rw [hfin], ?_⟩
   exact Below.setRow (Below.setRow hbel (by omega) _) (by omega) _
def outF (l : List Int) (i : Nat) (b : List UInt8) : List UInt8 := b.set i (byteI (l.getD (i / 4) 0 / 2 ^ (8 * (i % 4))))
def outL (l : List Int) : List UInt8 := upTo (outF l) 64 (List.replicate 64 0)
theorem outF_length (l : List Int) (i : Nat) (b : List UInt8) : (outF l i b).length = b.length := by simp [outF]
theorem outL_length (l : List Int) : (outL l).length = 64 := by rw [outL, upTo_len8 (outF_length l)]; simp
theorem u8s_zeros (n : Nat) : u8s (List.replicate n 0) = zeros n (.int .u8 0) := by simp [u8s, zeros]
theorem bytes_any (l : List Int) (S : Nat) (w : World) (hl : l.length = 16) (hS0 : row w S = (u32s l).toArray) :
  Calls Tryz.prog 248 #[.pointer (some ⟨S, 0, none⟩)] w fun e w' => e = .returned (.agg (u8s (outL l)).toArray) ∧ Below w.heap.size w w' := by
 have zS : S < w.heap.size := lt_of_row (i := 0) (by rw [hS0]; simp; omega)
 go_enter Tryz.func248, Tryz.ntmps248
 go_wp2_with fail
 go_loopw [5] (fun i wr => ∃ m : Nat, m ≤ 64 ∧ i = .int .i64 m ∧ row wr (w.heap.size + 1) = (u8s (upTo (outF l) m (List.replicate 64 0))).toArray ∧ row wr w.heap.size = (zeros 64 (.int .u8 0)).toArray ∧ row wr S = (u32s l).toArray ∧ w.heap.size + 1 < wr.heap.size ∧ Below w.heap.size w wr) (fun i _ => 64 - (intOf i).toNat)
 case atStart =>
  refine ⟨0, by omega, rfl, ?_, by simp [go_sem], by simp [go_sem, zS, hS0], by simp, blw_⟩
  rw [upTo, u8s_zeros]
  simp [go_sem]
 case round =>
  obtain ⟨m, hm, rfl, hV, hR, hS, hz, hbel⟩ := hrel
  obtain ⟨L, hL⟩ : ∃ L, upTo (outF l) m (List.replicate 64 0) = L := ⟨_, rfl⟩
  have hLl : L.length = 64 := by rw [← hL, upTo_len8 (outF_length _)]; simp
  rw [hL] at hV
  have HL := h_ hL
  clear hL
  by_cases hlt : m < 64
  ·
   have h1 : (m : Int) < 64 := by omega
   have h3 : m < L.length := by omega
   obtain ⟨q, hq⟩ : ∃ q, m / 4 = q := ⟨_, rfl⟩
   obtain ⟨r, hr⟩ : ∃ r, m % 4 = r := ⟨_, rfl⟩
   have e1 : (m : Int) / 4 = (q : Int) := by omega
   have e2 : (m : Int) % 4 = (r : Int) := by omega
   obtain ⟨p, hp⟩ : ∃ p, 8 * r = p := ⟨_, rfl⟩
   have e3 : (8 : Int) * (r : Int) = (p : Int) := by omega
   have h11 : p < 32 := by omega
   have HP := h_ hp
   clear hp
   have h8 : q < l.length := by omega
   have h9 : (q : Int) < 16 := by omega
   have h9' : q < 16 := by omega
   have h10 : r < 4 := by omega
   have HQ := h_ hq
   have HR := h_ hr
   clear hq hr
   go_wp2_with fail
   go_roundw
   case rel =>
    have e : u8s (upTo (outF l) (m + 1) (List.replicate 64 0)) = (u8s L).set m (.int .u8 (l[q] / 2 ^ p % 256)) := by
     rw [upTo, HL.out, u8s_set]
     unfold outF
     rw [HQ.out, HR.out, HP.out, getD_elem _ _ _ h8]
    refine ⟨m + 1, by omega, rfl, ?_, by (try show row (World.setRow _ _ _) _ = _); rw [row_setRow_other _ _ _ (by omega)]; exact hR, by (try show row (World.setRow _ _ _) _ = _); rw [row_setRow_other _ _ _ (by omega)]; exact hS, by simp; omega, Below.setRow hbel (by omega) _⟩
    rw [e]
    exact row_setRow_same (by rw [hV]; simp; omega) (by rw [hV]; simp)
   case measure => simp [intOf]; omega
  ·
   obtain rfl : m = 64 := by omega
   rw [show ((64 : Nat) : Int) = 64 from rfl]
   have e : L = outL l := HL.out.symm
   rw [e] at hLl hV
   go_wp2_with fail
   have hfin := row_setRow_same (w := wr) (g := w.heap.size) (c := (u8s (outL l)).toArray) (by rw [hR]; simp) (by rw [hR]; simp [hLl])
   (try simp only [Exit.inBlock, Exit.then])
   refine bodyPost_ret (results_1 rfl (resOk_row rfl ?_)) rfl ?_
   ·
    rw [hfin]
    simp [hLl]
   refine ⟨by rw [hfin], ?_⟩
   exact Below.setRow hbel (by omega) _
end
section
open Go.RowKit
def twentyF (_ : Nat) (l : List Int) : List Int := dblL l
def addF (v : List Int) (i : Nat) (l : List Int) : List Int := l.set i ((l.getD i 0 + v.getD i 0) % 4294967296)
def streamW (v : List Int) : List Int := upTo (addF v) 16 (upTo twentyF 10 v)
def streamL (k : List UInt8) (count : Int) (nonce : List UInt8) : List UInt8 := outL (streamW (firstL k count nonce))
theorem twentyF_length (i : Nat) (l : List Int) : (twentyF i l).length = l.length := dblL_length l
theorem addF_length (v : List Int) (i : Nat) (l : List Int) : (addF v i l).length = l.length := by simp [addF]
theorem streamL_length (k : List UInt8) (count : Int) (nonce : List UInt8) : (streamL k count nonce).length = 64 := outL_length _
attribute [local irreducible] firstL dblL outL upTo
theorem stream_any (k : List UInt8) (count : Int) (nonce : List UInt8) (w : World) (hk : k.length = 32) (hn : nonce.length = 12) :
  Calls Tryz.prog 214 #[.agg (u8s k).toArray, .int .u32 count, .string ⟨nonce.toArray⟩] w fun e w' => e = .returned (.agg (u8s (streamL k count nonce)).toArray) ∧ Below w.heap.size w w' := by
 have HF := h_ (fun w => first_any k count nonce w hk hn)
 have hfl := firstL_length k count nonce
 obtain ⟨f, hf⟩ : ∃ f, firstL k count nonce = f := ⟨_, rfl⟩
 have hst : streamL k count nonce = outL (streamW f) := by rw [streamL, hf]
 rw [hst]
 rw [hf] at HF hfl
 clear hf hst
 have hol := outL_length (streamW f)
 go_enter Tryz.func214, Tryz.ntmps214
 go_wp2_with fail
 refine (HF.out _).mono ?_
 rintro e w1 ⟨rfl, b1⟩
 have hR : row w1 (w.heap.size + 1) = (zeros 64 (.int .u8 0)).toArray := by rw [row_below b1 (by simp)]; simp [go_sem]
 have z1 := (b1).size
 try simp at z1
 replace b1 := below_of b1 (show Below (w).heap.size w _ from by (repeat (first | exact Below.refl _ _ | refine Below.al ?_ _ | refine Below.drew ?_ | refine Below.sr ?_ _ | refine Below.sc ?_ _))) (by first | (simp; done) | (simp; omega) | omega)
 clear HF
 go_wp2_with fail
 go_loopw [15] (fun i wr => ∃ m : Nat, m ≤ 10 ∧ i = .int .i64 m ∧ row wr (w1.heap.size + 1) = (u32s (upTo twentyF m f)).toArray ∧ row wr w1.heap.size = (u32s f).toArray ∧ row wr (w.heap.size + 1) = (zeros 64 (.int .u8 0)).toArray ∧ w1.heap.size + 1 < wr.heap.size ∧ Below w.heap.size w wr) (fun i _ => 10 - (intOf i).toNat)
 case atStart =>
  have q1 : w.heap.size + 1 < w1.heap.size := by omega
  refine ⟨0, by omega, rfl, ?_, ?_, ?_, by simp, ?_⟩
  ·
   rw [upTo]
   exact row_alloc_at _ _ _ (by simp)
  ·
   rw [row_alloc_past _ _ (by simp)]
   exact row_alloc_at _ _ _ rfl
  ·
   rw [row_alloc_past _ _ (by simp; omega), row_alloc_past _ _ (by omega)]
   exact hR
  ·
   exact Below.alloc (Below.alloc b1 (by omega) _) (by simp; omega) _
 case round =>
  clear hR b1
  obtain ⟨m, hm, rfl, hW, hV, hR, hz, hbel⟩ := hrel
  obtain ⟨L, hL⟩ : ∃ L, upTo twentyF m f = L := ⟨_, rfl⟩
  have hLl : L.length = 16 := by rw [← hL, upTo_len twentyF_length, hfl]
  rw [hL] at hW
  have HL := h_ hL
  clear hL
  by_cases hlt : m < 10
  ·
   have h1 : (m : Int) < 10 := by omega
   go_wp2_with fail
   refine (double_any L _ _ hLl hW).mono ?_
   rintro e w2 ⟨rfl, r2, b2⟩
   have z2 := b2.size
   have hV2 := (b2.row (by omega) (by omega)).trans hV
   have hR2 := (b2.row (by omega) (by omega)).trans hR
   go_wp2_with fail
   go_roundw
   case rel =>
    refine ⟨m + 1, by omega, rfl, ?_, hV2, hR2, by omega, Below.trans hbel ((b2.mono (by omega)).below (by omega))⟩
    rw [upTo, HL.out]
    exact r2
   case measure => simp [intOf]; omega
  ·
   obtain rfl : m = 10 := by omega
   rw [show ((10 : Nat) : Int) = 10 from rfl]
   have H10 := HL
   have h10 := hLl
   clear HL hLl hlt hm
   go_wp2_with fail
   go_loopw [19] (fun i wq => ∃ m : Nat, m ≤ 16 ∧ i = .int .i64 m ∧ row wq (w1.heap.size + 1) = (u32s (upTo (addF f) m L)).toArray ∧ row wq w1.heap.size = (u32s f).toArray ∧ row wq (w.heap.size + 1) = (zeros 64 (.int .u8 0)).toArray ∧ w1.heap.size + 1 < wq.heap.size ∧ Below w.heap.size w wq) (fun i _ => 16 - (intOf i).toNat)
   case atStart =>
    refine ⟨0, by omega, rfl, ?_, hV, hR, hz, hbel⟩
    rw [upTo]; exact hW
   case round =>
    clear hR hW hV hz hbel
    obtain ⟨m, hm, rfl, hW, hV, hR, hz, hbel⟩ := hrel
    obtain ⟨M, hM⟩ : ∃ M, upTo (addF f) m L = M := ⟨_, rfl⟩
    have hMl : M.length = 16 := by rw [← hM, upTo_len (addF_length f), h10]
    rw [hM] at hW
    have HM := h_ hM
    clear hM
    by_cases hlt : m < 16
    ·
     have h1 : (m : Int) < 16 := by omega
     have k1 : m < M.length := by omega
     have k2 : m < f.length := by omega
     go_wp2_with fail
     go_region
     go_wp2_with fail
     go_roundw
     case rel =>
      have e : upTo (addF f) (m + 1) L = M.set m ((M[m] + f[m]) % 4294967296) := by
       rw [upTo, HM.out, addF, getD_elem _ _ _ k1, getD_elem _ _ _ k2]
      refine ⟨m + 1, by omega, rfl, ?_, by (try show row (World.setRow _ _ _) _ = _); rw [row_setRow_other _ _ _ (by omega)]; exact hV, by (try show row (World.setRow _ _ _) _ = _); rw [row_setRow_other _ _ _ (by omega)]; exact hR, by simp; omega, Below.drew (Below.setRow hbel (by omega) _)⟩
      rw [e]
      exact row_setRow_same (by rw [hW]; simp; omega) (by rw [hW]; simp)
     case measure => simp [intOf]; omega
    ·
     obtain rfl : m = 16 := by omega
     rw [show ((16 : Nat) : Int) = 16 from rfl]
     have e : M = streamW f := by rw [streamW, H10.out]; exact HM.out.symm
     have hMl' := hMl
     rw [e] at hW hMl'
     go_wp2_with fail
     refine (bytes_any (streamW f) _ _ hMl' hW).mono ?_
     rintro e w3 ⟨rfl, b3⟩
     have z3 := b3.size
     have hR3 := (row_below b3 (by omega)).trans hR
     go_wp2_with fail
     have hfin := row_setRow_same (w := w3) (g := w.heap.size + 1) (c := (u8s (outL (streamW f))).toArray) (by rw [hR3]; simp) (by rw [hR3]; simp [hol])
     (try simp only [Exit.inBlock, Exit.then])
     refine bodyPost_ret (results_1 rfl (resOk_row rfl ?_)) rfl ?_
     ·
      rw [hfin]
      simp [hol]
     refine ⟨by rw [hfin], ?_⟩
     exact Below.setRow (Below.trans hbel (b3.mono (by omega))) (by omega) _
theorem block_any (k : List UInt8) (count : Int) (nonce : List UInt8) (w : World) (hk : k.length = 32) (hn : nonce.length = 12) :
  Calls Tryz.prog 211 #[.agg (u8s k).toArray, .int .u32 count, .string ⟨nonce.toArray⟩] w fun e w' => e = .returned (.tuple #[.string ⟨(streamL k count nonce).toArray⟩, .int .i64 0]) ∧ Below w.heap.size w w' := by
 have HS := h_ (fun w => stream_any k count nonce w hk hn)
 obtain ⟨t, ht⟩ : ∃ t, streamL k count nonce = t := ⟨_, rfl⟩
 have hl : t.length = 64 := by rw [← ht]; exact streamL_length _ _ _
 rw [ht] at HS ⊢
 clear ht
 have h : ((nonce.length : Int) != 12) = false := by simp; omega
 go_enter Tryz.func211, Tryz.ntmps211
 go_wp2_with fail
 refine (HS.out _).mono ?_
 rintro e w1 ⟨rfl, b1⟩
 replace b1 := below_of b1 (show Below (w).heap.size w _ from by (repeat (first | exact Below.refl _ _ | refine Below.al ?_ _ | refine Below.drew ?_ | refine Below.sr ?_ _ | refine Below.sc ?_ _))) (by first | (simp; done) | (simp; omega) | omega)
 clear h
 go_wp2_with fail
 go_ret2
 exact ⟨rfl, Below.alloc b1 (by have := b1.size; omega) _⟩
end
end Go.Proofs.YtcebllbikmgjpaaGreat
