/- Contracts of package curve: a step of the ladder. -/
import Derived.Test.YtohhiibgjcbpiaaCurM
import Derived.Test.YtohhiibgjcbpiaaReg
set_option linter.unusedSimpArgs false
set_option linter.unusedVariables false
namespace Go.Proofs.Ytohhiibgjcbpiaa
open Go.RowKit
theorem plusL_length (xs ys : List Int) : (plusL xs ys).length = xs.length := upTo_length (plusF_length ys) _ _
theorem lessL_length (xs ys : List Int) : (lessL xs ys).length = xs.length := upTo_length (lessF_length ys) _ _
def c24 : List Int := [56129, 1, 0, 0, 0, 0, 0, 0, 0, 0, 0, 0, 0, 0, 0, 0]
def stepX (ax az : List Int) : List Int := timesL (timesL (plusL ax az) (plusL ax az)) (timesL (lessL ax az) (lessL ax az))
def stepI (ax az : List Int) : List Int := lessL (timesL (plusL ax az) (plusL ax az)) (timesL (lessL ax az) (lessL ax az))
def stepZ (ax az : List Int) : List Int := timesL (stepI ax az) (plusL (timesL (plusL ax az) (plusL ax az)) (timesL c24 (stepI ax az)))
def stepJ (ax az bx bz : List Int) : List Int := timesL (lessL bx bz) (plusL ax az)
def stepK (ax az bx bz : List Int) : List Int := timesL (plusL bx bz) (lessL ax az)
def stepU (ax az bx bz : List Int) : List Int := timesL (plusL (stepJ ax az bx bz) (stepK ax az bx bz)) (plusL (stepJ ax az bx bz) (stepK ax az bx bz))
def stepV (ax az bx bz u : List Int) : List Int := timesL u (timesL (lessL (stepJ ax az bx bz) (stepK ax az bx bz)) (lessL (stepJ ax az bx bz) (stepK ax az bx bz)))
theorem c24_cells : (Value.int .i64 56129 :: Value.int .i64 1 :: zeros 14 (Value.int .i64 0)) = i64s c24 := rfl
attribute [local irreducible] plusL lessL timesL upTo
set_option maxRecDepth 20000 in
set_option maxHeartbeats 4000000 in
theorem step_any (ax az bx bz u : List Int) (w : World) (hax : ax.length = 16) (haz : az.length = 16) (hbx : bx.length = 16) (hbz : bz.length = 16) (hu : u.length = 16) :
    Calls Try.prog 22 #[.agg (i64s ax ++ i64s az).toArray, .agg (i64s bx ++ i64s bz).toArray, .agg (i64s u).toArray] w fun e w' =>
      e = .returned (.tuple #[.agg (i64s (stepX ax az) ++ i64s (stepZ ax az)).toArray, .agg (i64s (stepU ax az bx bz) ++ i64s (stepV ax az bx bz u)).toArray]) ∧ Below w.heap.size w w' := by
  obtain ⟨e, he⟩ : ∃ l, plusL ax az = l := ⟨_, rfl⟩
  obtain ⟨g, hg⟩ : ∃ l, lessL ax az = l := ⟨_, rfl⟩
  have hel : e.length = 16 := by rw [← he, plusL_length, hax]
  have hgl : g.length = 16 := by rw [← hg, lessL_length, hax]
  obtain ⟨f, hf⟩ : ∃ l, timesL e e = l := ⟨_, rfl⟩
  obtain ⟨h, hh⟩ : ∃ l, timesL g g = l := ⟨_, rfl⟩
  have hfl : f.length = 16 := by rw [← hf, timesL_length]
  have hhl : h.length = 16 := by rw [← hh, timesL_length]
  obtain ⟨i, hi⟩ : ∃ l, lessL f h = l := ⟨_, rfl⟩
  have hil : i.length = 16 := by rw [← hi, lessL_length, hfl]
  obtain ⟨bm, hbm⟩ : ∃ l, lessL bx bz = l := ⟨_, rfl⟩
  obtain ⟨bp, hbp⟩ : ∃ l, plusL bx bz = l := ⟨_, rfl⟩
  have hbml : bm.length = 16 := by rw [← hbm, lessL_length, hbx]
  have hbpl : bp.length = 16 := by rw [← hbp, plusL_length, hbx]
  obtain ⟨j, hj'⟩ : ∃ l, timesL bm e = l := ⟨_, rfl⟩
  obtain ⟨k, hk⟩ : ∃ l, timesL bp g = l := ⟨_, rfl⟩
  have hjl : j.length = 16 := by rw [← hj', timesL_length]
  have hkl : k.length = 16 := by rw [← hk, timesL_length]
  obtain ⟨s, hs⟩ : ∃ l, plusL j k = l := ⟨_, rfl⟩
  obtain ⟨d, hd⟩ : ∃ l, lessL j k = l := ⟨_, rfl⟩
  have hsl : s.length = 16 := by rw [← hs, plusL_length, hjl]
  have hdl : d.length = 16 := by rw [← hd, lessL_length, hjl]
  have H1 := Lib.hid (fun w => plus_any ax az w hax haz)
  have H2 := Lib.hid (fun w => less_any ax az w hax haz)
  have H3 := Lib.hid (fun w => times_any e e w hel hel)
  have H4 := Lib.hid (fun w => times_any g g w hgl hgl)
  have H5 := Lib.hid (fun w => less_any f h w hfl hhl)
  have H6 := Lib.hid (fun w => less_any bx bz w hbx hbz)
  have H7 := Lib.hid (fun w => times_any bm e w hbml hel)
  have H8 := Lib.hid (fun w => plus_any bx bz w hbx hbz)
  have H9 := Lib.hid (fun w => times_any bp g w hbpl hgl)
  have H10 := Lib.hid (fun w => plus_any j k w hjl hkl)
  have H11 := Lib.hid (fun w => less_any j k w hjl hkl)
  rw [he] at H1
  rw [hg] at H2
  rw [hf] at H3
  rw [hh] at H4
  rw [hi] at H5
  rw [hbm] at H6
  rw [hj'] at H7
  rw [hbp] at H8
  rw [hk] at H9
  rw [hs] at H10
  rw [hd] at H11
  have eX : stepX ax az = timesL f h := by rw [stepX, he, hg, hf, hh]
  have eI : stepI ax az = i := by rw [stepI, he, hg, hf, hh, hi]
  have eZ : stepZ ax az = timesL i (plusL f (timesL c24 i)) := by rw [stepZ, eI, he, hf]
  have eJ : stepJ ax az bx bz = j := by rw [stepJ, hbm, he, hj']
  have eK : stepK ax az bx bz = k := by rw [stepK, hbp, hg, hk]
  have eU : stepU ax az bx bz = timesL s s := by rw [stepU, eJ, eK, hs]
  have eV : stepV ax az bx bz u = timesL u (timesL d d) := by rw [stepV, eJ, eK, hd]
  rw [eX, eZ, eU, eV]
  clear he hg hf hh hi hbm hbp hj' hk hs hd eX eI eZ eJ eK eU eV
  go_enter Try.func22, Try.ntmps22
  go_wp2_with fail
  obtain ⟨w1, hw1⟩ : ∃ U, (((((w.alloc (.cells (i64s ax ++ i64s az).toArray 41)).alloc (.cells (i64s bx ++ i64s bz).toArray 41)).alloc (.cells (i64s u).toArray 38)).alloc (.cells (zeros 32 (Value.int .i64 0)).toArray 41)).alloc (.cells (zeros 32 (Value.int .i64 0)).toArray 41)) = U := ⟨_, rfl⟩
  have rA : row w1 w.heap.size = (i64s ax ++ i64s az).toArray := by rw [← hw1]; simp [go_sem]
  have rB : row w1 (w.heap.size + 1) = (i64s bx ++ i64s bz).toArray := by rw [← hw1]; simp [go_sem]
  have rU : row w1 (w.heap.size + 1 + 1) = (i64s u).toArray := by rw [← hw1]; simp [go_sem]
  have rP : row w1 (w.heap.size + 1 + 1 + 1) = (zeros 32 (Value.int .i64 0)).toArray := by rw [← hw1]; simp [go_sem]
  have rQ : row w1 (w.heap.size + 1 + 1 + 1 + 1) = (zeros 32 (Value.int .i64 0)).toArray := by rw [← hw1]; simp [go_sem]
  have z1 : w1.heap.size = w.heap.size + 1 + 1 + 1 + 1 + 1 := by rw [← hw1]; simp
  have hb1 : Below w.heap.size w w1 := by rw [← hw1]; (repeat (first | exact Below.refl _ _ | refine Below.alloc ?_ (by first | (simp; done) | (simp; omega) | omega) _ | refine Below.drew ?_ | refine Below.setRow ?_ (by first | (simp; done) | (simp; omega) | omega) _ | refine Below.setCell ?_ (by first | (simp; done) | (simp; omega) | omega) _))
  rw [hw1]
  clear hw1
  replace z1 : w.heap.size + 1 + 1 + 1 + 1 < w1.heap.size := by omega
  refine wp_region_beginR [(w.heap.size, (i64s ax ++ i64s az).toArray)] rfl (by simp only [Rws]; (repeat (first | exact trivial | refine ⟨(by first | assumption | (simp [go_sem, *]; done)), (by first | omega | (simp; done) | (simp; omega)), ?_⟩))) (fun hS => ?_)
  refine wpAnyR_take (i := 0) (v := ?_) (by simp only [List.getElem?_toArray, List.getElem?_cons_succ, List.getElem?_cons_zero]; rfl) (by kernel_rfl) (by kernel_rfl) (by kernel_rfl) (by first | exact fun _ _ _ h => h | exact fun _ _ _ h => by cases h.1) (Rws.grow _) (Or.inl ⟨by rfl, ?_⟩) hS ?_
  rotate_left
  · intro w' hS'
    simp only [Rws] at hS'
    go_simp
    refine ⟨?_, Below.refl _ _⟩
    rfl
  (try simp only [Act.put, List.setIfInBounds_toArray, List.set_cons_zero, List.set_cons_succ])
  refine wpAnyR_take (i := 1) (v := ?_) (by simp only [List.getElem?_toArray, List.getElem?_cons_succ, List.getElem?_cons_zero]; rfl) (by kernel_rfl) (by kernel_rfl) (by kernel_rfl) (by first | exact fun _ _ _ h => h | exact fun _ _ _ h => by cases h.1) (Rws.grow _) (Or.inl ⟨by rfl, ?_⟩) hS ?_
  rotate_left
  · intro w' hS'
    simp only [Rws] at hS'
    go_simp
    refine ⟨?_, Below.refl _ _⟩
    rfl
  (try simp only [Act.put, List.setIfInBounds_toArray, List.set_cons_zero, List.set_cons_succ])
  refine wpAnyR_take (i := 2) (v := ?_) (by simp only [List.getElem?_toArray, List.getElem?_cons_succ, List.getElem?_cons_zero]; rfl) (by kernel_rfl) (by kernel_rfl) (by kernel_rfl) (by first | exact fun _ _ _ h => h | exact fun _ _ _ h => by cases h.1) (Rws.grow _) (Or.inl ⟨by rfl, ?_⟩) hS ?_
  rotate_left
  · intro w' hS'
    simp only [Rws] at hS'
    go_simp
    refine ⟨?_, Below.refl _ _⟩
    rfl
  (try simp only [Act.put, List.setIfInBounds_toArray, List.set_cons_zero, List.set_cons_succ])
  refine wpAnyR_take (i := 3) (v := ?_) (by simp only [List.getElem?_toArray, List.getElem?_cons_succ, List.getElem?_cons_zero]; rfl) (by kernel_rfl) (by kernel_rfl) (by kernel_rfl) (by first | exact fun _ _ _ h => h | exact fun _ _ _ h => by cases h.1) (Rws.grow _) (Or.inl ⟨by rfl, ?_⟩) hS ?_
  rotate_left
  · intro w' hS'
    simp only [Rws] at hS'
    go_simp
    refine ⟨?_, Below.refl _ _⟩
    rfl
  (try simp only [Act.put, List.setIfInBounds_toArray, List.set_cons_zero, List.set_cons_succ])
  refine wpAnyR_take (i := 5) (v := ?_) (by simp only [List.getElem?_toArray, List.getElem?_cons_succ, List.getElem?_cons_zero]; rfl) (by kernel_rfl) (by kernel_rfl) (by kernel_rfl) (by first | exact fun _ _ _ h => h | exact fun _ _ _ h => by cases h.1) (Rws.grow _) (Or.inl ⟨by rfl, ?_⟩) hS ?_
  rotate_left
  · intro w' hS'
    simp only [Rws] at hS'
    go_simp
    refine ⟨?_, Below.refl _ _⟩
    rfl
  (try simp only [Act.put, List.setIfInBounds_toArray, List.set_cons_zero, List.set_cons_succ])
  refine wpAnyR_take (i := 6) (v := ?_) (by simp only [List.getElem?_toArray, List.getElem?_cons_succ, List.getElem?_cons_zero]; rfl) (by kernel_rfl) (by kernel_rfl) (by kernel_rfl) (by first | exact fun _ _ _ h => h | exact fun _ _ _ h => by cases h.1) (Rws.grow _) (Or.inl ⟨by rfl, ?_⟩) hS ?_
  rotate_left
  · intro w' hS'
    simp only [Rws] at hS'
    go_simp
    refine ⟨?_, Below.refl _ _⟩
    rfl
  (try simp only [Act.put, List.setIfInBounds_toArray, List.set_cons_zero, List.set_cons_succ])
  refine wpAnyR_take (i := 7) (v := ?_) (by simp only [List.getElem?_toArray, List.getElem?_cons_succ, List.getElem?_cons_zero]; rfl) (by kernel_rfl) (by kernel_rfl) (by kernel_rfl) (by first | exact fun _ _ _ h => h | exact fun _ _ _ h => by cases h.1) (Rws.grow _) (Or.inl ⟨by rfl, ?_⟩) hS ?_
  rotate_left
  · intro w' hS'
    simp only [Rws] at hS'
    go_simp
    refine ⟨?_, Below.refl _ _⟩
    rfl
  (try simp only [Act.put, List.setIfInBounds_toArray, List.set_cons_zero, List.set_cons_succ])
  refine wpAnyR_take (i := 8) (v := ?_) (by simp only [List.getElem?_toArray, List.getElem?_cons_succ, List.getElem?_cons_zero]; rfl) (by kernel_rfl) (by kernel_rfl) (by kernel_rfl) (by first | exact fun _ _ _ h => h | exact fun _ _ _ h => by cases h.1) (Rws.grow _) (Or.inl ⟨by rfl, ?_⟩) hS ?_
  rotate_left
  · intro w' hS'
    simp only [Rws] at hS'
    go_simp
    refine ⟨?_, Below.refl _ _⟩
    rfl
  (try simp only [Act.put, List.setIfInBounds_toArray, List.set_cons_zero, List.set_cons_succ])
  refine wpAnyR_take (i := 4) (v := ?_) (by simp only [List.getElem?_toArray, List.getElem?_cons_succ, List.getElem?_cons_zero]; rfl) (by kernel_rfl) (by kernel_rfl) (by kernel_rfl) (by first | exact fun _ _ _ h => h | exact fun _ _ _ h => by cases h.1) (Rws.grow _) (Or.inl ⟨by rfl, ?_⟩) hS ?_
  rotate_left
  · intro w' hS'
    simp only [Rws] at hS'
    go_simp
    with_reducible refine (H1.out _).mono ?_
    rintro e w'' ⟨rfl, hb⟩
    refine ⟨_, rfl, ?_, hb⟩
    rfl
  (try simp only [Act.put, List.setIfInBounds_toArray, List.set_cons_zero, List.set_cons_succ])
  refine wpAnyR_take (i := 9) (v := ?_) (by simp only [List.getElem?_toArray, List.getElem?_cons_succ, List.getElem?_cons_zero]; rfl) (by kernel_rfl) (by kernel_rfl) (by kernel_rfl) (by first | exact fun _ _ _ h => h | exact fun _ _ _ h => by cases h.1) (Rws.grow _) (Or.inl ⟨by rfl, ?_⟩) hS ?_
  rotate_left
  · intro w' hS'
    simp only [Rws] at hS'
    go_simp
    with_reducible refine (H2.out _).mono ?_
    rintro e w'' ⟨rfl, hb⟩
    refine ⟨_, rfl, ?_, hb⟩
    rfl
  (try simp only [Act.put, List.setIfInBounds_toArray, List.set_cons_zero, List.set_cons_succ])
  refine wpAnyR_pair (i := 10) (j := 11) (k := 12) (m := 13) (zi := (zeros 16 (Value.int .i64 0)).toArray) (zj := (zeros 16 (Value.int .i64 0)).toArray) (cA := (i64s e).toArray) (cB := (i64s g).toArray) (by simp only [List.getElem?_toArray, List.getElem?_cons_succ, List.getElem?_cons_zero]; rfl) (by simp only [List.getElem?_toArray, List.getElem?_cons_succ, List.getElem?_cons_zero]; rfl) (by simp only [List.getElem?_toArray, List.getElem?_cons_succ, List.getElem?_cons_zero]; rfl) (by simp only [List.getElem?_toArray, List.getElem?_cons_succ, List.getElem?_cons_zero]; rfl) ⟨rfl, rfl, fun a w => by go_simp; (refine ⟨?_, ?_⟩ <;> rfl)⟩ ⟨rfl, rfl, fun a w => by go_simp; (refine ⟨?_, ?_⟩ <;> rfl)⟩ (by decide) (by decide) (by kernel_rfl) (by kernel_rfl) (by kernel_rfl) (by kernel_rfl) (by kernel_rfl) (by kernel_rfl) rfl rfl rfl rfl (by simp [*]) (by simp [*]) (by simp) (by simp) (by simp; (try omega)) (fun A B w1 hr => by
    simp only [Act.put, List.setIfInBounds_toArray, List.set_cons_zero, List.set_cons_succ, ptr]
    go_simp
    try rfl) (fun A B w1 hr => by
    simp only [Act.put, List.setIfInBounds_toArray, List.set_cons_zero, List.set_cons_succ, ptr]
    go_simp
    try rfl) hS (fun E G w2 gE gG nE zE zG hb2 rE rG => ?_)
  (try simp only [Act.put, List.setIfInBounds_toArray, List.set_cons_zero, List.set_cons_succ])
  replace gE : (w1).heap.size ≤ E := gE
  replace gG : (w1).heap.size ≤ G := gG
  replace hb2 : Below (w1).heap.size w1 w2 := Below.trans (Below.drew (Below.refl _ _)) hb2
  have zw2 := (hb2).size
  simp only [ptr]
  clear hS
  replace rB := (row_below hb2 (by omega)).trans rB
  replace rU := (row_below hb2 (by omega)).trans rU
  replace rP := (row_below hb2 (by omega)).trans rP
  replace rQ := (row_below hb2 (by omega)).trans rQ
  clear rA H1 H2
  go_wp2_with fail
  refine wp_region_beginR [(E, (i64s e).toArray), (G, (i64s g).toArray)] rfl (by simp only [Rws]; (repeat (first | exact trivial | refine ⟨(by first | assumption | (simp [go_sem, *]; done)), (by first | omega | (simp; done) | (simp; omega)), ?_⟩))) (fun hS => ?_)
  refine wpAnyR_take (i := 0) (v := ?_) (by simp only [List.getElem?_toArray, List.getElem?_cons_succ, List.getElem?_cons_zero]; rfl) (by kernel_rfl) (by kernel_rfl) (by kernel_rfl) (by first | exact fun _ _ _ h => h | exact fun _ _ _ h => by cases h.1) (Rws.grow _) (Or.inl ⟨by rfl, ?_⟩) hS ?_
  rotate_left
  · intro w' hS'
    simp only [Rws] at hS'
    go_simp
    refine ⟨?_, Below.refl _ _⟩
    rfl
  (try simp only [Act.put, List.setIfInBounds_toArray, List.set_cons_zero, List.set_cons_succ])
  refine wpAnyR_take (i := 1) (v := ?_) (by simp only [List.getElem?_toArray, List.getElem?_cons_succ, List.getElem?_cons_zero]; rfl) (by kernel_rfl) (by kernel_rfl) (by kernel_rfl) (by first | exact fun _ _ _ h => h | exact fun _ _ _ h => by cases h.1) (Rws.grow _) (Or.inl ⟨by rfl, ?_⟩) hS ?_
  rotate_left
  · intro w' hS'
    simp only [Rws] at hS'
    go_simp
    refine ⟨?_, Below.refl _ _⟩
    rfl
  (try simp only [Act.put, List.setIfInBounds_toArray, List.set_cons_zero, List.set_cons_succ])
  refine wpAnyR_take (i := 3) (v := ?_) (by simp only [List.getElem?_toArray, List.getElem?_cons_succ, List.getElem?_cons_zero]; rfl) (by kernel_rfl) (by kernel_rfl) (by kernel_rfl) (by first | exact fun _ _ _ h => h | exact fun _ _ _ h => by cases h.1) (Rws.grow _) (Or.inl ⟨by rfl, ?_⟩) hS ?_
  rotate_left
  · intro w' hS'
    simp only [Rws] at hS'
    go_simp
    refine ⟨?_, Below.refl _ _⟩
    rfl
  (try simp only [Act.put, List.setIfInBounds_toArray, List.set_cons_zero, List.set_cons_succ])
  refine wpAnyR_take (i := 4) (v := ?_) (by simp only [List.getElem?_toArray, List.getElem?_cons_succ, List.getElem?_cons_zero]; rfl) (by kernel_rfl) (by kernel_rfl) (by kernel_rfl) (by first | exact fun _ _ _ h => h | exact fun _ _ _ h => by cases h.1) (Rws.grow _) (Or.inl ⟨by rfl, ?_⟩) hS ?_
  rotate_left
  · intro w' hS'
    simp only [Rws] at hS'
    go_simp
    refine ⟨?_, Below.refl _ _⟩
    rfl
  (try simp only [Act.put, List.setIfInBounds_toArray, List.set_cons_zero, List.set_cons_succ])
  refine wpAnyR_take (i := 2) (v := ?_) (by simp only [List.getElem?_toArray, List.getElem?_cons_succ, List.getElem?_cons_zero]; rfl) (by kernel_rfl) (by kernel_rfl) (by kernel_rfl) (by first | exact fun _ _ _ h => h | exact fun _ _ _ h => by cases h.1) (Rws.grow _) (Or.inl ⟨by rfl, ?_⟩) hS ?_
  rotate_left
  · intro w' hS'
    simp only [Rws] at hS'
    go_simp
    with_reducible refine (H3.out _).mono ?_
    rintro e w'' ⟨rfl, hb⟩
    refine ⟨_, rfl, ?_, hb⟩
    rfl
  (try simp only [Act.put, List.setIfInBounds_toArray, List.set_cons_zero, List.set_cons_succ])
  refine wpAnyR_take (i := 5) (v := ?_) (by simp only [List.getElem?_toArray, List.getElem?_cons_succ, List.getElem?_cons_zero]; rfl) (by kernel_rfl) (by kernel_rfl) (by kernel_rfl) (by first | exact fun _ _ _ h => h | exact fun _ _ _ h => by cases h.1) (Rws.grow _) (Or.inl ⟨by rfl, ?_⟩) hS ?_
  rotate_left
  · intro w' hS'
    simp only [Rws] at hS'
    go_simp
    with_reducible refine (H4.out _).mono ?_
    rintro e w'' ⟨rfl, hb⟩
    refine ⟨_, rfl, ?_, hb⟩
    rfl
  (try simp only [Act.put, List.setIfInBounds_toArray, List.set_cons_zero, List.set_cons_succ])
  refine wpAnyR_pair (i := 6) (j := 7) (k := 8) (m := 9) (zi := (zeros 16 (Value.int .i64 0)).toArray) (zj := (zeros 16 (Value.int .i64 0)).toArray) (cA := (i64s f).toArray) (cB := (i64s h).toArray) (by simp only [List.getElem?_toArray, List.getElem?_cons_succ, List.getElem?_cons_zero]; rfl) (by simp only [List.getElem?_toArray, List.getElem?_cons_succ, List.getElem?_cons_zero]; rfl) (by simp only [List.getElem?_toArray, List.getElem?_cons_succ, List.getElem?_cons_zero]; rfl) (by simp only [List.getElem?_toArray, List.getElem?_cons_succ, List.getElem?_cons_zero]; rfl) ⟨rfl, rfl, fun a w => by go_simp; (refine ⟨?_, ?_⟩ <;> rfl)⟩ ⟨rfl, rfl, fun a w => by go_simp; (refine ⟨?_, ?_⟩ <;> rfl)⟩ (by decide) (by decide) (by kernel_rfl) (by kernel_rfl) (by kernel_rfl) (by kernel_rfl) (by kernel_rfl) (by kernel_rfl) rfl rfl rfl rfl (by simp [*]) (by simp [*]) (by simp) (by simp) (by simp; (try omega)) (fun A B w1 hr => by
    simp only [Act.put, List.setIfInBounds_toArray, List.set_cons_zero, List.set_cons_succ, ptr]
    go_simp
    try rfl) (fun A B w1 hr => by
    simp only [Act.put, List.setIfInBounds_toArray, List.set_cons_zero, List.set_cons_succ, ptr]
    go_simp
    try rfl) hS (fun F H w3 gF gH nF zF zH hb3 rF rH => ?_)
  (try simp only [Act.put, List.setIfInBounds_toArray, List.set_cons_zero, List.set_cons_succ])
  replace gF : (w2).heap.size ≤ F := gF
  replace gH : (w2).heap.size ≤ H := gH
  replace hb3 : Below (w2).heap.size w2 w3 := Below.trans (Below.drew (Below.refl _ _)) hb3
  have zw3 := (hb3).size
  simp only [ptr]
  clear hS
  replace rB := (row_below hb3 (by omega)).trans rB
  replace rU := (row_below hb3 (by omega)).trans rU
  replace rP := (row_below hb3 (by omega)).trans rP
  replace rQ := (row_below hb3 (by omega)).trans rQ
  replace rE := (row_below hb3 (by omega)).trans rE
  replace rG := (row_below hb3 (by omega)).trans rG
  clear H3 H4
  go_wp2_with fail
  refine (H5.out _).mono ?_
  rintro e' w4 ⟨rfl, hb4⟩
  have zw4 := hb4.size
  replace rB := (row_below hb4 (by omega)).trans rB
  replace rU := (row_below hb4 (by omega)).trans rU
  replace rP := (row_below hb4 (by omega)).trans rP
  replace rQ := (row_below hb4 (by omega)).trans rQ
  replace rE := (row_below hb4 (by omega)).trans rE
  replace rG := (row_below hb4 (by omega)).trans rG
  replace rF := (row_below hb4 (by omega)).trans rF
  replace rH := (row_below hb4 (by omega)).trans rH
  clear H5
  go_wp2_with fail
  obtain ⟨w5, hw5⟩ : ∃ U, w4.alloc (.cells (i64s i).toArray 38) = U := ⟨_, rfl⟩
  obtain ⟨I, hI⟩ : ∃ n, w4.heap.size = n := ⟨_, rfl⟩
  have rI : row w5 I = (i64s i).toArray := by rw [← hw5, ← hI]; exact row_alloc_at _ _ _ rfl
  have zw5 : w5.heap.size = w4.heap.size + 1 := by rw [← hw5]; simp
  have hb5 : Below w4.heap.size w4 w5 := by rw [← hw5]; exact Below.alloc (Below.refl _ _) (Nat.le_refl _) _
  rw [hw5, hI]
  clear hw5
  replace rB := (row_below hb5 (by omega)).trans rB
  replace rU := (row_below hb5 (by omega)).trans rU
  replace rP := (row_below hb5 (by omega)).trans rP
  replace rQ := (row_below hb5 (by omega)).trans rQ
  replace rE := (row_below hb5 (by omega)).trans rE
  replace rG := (row_below hb5 (by omega)).trans rG
  replace rF := (row_below hb5 (by omega)).trans rF
  replace rH := (row_below hb5 (by omega)).trans rH
  refine wp_region_beginR [(w.heap.size + 1, (i64s bx ++ i64s bz).toArray), (E, (i64s e).toArray), (G, (i64s g).toArray)] rfl (by simp only [Rws]; (repeat (first | exact trivial | refine ⟨(by first | assumption | (simp [go_sem, *]; done)), (by first | omega | (simp; done) | (simp; omega)), ?_⟩))) (fun hS => ?_)
  refine wpAnyR_take (i := 0) (v := ?_) (by simp only [List.getElem?_toArray, List.getElem?_cons_succ, List.getElem?_cons_zero]; rfl) (by kernel_rfl) (by kernel_rfl) (by kernel_rfl) (by first | exact fun _ _ _ h => h | exact fun _ _ _ h => by cases h.1) (Rws.grow _) (Or.inl ⟨by rfl, ?_⟩) hS ?_
  rotate_left
  · intro w' hS'
    simp only [Rws] at hS'
    go_simp
    refine ⟨?_, Below.refl _ _⟩
    rfl
  (try simp only [Act.put, List.setIfInBounds_toArray, List.set_cons_zero, List.set_cons_succ])
  refine wpAnyR_take (i := 1) (v := ?_) (by simp only [List.getElem?_toArray, List.getElem?_cons_succ, List.getElem?_cons_zero]; rfl) (by kernel_rfl) (by kernel_rfl) (by kernel_rfl) (by first | exact fun _ _ _ h => h | exact fun _ _ _ h => by cases h.1) (Rws.grow _) (Or.inl ⟨by rfl, ?_⟩) hS ?_
  rotate_left
  · intro w' hS'
    simp only [Rws] at hS'
    go_simp
    refine ⟨?_, Below.refl _ _⟩
    rfl
  (try simp only [Act.put, List.setIfInBounds_toArray, List.set_cons_zero, List.set_cons_succ])
  refine wpAnyR_take (i := 2) (v := ?_) (by simp only [List.getElem?_toArray, List.getElem?_cons_succ, List.getElem?_cons_zero]; rfl) (by kernel_rfl) (by kernel_rfl) (by kernel_rfl) (by first | exact fun _ _ _ h => h | exact fun _ _ _ h => by cases h.1) (Rws.grow _) (Or.inl ⟨by rfl, ?_⟩) hS ?_
  rotate_left
  · intro w' hS'
    simp only [Rws] at hS'
    go_simp
    refine ⟨?_, Below.refl _ _⟩
    rfl
  (try simp only [Act.put, List.setIfInBounds_toArray, List.set_cons_zero, List.set_cons_succ])
  refine wpAnyR_take (i := 3) (v := ?_) (by simp only [List.getElem?_toArray, List.getElem?_cons_succ, List.getElem?_cons_zero]; rfl) (by kernel_rfl) (by kernel_rfl) (by kernel_rfl) (by first | exact fun _ _ _ h => h | exact fun _ _ _ h => by cases h.1) (Rws.grow _) (Or.inl ⟨by rfl, ?_⟩) hS ?_
  rotate_left
  · intro w' hS'
    simp only [Rws] at hS'
    go_simp
    refine ⟨?_, Below.refl _ _⟩
    rfl
  (try simp only [Act.put, List.setIfInBounds_toArray, List.set_cons_zero, List.set_cons_succ])
  refine wpAnyR_take (i := 5) (v := ?_) (by simp only [List.getElem?_toArray, List.getElem?_cons_succ, List.getElem?_cons_zero]; rfl) (by kernel_rfl) (by kernel_rfl) (by kernel_rfl) (by first | exact fun _ _ _ h => h | exact fun _ _ _ h => by cases h.1) (Rws.grow _) (Or.inl ⟨by rfl, ?_⟩) hS ?_
  rotate_left
  · intro w' hS'
    simp only [Rws] at hS'
    go_simp
    refine ⟨?_, Below.refl _ _⟩
    rfl
  (try simp only [Act.put, List.setIfInBounds_toArray, List.set_cons_zero, List.set_cons_succ])
  refine wpAnyR_take (i := 7) (v := ?_) (by simp only [List.getElem?_toArray, List.getElem?_cons_succ, List.getElem?_cons_zero]; rfl) (by kernel_rfl) (by kernel_rfl) (by kernel_rfl) (by first | exact fun _ _ _ h => h | exact fun _ _ _ h => by cases h.1) (Rws.grow _) (Or.inl ⟨by rfl, ?_⟩) hS ?_
  rotate_left
  · intro w' hS'
    simp only [Rws] at hS'
    go_simp
    refine ⟨?_, Below.refl _ _⟩
    rfl
  (try simp only [Act.put, List.setIfInBounds_toArray, List.set_cons_zero, List.set_cons_succ])
  refine wpAnyR_take (i := 8) (v := ?_) (by simp only [List.getElem?_toArray, List.getElem?_cons_succ, List.getElem?_cons_zero]; rfl) (by kernel_rfl) (by kernel_rfl) (by kernel_rfl) (by first | exact fun _ _ _ h => h | exact fun _ _ _ h => by cases h.1) (Rws.grow _) (Or.inl ⟨by rfl, ?_⟩) hS ?_
  rotate_left
  · intro w' hS'
    simp only [Rws] at hS'
    go_simp
    refine ⟨?_, Below.refl _ _⟩
    rfl
  (try simp only [Act.put, List.setIfInBounds_toArray, List.set_cons_zero, List.set_cons_succ])
  refine wpAnyR_take (i := 9) (v := ?_) (by simp only [List.getElem?_toArray, List.getElem?_cons_succ, List.getElem?_cons_zero]; rfl) (by kernel_rfl) (by kernel_rfl) (by kernel_rfl) (by first | exact fun _ _ _ h => h | exact fun _ _ _ h => by cases h.1) (Rws.grow _) (Or.inl ⟨by rfl, ?_⟩) hS ?_
  rotate_left
  · intro w' hS'
    simp only [Rws] at hS'
    go_simp
    refine ⟨?_, Below.refl _ _⟩
    rfl
  (try simp only [Act.put, List.setIfInBounds_toArray, List.set_cons_zero, List.set_cons_succ])
  refine wpAnyR_take (i := 10) (v := ?_) (by simp only [List.getElem?_toArray, List.getElem?_cons_succ, List.getElem?_cons_zero]; rfl) (by kernel_rfl) (by kernel_rfl) (by kernel_rfl) (by first | exact fun _ _ _ h => h | exact fun _ _ _ h => by cases h.1) (Rws.grow _) (Or.inl ⟨by rfl, ?_⟩) hS ?_
  rotate_left
  · intro w' hS'
    simp only [Rws] at hS'
    go_simp
    refine ⟨?_, Below.refl _ _⟩
    rfl
  (try simp only [Act.put, List.setIfInBounds_toArray, List.set_cons_zero, List.set_cons_succ])
  refine wpAnyR_take (i := 12) (v := ?_) (by simp only [List.getElem?_toArray, List.getElem?_cons_succ, List.getElem?_cons_zero]; rfl) (by kernel_rfl) (by kernel_rfl) (by kernel_rfl) (by first | exact fun _ _ _ h => h | exact fun _ _ _ h => by cases h.1) (Rws.grow _) (Or.inl ⟨by rfl, ?_⟩) hS ?_
  rotate_left
  · intro w' hS'
    simp only [Rws] at hS'
    go_simp
    refine ⟨?_, Below.refl _ _⟩
    rfl
  (try simp only [Act.put, List.setIfInBounds_toArray, List.set_cons_zero, List.set_cons_succ])
  refine wpAnyR_take (i := 4) (v := ?_) (by simp only [List.getElem?_toArray, List.getElem?_cons_succ, List.getElem?_cons_zero]; rfl) (by kernel_rfl) (by kernel_rfl) (by kernel_rfl) (by first | exact fun _ _ _ h => h | exact fun _ _ _ h => by cases h.1) (Rws.grow _) (Or.inl ⟨by rfl, ?_⟩) hS ?_
  rotate_left
  · intro w' hS'
    simp only [Rws] at hS'
    go_simp
    with_reducible refine (H6.out _).mono ?_
    rintro e w'' ⟨rfl, hb⟩
    refine ⟨_, rfl, ?_, hb⟩
    rfl
  (try simp only [Act.put, List.setIfInBounds_toArray, List.set_cons_zero, List.set_cons_succ])
  refine wpAnyR_take (i := 6) (v := ?_) (by simp only [List.getElem?_toArray, List.getElem?_cons_succ, List.getElem?_cons_zero]; rfl) (by kernel_rfl) (by kernel_rfl) (by kernel_rfl) (by first | exact fun _ _ _ h => h | exact fun _ _ _ h => by cases h.1) (Rws.grow _) (Or.inl ⟨by rfl, ?_⟩) hS ?_
  rotate_left
  · intro w' hS'
    simp only [Rws] at hS'
    go_simp
    with_reducible refine (H7.out _).mono ?_
    rintro e w'' ⟨rfl, hb⟩
    refine ⟨_, rfl, ?_, hb⟩
    rfl
  (try simp only [Act.put, List.setIfInBounds_toArray, List.set_cons_zero, List.set_cons_succ])
  refine wpAnyR_take (i := 11) (v := ?_) (by simp only [List.getElem?_toArray, List.getElem?_cons_succ, List.getElem?_cons_zero]; rfl) (by kernel_rfl) (by kernel_rfl) (by kernel_rfl) (by first | exact fun _ _ _ h => h | exact fun _ _ _ h => by cases h.1) (Rws.grow _) (Or.inl ⟨by rfl, ?_⟩) hS ?_
  rotate_left
  · intro w' hS'
    simp only [Rws] at hS'
    go_simp
    with_reducible refine (H8.out _).mono ?_
    rintro e w'' ⟨rfl, hb⟩
    refine ⟨_, rfl, ?_, hb⟩
    rfl
  (try simp only [Act.put, List.setIfInBounds_toArray, List.set_cons_zero, List.set_cons_succ])
  refine wpAnyR_take (i := 13) (v := ?_) (by simp only [List.getElem?_toArray, List.getElem?_cons_succ, List.getElem?_cons_zero]; rfl) (by kernel_rfl) (by kernel_rfl) (by kernel_rfl) (by first | exact fun _ _ _ h => h | exact fun _ _ _ h => by cases h.1) (Rws.grow _) (Or.inl ⟨by rfl, ?_⟩) hS ?_
  rotate_left
  · intro w' hS'
    simp only [Rws] at hS'
    go_simp
    with_reducible refine (H9.out _).mono ?_
    rintro e w'' ⟨rfl, hb⟩
    refine ⟨_, rfl, ?_, hb⟩
    rfl
  (try simp only [Act.put, List.setIfInBounds_toArray, List.set_cons_zero, List.set_cons_succ])
  refine wpAnyR_pair (i := 14) (j := 15) (k := 16) (m := 17) (zi := (zeros 16 (Value.int .i64 0)).toArray) (zj := (zeros 16 (Value.int .i64 0)).toArray) (cA := (i64s j).toArray) (cB := (i64s k).toArray) (by simp only [List.getElem?_toArray, List.getElem?_cons_succ, List.getElem?_cons_zero]; rfl) (by simp only [List.getElem?_toArray, List.getElem?_cons_succ, List.getElem?_cons_zero]; rfl) (by simp only [List.getElem?_toArray, List.getElem?_cons_succ, List.getElem?_cons_zero]; rfl) (by simp only [List.getElem?_toArray, List.getElem?_cons_succ, List.getElem?_cons_zero]; rfl) ⟨rfl, rfl, fun a w => by go_simp; (refine ⟨?_, ?_⟩ <;> rfl)⟩ ⟨rfl, rfl, fun a w => by go_simp; (refine ⟨?_, ?_⟩ <;> rfl)⟩ (by decide) (by decide) (by kernel_rfl) (by kernel_rfl) (by kernel_rfl) (by kernel_rfl) (by kernel_rfl) (by kernel_rfl) rfl rfl rfl rfl (by simp [*]) (by simp [*]) (by simp) (by simp) (by simp; (try omega)) (fun A B w1 hr => by
    simp only [Act.put, List.setIfInBounds_toArray, List.set_cons_zero, List.set_cons_succ, ptr]
    go_simp
    try rfl) (fun A B w1 hr => by
    simp only [Act.put, List.setIfInBounds_toArray, List.set_cons_zero, List.set_cons_succ, ptr]
    go_simp
    try rfl) hS (fun J K w6 gJ gK nJ zJ zK hb6 rJ rK => ?_)
  (try simp only [Act.put, List.setIfInBounds_toArray, List.set_cons_zero, List.set_cons_succ])
  replace gJ : (w5).heap.size ≤ J := gJ
  replace gK : (w5).heap.size ≤ K := gK
  replace hb6 : Below (w5).heap.size w5 w6 := Below.trans (Below.drew (Below.refl _ _)) hb6
  have zw6 := (hb6).size
  simp only [ptr]
  clear hS
  replace rU := (row_below hb6 (by omega)).trans rU
  replace rP := (row_below hb6 (by omega)).trans rP
  replace rQ := (row_below hb6 (by omega)).trans rQ
  replace rF := (row_below hb6 (by omega)).trans rF
  replace rH := (row_below hb6 (by omega)).trans rH
  replace rI := (row_below hb6 (by omega)).trans rI
  clear H6 H7 H8 H9 rB rE rG
  go_wp2_with fail
  refine wp_region_beginR [(J, (i64s j).toArray), (K, (i64s k).toArray)] rfl (by simp only [Rws]; (repeat (first | exact trivial | refine ⟨(by first | assumption | (simp [go_sem, *]; done)), (by first | omega | (simp; done) | (simp; omega)), ?_⟩))) (fun hS => ?_)
  refine wpAnyR_take (i := 0) (v := ?_) (by simp only [List.getElem?_toArray, List.getElem?_cons_succ, List.getElem?_cons_zero]; rfl) (by kernel_rfl) (by kernel_rfl) (by kernel_rfl) (by first | exact fun _ _ _ h => h | exact fun _ _ _ h => by cases h.1) (Rws.grow _) (Or.inl ⟨by rfl, ?_⟩) hS ?_
  rotate_left
  · intro w' hS'
    simp only [Rws] at hS'
    go_simp
    refine ⟨?_, Below.refl _ _⟩
    rfl
  (try simp only [Act.put, List.setIfInBounds_toArray, List.set_cons_zero, List.set_cons_succ])
  refine wpAnyR_take (i := 1) (v := ?_) (by simp only [List.getElem?_toArray, List.getElem?_cons_succ, List.getElem?_cons_zero]; rfl) (by kernel_rfl) (by kernel_rfl) (by kernel_rfl) (by first | exact fun _ _ _ h => h | exact fun _ _ _ h => by cases h.1) (Rws.grow _) (Or.inl ⟨by rfl, ?_⟩) hS ?_
  rotate_left
  · intro w' hS'
    simp only [Rws] at hS'
    go_simp
    refine ⟨?_, Below.refl _ _⟩
    rfl
  (try simp only [Act.put, List.setIfInBounds_toArray, List.set_cons_zero, List.set_cons_succ])
  refine wpAnyR_take (i := 3) (v := ?_) (by simp only [List.getElem?_toArray, List.getElem?_cons_succ, List.getElem?_cons_zero]; rfl) (by kernel_rfl) (by kernel_rfl) (by kernel_rfl) (by first | exact fun _ _ _ h => h | exact fun _ _ _ h => by cases h.1) (Rws.grow _) (Or.inl ⟨by rfl, ?_⟩) hS ?_
  rotate_left
  · intro w' hS'
    simp only [Rws] at hS'
    go_simp
    refine ⟨?_, Below.refl _ _⟩
    rfl
  (try simp only [Act.put, List.setIfInBounds_toArray, List.set_cons_zero, List.set_cons_succ])
  refine wpAnyR_take (i := 4) (v := ?_) (by simp only [List.getElem?_toArray, List.getElem?_cons_succ, List.getElem?_cons_zero]; rfl) (by kernel_rfl) (by kernel_rfl) (by kernel_rfl) (by first | exact fun _ _ _ h => h | exact fun _ _ _ h => by cases h.1) (Rws.grow _) (Or.inl ⟨by rfl, ?_⟩) hS ?_
  rotate_left
  · intro w' hS'
    simp only [Rws] at hS'
    go_simp
    refine ⟨?_, Below.refl _ _⟩
    rfl
  (try simp only [Act.put, List.setIfInBounds_toArray, List.set_cons_zero, List.set_cons_succ])
  refine wpAnyR_take (i := 2) (v := ?_) (by simp only [List.getElem?_toArray, List.getElem?_cons_succ, List.getElem?_cons_zero]; rfl) (by kernel_rfl) (by kernel_rfl) (by kernel_rfl) (by first | exact fun _ _ _ h => h | exact fun _ _ _ h => by cases h.1) (Rws.grow _) (Or.inl ⟨by rfl, ?_⟩) hS ?_
  rotate_left
  · intro w' hS'
    simp only [Rws] at hS'
    go_simp
    with_reducible refine (H10.out _).mono ?_
    rintro e w'' ⟨rfl, hb⟩
    refine ⟨_, rfl, ?_, hb⟩
    rfl
  (try simp only [Act.put, List.setIfInBounds_toArray, List.set_cons_zero, List.set_cons_succ])
  refine wpAnyR_take (i := 5) (v := ?_) (by simp only [List.getElem?_toArray, List.getElem?_cons_succ, List.getElem?_cons_zero]; rfl) (by kernel_rfl) (by kernel_rfl) (by kernel_rfl) (by first | exact fun _ _ _ h => h | exact fun _ _ _ h => by cases h.1) (Rws.grow _) (Or.inl ⟨by rfl, ?_⟩) hS ?_
  rotate_left
  · intro w' hS'
    simp only [Rws] at hS'
    go_simp
    with_reducible refine (H11.out _).mono ?_
    rintro e w'' ⟨rfl, hb⟩
    refine ⟨_, rfl, ?_, hb⟩
    rfl
  (try simp only [Act.put, List.setIfInBounds_toArray, List.set_cons_zero, List.set_cons_succ])
  refine wpAnyR_pair (i := 6) (j := 7) (k := 8) (m := 9) (zi := (zeros 16 (Value.int .i64 0)).toArray) (zj := (zeros 16 (Value.int .i64 0)).toArray) (cA := (i64s s).toArray) (cB := (i64s d).toArray) (by simp only [List.getElem?_toArray, List.getElem?_cons_succ, List.getElem?_cons_zero]; rfl) (by simp only [List.getElem?_toArray, List.getElem?_cons_succ, List.getElem?_cons_zero]; rfl) (by simp only [List.getElem?_toArray, List.getElem?_cons_succ, List.getElem?_cons_zero]; rfl) (by simp only [List.getElem?_toArray, List.getElem?_cons_succ, List.getElem?_cons_zero]; rfl) ⟨rfl, rfl, fun a w => by go_simp; (refine ⟨?_, ?_⟩ <;> rfl)⟩ ⟨rfl, rfl, fun a w => by go_simp; (refine ⟨?_, ?_⟩ <;> rfl)⟩ (by decide) (by decide) (by kernel_rfl) (by kernel_rfl) (by kernel_rfl) (by kernel_rfl) (by kernel_rfl) (by kernel_rfl) rfl rfl rfl rfl (by simp [*]) (by simp [*]) (by simp) (by simp) (by simp; (try omega)) (fun A B w1 hr => by
    simp only [Act.put, List.setIfInBounds_toArray, List.set_cons_zero, List.set_cons_succ, ptr]
    go_simp
    try rfl) (fun A B w1 hr => by
    simp only [Act.put, List.setIfInBounds_toArray, List.set_cons_zero, List.set_cons_succ, ptr]
    go_simp
    try rfl) hS (fun S D w7 gS gD nS zS zD hb7 rS rD => ?_)
  (try simp only [Act.put, List.setIfInBounds_toArray, List.set_cons_zero, List.set_cons_succ])
  replace gS : (w6).heap.size ≤ S := gS
  replace gD : (w6).heap.size ≤ D := gD
  replace hb7 : Below (w6).heap.size w6 w7 := Below.trans (Below.drew (Below.refl _ _)) hb7
  have zw7 := (hb7).size
  simp only [ptr]
  clear hS
  replace rU := (row_below hb7 (by omega)).trans rU
  replace rP := (row_below hb7 (by omega)).trans rP
  replace rQ := (row_below hb7 (by omega)).trans rQ
  replace rF := (row_below hb7 (by omega)).trans rF
  replace rH := (row_below hb7 (by omega)).trans rH
  replace rI := (row_below hb7 (by omega)).trans rI
  clear H10 H11 rJ rK
  go_wp2_with fail
  refine wp_region_beginR [(w.heap.size + 1 + 1, (i64s u).toArray), (F, (i64s f).toArray), (H, (i64s h).toArray), (I, (i64s i).toArray), (S, (i64s s).toArray), (D, (i64s d).toArray)] rfl (by simp only [Rws]; (repeat (first | exact trivial | refine ⟨(by first | assumption | (simp [go_sem, *]; done)), (by first | omega | (simp; done) | (simp; omega)), ?_⟩))) (fun hS => ?_)
  refine wpAnyR_take (i := 0) (v := ?_) (by simp only [List.getElem?_toArray, List.getElem?_cons_succ, List.getElem?_cons_zero]; rfl) (by kernel_rfl) (by kernel_rfl) (by kernel_rfl) (by first | exact fun _ _ _ h => h | exact fun _ _ _ h => by cases h.1) (Rws.grow _) (Or.inl ⟨by rfl, ?_⟩) hS ?_
  rotate_left
  · intro w' hS'
    simp only [Rws] at hS'
    go_simp
    refine ⟨?_, Below.refl _ _⟩
    rfl
  (try simp only [Act.put, List.setIfInBounds_toArray, List.set_cons_zero, List.set_cons_succ])
  refine wpAnyR_take (i := 1) (v := ?_) (by simp only [List.getElem?_toArray, List.getElem?_cons_succ, List.getElem?_cons_zero]; rfl) (by kernel_rfl) (by kernel_rfl) (by kernel_rfl) (by first | exact fun _ _ _ h => h | exact fun _ _ _ h => by cases h.1) (Rws.grow _) (Or.inl ⟨by rfl, ?_⟩) hS ?_
  rotate_left
  · intro w' hS'
    simp only [Rws] at hS'
    go_simp
    refine ⟨?_, Below.refl _ _⟩
    rfl
  (try simp only [Act.put, List.setIfInBounds_toArray, List.set_cons_zero, List.set_cons_succ])
  refine wpAnyR_take (i := 3) (v := ?_) (by simp only [List.getElem?_toArray, List.getElem?_cons_succ, List.getElem?_cons_zero]; rfl) (by kernel_rfl) (by kernel_rfl) (by kernel_rfl) (by first | exact fun _ _ _ h => h | exact fun _ _ _ h => by cases h.1) (Rws.grow _) (Or.inl ⟨by rfl, ?_⟩) hS ?_
  rotate_left
  · intro w' hS'
    simp only [Rws] at hS'
    go_simp
    refine ⟨?_, Below.refl _ _⟩
    rfl
  (try simp only [Act.put, List.setIfInBounds_toArray, List.set_cons_zero, List.set_cons_succ])
  refine wpAnyR_take (i := 4) (v := ?_) (by simp only [List.getElem?_toArray, List.getElem?_cons_succ, List.getElem?_cons_zero]; rfl) (by kernel_rfl) (by kernel_rfl) (by kernel_rfl) (by first | exact fun _ _ _ h => h | exact fun _ _ _ h => by cases h.1) (Rws.grow _) (Or.inl ⟨by rfl, ?_⟩) hS ?_
  rotate_left
  · intro w' hS'
    simp only [Rws] at hS'
    go_simp
    refine ⟨?_, Below.refl _ _⟩
    rfl
  (try simp only [Act.put, List.setIfInBounds_toArray, List.set_cons_zero, List.set_cons_succ])
  refine wpAnyR_take (i := 5) (v := ?_) (by simp only [List.getElem?_toArray, List.getElem?_cons_succ, List.getElem?_cons_zero]; rfl) (by kernel_rfl) (by kernel_rfl) (by kernel_rfl) (by first | exact fun _ _ _ h => h | exact fun _ _ _ h => by cases h.1) (Rws.grow _) (Or.inl ⟨by rfl, ?_⟩) hS ?_
  rotate_left
  · intro w' hS'
    simp only [Rws] at hS'
    go_simp
    refine ⟨?_, Below.refl _ _⟩
    rfl
  (try simp only [Act.put, List.setIfInBounds_toArray, List.set_cons_zero, List.set_cons_succ])
  refine wpAnyR_take (i := 6) (v := ?_) (by simp only [List.getElem?_toArray, List.getElem?_cons_succ, List.getElem?_cons_zero]; rfl) (by kernel_rfl) (by kernel_rfl) (by kernel_rfl) (by first | exact fun _ _ _ h => h | exact fun _ _ _ h => by cases h.1) (Rws.grow _) (Or.inl ⟨by rfl, ?_⟩) hS ?_
  rotate_left
  · intro w' hS'
    simp only [Rws] at hS'
    go_simp
    refine ⟨?_, Below.refl _ _⟩
    rfl
  (try simp only [Act.put, List.setIfInBounds_toArray, List.set_cons_zero, List.set_cons_succ])
  refine wpAnyR_take (i := 11) (v := ?_) (by simp only [List.getElem?_toArray, List.getElem?_cons_succ, List.getElem?_cons_zero]; rfl) (by kernel_rfl) (by kernel_rfl) (by kernel_rfl) (by first | exact fun _ _ _ h => h | exact fun _ _ _ h => by cases h.1) (Rws.grow _) (Or.inl ⟨by rfl, ?_⟩) hS ?_
  rotate_left
  · intro w' hS'
    simp only [Rws] at hS'
    go_simp
    refine ⟨?_, Below.refl _ _⟩
    rfl
  (try simp only [Act.put, List.setIfInBounds_toArray, List.set_cons_zero, List.set_cons_succ])
  refine wpAnyR_take (i := 12) (v := ?_) (by simp only [List.getElem?_toArray, List.getElem?_cons_succ, List.getElem?_cons_zero]; rfl) (by kernel_rfl) (by kernel_rfl) (by kernel_rfl) (by first | exact fun _ _ _ h => h | exact fun _ _ _ h => by cases h.1) (Rws.grow _) (Or.inl ⟨by rfl, ?_⟩) hS ?_
  rotate_left
  · intro w' hS'
    simp only [Rws] at hS'
    go_simp
    refine ⟨?_, Below.refl _ _⟩
    rfl
  (try simp only [Act.put, List.setIfInBounds_toArray, List.set_cons_zero, List.set_cons_succ])
  refine wpAnyR_take (i := 14) (v := ?_) (by simp only [List.getElem?_toArray, List.getElem?_cons_succ, List.getElem?_cons_zero]; rfl) (by kernel_rfl) (by kernel_rfl) (by kernel_rfl) (by first | exact fun _ _ _ h => h | exact fun _ _ _ h => by cases h.1) (Rws.grow _) (Or.inl ⟨by rfl, ?_⟩) hS ?_
  rotate_left
  · intro w' hS'
    simp only [Rws] at hS'
    go_simp
    refine ⟨?_, Below.refl _ _⟩
    rfl
  (try simp only [Act.put, List.setIfInBounds_toArray, List.set_cons_zero, List.set_cons_succ])
  refine wpAnyR_take (i := 15) (v := ?_) (by simp only [List.getElem?_toArray, List.getElem?_cons_succ, List.getElem?_cons_zero]; rfl) (by kernel_rfl) (by kernel_rfl) (by kernel_rfl) (by first | exact fun _ _ _ h => h | exact fun _ _ _ h => by cases h.1) (Rws.grow _) (Or.inl ⟨by rfl, ?_⟩) hS ?_
  rotate_left
  · intro w' hS'
    simp only [Rws] at hS'
    go_simp
    refine ⟨?_, Below.refl _ _⟩
    rfl
  (try simp only [Act.put, List.setIfInBounds_toArray, List.set_cons_zero, List.set_cons_succ])
  refine wpAnyR_take (i := 16) (v := ?_) (by simp only [List.getElem?_toArray, List.getElem?_cons_succ, List.getElem?_cons_zero]; rfl) (by kernel_rfl) (by kernel_rfl) (by kernel_rfl) (by first | exact fun _ _ _ h => h | exact fun _ _ _ h => by cases h.1) (Rws.grow _) (Or.inl ⟨by rfl, ?_⟩) hS ?_
  rotate_left
  · intro w' hS'
    simp only [Rws] at hS'
    go_simp
    refine ⟨?_, Below.refl _ _⟩
    rfl
  (try simp only [Act.put, List.setIfInBounds_toArray, List.set_cons_zero, List.set_cons_succ])
  refine wpAnyR_take (i := 2) (v := ?_) (by simp only [List.getElem?_toArray, List.getElem?_cons_succ, List.getElem?_cons_zero]; rfl) (by kernel_rfl) (by kernel_rfl) (by kernel_rfl) (by first | exact fun _ _ _ h => h | exact fun _ _ _ h => by cases h.1) (Rws.grow _) (Or.inl ⟨by rfl, ?_⟩) hS ?_
  rotate_left
  · intro w' hS'
    simp only [Rws] at hS'
    go_simp
    with_reducible refine (times_any f h _ hfl hhl).mono ?_
    rintro e w'' ⟨rfl, hb⟩
    refine ⟨_, rfl, ?_, hb⟩
    rfl
  (try simp only [Act.put, List.setIfInBounds_toArray, List.set_cons_zero, List.set_cons_succ])
  rw [c24_cells]
  refine wpAnyR_take (i := 7) (v := ?_) (by simp only [List.getElem?_toArray, List.getElem?_cons_succ, List.getElem?_cons_zero]; rfl) (by kernel_rfl) (by kernel_rfl) (by kernel_rfl) (by first | exact fun _ _ _ h => h | exact fun _ _ _ h => by cases h.1) (Rws.grow _) (Or.inl ⟨by rfl, ?_⟩) hS ?_
  rotate_left
  · intro w' hS'
    simp only [Rws] at hS'
    go_simp
    with_reducible refine (times_any c24 i _ rfl hil).mono ?_
    rintro e w'' ⟨rfl, hb⟩
    refine ⟨_, rfl, ?_, hb⟩
    rfl
  (try simp only [Act.put, List.setIfInBounds_toArray, List.set_cons_zero, List.set_cons_succ])
  refine wpAnyR_take (i := 8) (v := ?_) (by simp only [List.getElem?_toArray, List.getElem?_cons_succ, List.getElem?_cons_zero]; rfl) (by kernel_rfl) (by kernel_rfl) (by kernel_rfl) (by first | exact fun _ _ _ h => h | exact fun _ _ _ h => by cases h.1) (Rws.grow _) (Or.inl ⟨by rfl, ?_⟩) hS ?_
  rotate_left
  · intro w' hS'
    simp only [Rws] at hS'
    go_simp
    with_reducible refine (plus_any f (timesL c24 i) _ hfl (timesL_length _ _)).mono ?_
    rintro e w'' ⟨rfl, hb⟩
    refine ⟨_, rfl, ?_, hb⟩
    rfl
  (try simp only [Act.put, List.setIfInBounds_toArray, List.set_cons_zero, List.set_cons_succ])
  refine wpAnyR_take (i := 9) (v := ?_) (by simp only [List.getElem?_toArray, List.getElem?_cons_succ, List.getElem?_cons_zero]; rfl) (by kernel_rfl) (by kernel_rfl) (by kernel_rfl) (by first | exact fun _ _ _ h => h | exact fun _ _ _ h => by cases h.1) (Rws.grow _) (Or.inl ⟨by rfl, ?_⟩) hS ?_
  rotate_left
  · intro w' hS'
    simp only [Rws] at hS'
    go_simp
    with_reducible refine (times_any i (plusL f (timesL c24 i)) _ hil (by rw [plusL_length]; exact hfl)).mono ?_
    rintro e w'' ⟨rfl, hb⟩
    refine ⟨_, rfl, ?_, hb⟩
    rfl
  (try simp only [Act.put, List.setIfInBounds_toArray, List.set_cons_zero, List.set_cons_succ])
  have q1 := timesL_length f h
  have q2 := timesL_length i (plusL f (timesL c24 i))
  have q3 := timesL_length s s
  have q4 := timesL_length u (timesL d d)
  refine wpAnyR_take (i := 10) (v := ?_) (by simp only [List.getElem?_toArray, List.getElem?_cons_succ, List.getElem?_cons_zero]; rfl) (by kernel_rfl) (by kernel_rfl) (by kernel_rfl) (by first | exact fun _ _ _ h => h | exact fun _ _ _ h => by cases h.1) (Rws.grow _) (Or.inl ⟨by rfl, ?_⟩) hS ?_
  rotate_left
  · intro w' hS'
    simp only [Rws] at hS'
    go_simp
    refine ⟨?_, Below.refl _ _⟩
    rfl
  (try simp only [Act.put, List.setIfInBounds_toArray, List.set_cons_zero, List.set_cons_succ])
  refine wpAnyR_take (i := 13) (v := ?_) (by simp only [List.getElem?_toArray, List.getElem?_cons_succ, List.getElem?_cons_zero]; rfl) (by kernel_rfl) (by kernel_rfl) (by kernel_rfl) (by first | exact fun _ _ _ h => h | exact fun _ _ _ h => by cases h.1) (Rws.grow _) (Or.inl ⟨by rfl, ?_⟩) hS ?_
  rotate_left
  · intro w' hS'
    simp only [Rws] at hS'
    go_simp
    with_reducible refine (times_any s s _ hsl hsl).mono ?_
    rintro e w'' ⟨rfl, hb⟩
    refine ⟨_, rfl, ?_, hb⟩
    rfl
  (try simp only [Act.put, List.setIfInBounds_toArray, List.set_cons_zero, List.set_cons_succ])
  refine wpAnyR_take (i := 17) (v := ?_) (by simp only [List.getElem?_toArray, List.getElem?_cons_succ, List.getElem?_cons_zero]; rfl) (by kernel_rfl) (by kernel_rfl) (by kernel_rfl) (by first | exact fun _ _ _ h => h | exact fun _ _ _ h => by cases h.1) (Rws.grow _) (Or.inl ⟨by rfl, ?_⟩) hS ?_
  rotate_left
  · intro w' hS'
    simp only [Rws] at hS'
    go_simp
    with_reducible refine (times_any d d _ hdl hdl).mono ?_
    rintro e w'' ⟨rfl, hb⟩
    refine ⟨_, rfl, ?_, hb⟩
    rfl
  (try simp only [Act.put, List.setIfInBounds_toArray, List.set_cons_zero, List.set_cons_succ])
  refine wpAnyR_take (i := 18) (v := ?_) (by simp only [List.getElem?_toArray, List.getElem?_cons_succ, List.getElem?_cons_zero]; rfl) (by kernel_rfl) (by kernel_rfl) (by kernel_rfl) (by first | exact fun _ _ _ h => h | exact fun _ _ _ h => by cases h.1) (Rws.grow _) (Or.inl ⟨by rfl, ?_⟩) hS ?_
  rotate_left
  · intro w' hS'
    simp only [Rws] at hS'
    go_simp
    with_reducible refine (times_any u (timesL d d) _ hu (timesL_length _ _)).mono ?_
    rintro e w'' ⟨rfl, hb⟩
    refine ⟨_, rfl, ?_, hb⟩
    rfl
  (try simp only [Act.put, List.setIfInBounds_toArray, List.set_cons_zero, List.set_cons_succ])
  refine wpAnyR_take (i := 19) (v := ?_) (by simp only [List.getElem?_toArray, List.getElem?_cons_succ, List.getElem?_cons_zero]; rfl) (by kernel_rfl) (by kernel_rfl) (by kernel_rfl) (by first | exact fun _ _ _ h => h | exact fun _ _ _ h => by cases h.1) (Rws.grow _) (Or.inl ⟨by rfl, ?_⟩) hS ?_
  rotate_left
  · intro w' hS'
    simp only [Rws] at hS'
    go_simp
    refine ⟨?_, Below.refl _ _⟩
    rfl
  (try simp only [Act.put, List.setIfInBounds_toArray, List.set_cons_zero, List.set_cons_succ])
  have rP' : row w7.drew (w.heap.size + 1 + 1 + 1) = (zeros 32 (Value.int .i64 0)).toArray := rP
  refine wpAnyR_store (i := 20) (b := w.heap.size + 1 + 1 + 1) (c := (i64s (timesL f h) ++ i64s (timesL i (plusL f (timesL c24 i)))).toArray) (by simp only [List.getElem?_toArray, List.getElem?_cons_succ, List.getElem?_cons_zero]; rfl) rfl rfl (by kernel_rfl) (by simp; (try omega)) hS (by rw [rP']; simp; (try omega)) (fun w1 hr => by rw [rP'] at hr; go_simp; (try rfl)) (fun u1 hu1 ru1 hS => ?_)
  have zu1 := hu1.size
  replace zu1 : w7.heap.size ≤ u1.heap.size := zu1
  have hb8 : Below w.heap.size w7 u1 := below_of (Below.trans (Below.drew (Below.refl _ _)) hu1) (Below.refl _ _) (by omega)
  obtain ⟨w8, hw8⟩ : ∃ v, u1.setRow (w.heap.size + 1 + 1 + 1) (i64s (timesL f h) ++ i64s (timesL i (plusL f (timesL c24 i)))).toArray = v := ⟨_, rfl⟩
  have rP8 : row w8 (w.heap.size + 1 + 1 + 1) = (i64s (timesL f h) ++ i64s (timesL i (plusL f (timesL c24 i)))).toArray := by
    rw [← hw8]
    exact row_setRow_same (by rw [ru1, rP']; simp) (by rw [ru1, rP']; simp [*])
  have rQ8 : row w8 (w.heap.size + 1 + 1 + 1 + 1) = (zeros 32 (Value.int .i64 0)).toArray := by
    rw [← hw8, row_setRow_other _ _ _ (by omega)]
    exact (row_below hu1 (show _ < w7.heap.size by omega)).trans rQ
  have zw8 : w7.heap.size ≤ w8.heap.size := by rw [← hw8]; simp; omega
  replace hb8 : Below w.heap.size w7 w8 := by rw [← hw8]; exact Below.setRow hb8 (by omega) _
  rw [hw8] at hS ⊢
  clear hw8 hu1 ru1
  refine wpAnyR_store (i := 21) (b := w.heap.size + 1 + 1 + 1 + 1) (c := (i64s (timesL s s) ++ i64s (timesL u (timesL d d))).toArray) (by simp only [List.getElem?_toArray, List.getElem?_cons_succ, List.getElem?_cons_zero]; rfl) rfl rfl (by kernel_rfl) (by simp; (try omega)) hS (by rw [rQ8]; simp; (try omega)) (fun w1 hr => by rw [rQ8] at hr; go_simp; (try rfl)) (fun u2 hu2 ru2 hS => ?_)
  have zu2 := hu2.size
  have hb9 : Below w.heap.size w7 u2 := Below.trans hb8 (hu2.mono (by omega))
  obtain ⟨w9, hw9⟩ : ∃ v, u2.setRow (w.heap.size + 1 + 1 + 1 + 1) (i64s (timesL s s) ++ i64s (timesL u (timesL d d))).toArray = v := ⟨_, rfl⟩
  have rQ9 : row w9 (w.heap.size + 1 + 1 + 1 + 1) = (i64s (timesL s s) ++ i64s (timesL u (timesL d d))).toArray := by
    rw [← hw9]
    exact row_setRow_same (by rw [ru2, rQ8]; simp) (by rw [ru2, rQ8]; simp [*])
  have rP9 : row w9 (w.heap.size + 1 + 1 + 1) = (i64s (timesL f h) ++ i64s (timesL i (plusL f (timesL c24 i)))).toArray := by
    rw [← hw9, row_setRow_other _ _ _ (by omega)]
    exact (row_below hu2 (by omega)).trans rP8
  have zw9 : w7.heap.size ≤ w9.heap.size := by rw [← hw9]; simp; omega
  replace hb9 : Below w.heap.size w7 w9 := by rw [← hw9]; exact Below.setRow hb9 (by omega) _
  rw [hw9] at hS ⊢
  clear hw9 hu2 ru2
  refine wpAnyR_done (by kernel_rfl) (fun wN hN => ?_) _
  replace rQ9 := (row_below hN (by omega)).trans rQ9
  replace rP9 := (row_below hN (by omega)).trans rP9
  replace hb9 : Below w.heap.size w7 wN := Below.trans hb9 (hN.mono (by omega))
  clear hS hN
  go_wp2_with fail
  (try simp only [Exit.inBlock, Exit.then])
  refine bodyPost_ret (results_2 rfl (resOk_row rfl ?_) (resOk_row rfl ?_)) rfl ?_
  · rw [rP9]; simp [*]
  · rw [rQ9]; simp [*]
  refine ⟨by rw [rP9, rQ9], ?_⟩
  exact Below.trans hb1 (Below.trans (hb2.mono (by omega)) (Below.trans (hb3.mono (by omega)) (Below.trans (hb4.mono (by omega)) (Below.trans (hb5.mono (by omega)) (Below.trans (hb6.mono (by omega)) (Below.trans (hb7.mono (by omega)) hb9))))))
end Go.Proofs.Ytohhiibgjcbpiaa
