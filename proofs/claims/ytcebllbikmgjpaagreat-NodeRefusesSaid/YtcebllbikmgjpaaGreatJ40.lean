/- Texts of this proof, merged: CurS, CurH, CurZ, CurC, CurG, CurJ. -/
import Derived.Test.YtcebllbikmgjpaaGreatJ39
import Derived.Test.YtcebllbikmgjpaaGreatRegJ
import Derived.Test.YtcebllbikmgjpaaGreatJ3
set_option linter.unusedSimpArgs false
set_option linter.unusedVariables false
set_option maxHeartbeats 8000000
set_option maxRecDepth 20000
namespace Go.Proofs.YtcebllbikmgjpaaGreat
section
open Go.RowKit
theorem plusL_length (xs ys : List Int) : (plusL xs ys).length = xs.length := upTo_length (plusF_length ys) _ _
theorem lessL_length (xs ys : List Int) : (lessL xs ys).length = xs.length := upTo_length (lessF_length ys) _ _
def c24 : List Int := [56129, 1, 0, 0, 0, 0, 0, 0, 0, 0, 0, 0, 0, 0, 0, 0]
def stepX (ax az : List Int) : List Int := timesL (timesL (plusL ax az) (plusL ax az)) (timesL (lessL ax az) (lessL ax az))
def stepI (ax az : List Int) : List Int := lessL (timesL (plusL ax az) (plusL ax az)) (timesL (lessL ax az) (lessL ax az))
def stepZ (ax az : List Int) : List Int := timesL (stepI ax az) (plusL (timesL (plusL ax az) (plusL ax az)) (timesL c24 (stepI ax az)))
def stepJ (ax az bx bz : List Int) : List Int := timesL (lessL bx bz) (plusL ax az)
def stepK (ax az bx bz : List Int) : List Int := timesL (plusL bx bz) (lessL ax az)
def stepU (ax az bx bz : List Int) : List Int := timesL (plusL (stepJ ax az bx bz) (stepK ax az bx bz)) (plusL (stepJ ax az bx bz) (stepK ax az bx bz))
def stepV (ax az bx bz u : List Int) : List Int := timesL u (timesL (lessL (stepJ ax az bx bz) (stepK ax az bx bz)) (lessL (stepJ ax az bx bz) (stepK ax az bx bz)))
theorem c24_cells : (Value.int .i64 56129 :: Value.int .i64 1 :: zeros 14 (Value.int .i64 0)) = i64s c24 := rfl
attribute [local irreducible] plusL lessL timesL upTo
theorem step_any (ax az bx bz u : List Int) (w : World) (hax : ax.length = 16) (haz : az.length = 16) (hbx : bx.length = 16) (hbz : bz.length = 16) (hu : u.length = 16) :
  Calls Tryz.prog 226 #[.agg (i64s ax ++ i64s az).toArray, .agg (i64s bx ++ i64s bz).toArray, .agg (i64s u).toArray] w fun e w' =>
   e = .returned (.tuple #[.agg (i64s (stepX ax az) ++ i64s (stepZ ax az)).toArray, .agg (i64s (stepU ax az bx bz) ++ i64s (stepV ax az bx bz u)).toArray]) ∧ Below w.heap.size w w' := by
 obtain ⟨e, he⟩ : ∃ l, plusL ax az = l := ⟨_, rfl⟩
 obtain ⟨g, hg⟩ : ∃ l, lessL ax az = l := ⟨_, rfl⟩
 have hel : e.length = 16 := by rw [← he, plusL_length, hax]
 have hgl : g.length = 16 := by rw [← hg, lessL_length, hax]
 obtain ⟨f, hf⟩ : ∃ l, timesL e e = l := ⟨_, rfl⟩
 obtain ⟨h, hh⟩ : ∃ l, timesL g g = l := ⟨_, rfl⟩
 have hfl : f.length = 16 := by rw [← hf, timesL_length]
 have hhl : h.length = 16 := by rw [← hh, timesL_length]
 obtain ⟨i, hi⟩ : ∃ l, lessL f h = l := ⟨_, rfl⟩
 have hil : i.length = 16 := by rw [← hi, lessL_length, hfl]
 obtain ⟨bm, hbm⟩ : ∃ l, lessL bx bz = l := ⟨_, rfl⟩
 obtain ⟨bp, hbp⟩ : ∃ l, plusL bx bz = l := ⟨_, rfl⟩
 have hbml : bm.length = 16 := by rw [← hbm, lessL_length, hbx]
 have hbpl : bp.length = 16 := by rw [← hbp, plusL_length, hbx]
 obtain ⟨j, hj'⟩ : ∃ l, timesL bm e = l := ⟨_, rfl⟩
 obtain ⟨k, hk⟩ : ∃ l, timesL bp g = l := ⟨_, rfl⟩
 have hjl : j.length = 16 := by rw [← hj', timesL_length]
 have hkl : k.length = 16 := by rw [← hk, timesL_length]
 obtain ⟨s, hs⟩ : ∃ l, plusL j k = l := ⟨_, rfl⟩
 obtain ⟨d, hd⟩ : ∃ l, lessL j k = l := ⟨_, rfl⟩
 have hsl : s.length = 16 := by rw [← hs, plusL_length, hjl]
 have hdl : d.length = 16 := by rw [← hd, lessL_length, hjl]
 have H1 := h_ (fun w => plus_any ax az w hax haz)
 have H2 := h_ (fun w => less_any ax az w hax haz)
 have H3 := h_ (fun w => times_any e e w hel hel)
 have H4 := h_ (fun w => times_any g g w hgl hgl)
 have H5 := h_ (fun w => less_any f h w hfl hhl)
 have H6 := h_ (fun w => less_any bx bz w hbx hbz)
 have H7 := h_ (fun w => times_any bm e w hbml hel)
 have H8 := h_ (fun w => plus_any bx bz w hbx hbz)
 have H9 := h_ (fun w => times_any bp g w hbpl hgl)
 have H10 := h_ (fun w => plus_any j k w hjl hkl)
 have H11 := h_ (fun w => less_any j k w hjl hkl)
 rw [he] at H1
 rw [hg] at H2
 rw [hf] at H3
 rw [hh] at H4
 rw [hi] at H5
 rw [hbm] at H6
 rw [hj'] at H7
 rw [hbp] at H8
 rw [hk] at H9
 rw [hs] at H10
 rw [hd] at H11
 have eX : stepX ax az = timesL f h := by rw [stepX, he, hg, hf, hh]
 have eI : stepI ax az = i := by rw [stepI, he, hg, hf, hh, hi]
 have eZ : stepZ ax az = timesL i (plusL f (timesL c24 i)) := by rw [stepZ, eI, he, hf]
 have eJ : stepJ ax az bx bz = j := by rw [stepJ, hbm, he, hj']
 have eK : stepK ax az bx bz = k := by rw [stepK, hbp, hg, hk]
 have eU : stepU ax az bx bz = timesL s s := by rw [stepU, eJ, eK, hs]
 have eV : stepV ax az bx bz u = timesL u (timesL d d) := by rw [stepV, eJ, eK, hd]
 rw [eX, eZ, eU, eV]
 clear he hg hf hh hi hbm hbp hj' hk hs hd eX eI eZ eJ eK eU eV
 go_enter Tryz.func226, Tryz.ntmps226
 go_wp2_with fail
 obtain ⟨w1, hw1⟩ : ∃ U, (((((w.alloc (.cells (i64s ax ++ i64s az).toArray 389)).alloc (.cells (i64s bx ++ i64s bz).toArray 389)).alloc (.cells (i64s u).toArray 386)).alloc (.cells (zeros 32 (Value.int .i64 0)).toArray 389)).alloc (.cells (zeros 32 (Value.int .i64 0)).toArray 389)) = U := ⟨_, rfl⟩
 have rA : row w1 w.heap.size = (i64s ax ++ i64s az).toArray := by rw [← hw1]; simp [go_sem]
 have rB : row w1 (w.heap.size + 1) = (i64s bx ++ i64s bz).toArray := by rw [← hw1]; simp [go_sem]
 have rU : row w1 (w.heap.size + 1 + 1) = (i64s u).toArray := by rw [← hw1]; simp [go_sem]
 have rP : row w1 (w.heap.size + 1 + 1 + 1) = (zeros 32 (Value.int .i64 0)).toArray := by rw [← hw1]; simp [go_sem]
 have rQ : row w1 (w.heap.size + 1 + 1 + 1 + 1) = (zeros 32 (Value.int .i64 0)).toArray := by rw [← hw1]; simp [go_sem]
 have z1 : w1.heap.size = w.heap.size + 1 + 1 + 1 + 1 + 1 := by rw [← hw1]; simp
 have hb1 : Below w.heap.size w w1 := by rw [← hw1]; (repeat (first | exact Below.refl _ _ | refine Below.al ?_ _ | refine Below.drew ?_ | refine Below.sr ?_ _ | refine Below.sc ?_ _))
 rw [hw1]
 clear hw1
 replace z1 : w.heap.size + 1 + 1 + 1 + 1 < w1.heap.size := by omega
 refine rgR_ [(w.heap.size, (i64s ax ++ i64s az).toArray)] (fun hS => ?_)
 refine qp 0 hS ?_
 refine qp 1 hS ?_
 refine qp 2 hS ?_
 refine qp 3 hS ?_
 refine qp 5 hS ?_
 refine qp 6 hS ?_
 refine qp 7 hS ?_
 refine qp 8 hS ?_
 refine qc 4 (v := ?_) hS ?_ ?_
 rotate_left
 ·
  intro w' hS'
  simp only [Rws] at hS'
  go_simp
  with_reducible refine (H1.out _).mono ?_
  rintro e w'' ⟨rfl, hb⟩
  exact ⟨_, rfl, by rfl, hb⟩
 refine qc 9 (v := ?_) hS ?_ ?_
 rotate_left
 ·
  intro w' hS'
  simp only [Rws] at hS'
  go_simp
  with_reducible refine (H2.out _).mono ?_
  rintro e w'' ⟨rfl, hb⟩
  exact ⟨_, rfl, by rfl, hb⟩
 refine wpAnyR_pair (i := 10) (j := 11) (k := 12) (m := 13) (zi := (zeros 16 (Value.int .i64 0)).toArray) (zj := (zeros 16 (Value.int .i64 0)).toArray) (cA := (i64s e).toArray) (cB := (i64s g).toArray) opt_ opt_ opt_ opt_ ⟨rfl, rfl, fun a w => by go_simp; (refine ⟨?_, ?_⟩ <;> rfl)⟩ ⟨rfl, rfl, fun a w => by go_simp; (refine ⟨?_, ?_⟩ <;> rfl)⟩ (by decide) (by decide) kr_ kr_ kr_ kr_ kr_ kr_ rfl rfl rfl rfl (by simp [*]) (by simp [*]) (by simp) (by simp) (by simp; (try omega)) (fun A B w1 hr => by
  simp only [Act.put, List.setIfInBounds_toArray, List.set_cons_zero, List.set_cons_succ, ptr]
  go_simp
  try rfl) (fun A B w1 hr => by
  simp only [Act.put, List.setIfInBounds_toArray, List.set_cons_zero, List.set_cons_succ, ptr]
  go_simp
  try rfl) hS (fun E G w2 gE gG nE zE zG hb2 rE rG => ?_)
 (try simp only [Act.put, List.setIfInBounds_toArray, List.set_cons_zero, List.set_cons_succ])
 replace gE : (w1).heap.size ≤ E := gE
 replace gG : (w1).heap.size ≤ G := gG
 replace hb2 : Below (w1).heap.size w1 w2 := Below.trans (Below.drew (Below.refl _ _)) hb2
 have zw2 := (hb2).size
 simp only [ptr]
 clear hS
 replace rB := (row_below hb2 (by omega)).trans rB
 replace rU := (row_below hb2 (by omega)).trans rU
 replace rP := (row_below hb2 (by omega)).trans rP
 replace rQ := (row_below hb2 (by omega)).trans rQ
 clear rA H1 H2
 go_wp2_with fail
 refine rgR_ [(E, (i64s e).toArray), (G, (i64s g).toArray)] (fun hS => ?_)
 refine qp 0 hS ?_
 refine qp 1 hS ?_
 refine qp 3 hS ?_
 refine qp 4 hS ?_
 refine qc 2 (v := ?_) hS ?_ ?_
 rotate_left
 ·
  intro w' hS'
  simp only [Rws] at hS'
  go_simp
  with_reducible refine (H3.out _).mono ?_
  rintro e w'' ⟨rfl, hb⟩
  exact ⟨_, rfl, by rfl, hb⟩
 refine qc 5 (v := ?_) hS ?_ ?_
 rotate_left
 ·
  intro w' hS'
  simp only [Rws] at hS'
  go_simp
  with_reducible refine (H4.out _).mono ?_
  rintro e w'' ⟨rfl, hb⟩
  exact ⟨_, rfl, by rfl, hb⟩
 refine wpAnyR_pair (i := 6) (j := 7) (k := 8) (m := 9) (zi := (zeros 16 (Value.int .i64 0)).toArray) (zj := (zeros 16 (Value.int .i64 0)).toArray) (cA := (i64s f).toArray) (cB := (i64s h).toArray) opt_ opt_ opt_ opt_ ⟨rfl, rfl, fun a w => by go_simp; (refine ⟨?_, ?_⟩ <;> rfl)⟩ ⟨rfl, rfl, fun a w => by go_simp; (refine ⟨?_, ?_⟩ <;> rfl)⟩ (by decide) (by decide) kr_ kr_ kr_ kr_ kr_ kr_ rfl rfl rfl rfl (by simp [*]) (by simp [*]) (by simp) (by simp) (by simp; (try omega)) (fun A B w1 hr => by
  simp only [Act.put, List.setIfInBounds_toArray, List.set_cons_zero, List.set_cons_succ, ptr]
  go_simp
  try rfl) (fun A B w1 hr => by
  simp only [Act.put, List.setIfInBounds_toArray, List.set_cons_zero, List.set_cons_succ, ptr]
  go_simp
  try rfl) hS (fun F H w3 gF gH nF zF zH hb3 rF rH => ?_)
 (try simp only [Act.put, List.setIfInBounds_toArray, List.set_cons_zero, List.set_cons_succ])
 replace gF : (w2).heap.size ≤ F := gF
 replace gH : (w2).heap.size ≤ H := gH
 replace hb3 : Below (w2).heap.size w2 w3 := Below.trans (Below.drew (Below.refl _ _)) hb3
 have zw3 := (hb3).size
 simp only [ptr]
 clear hS
 replace rB := (row_below hb3 (by omega)).trans rB
 replace rU := (row_below hb3 (by omega)).trans rU
 replace rP := (row_below hb3 (by omega)).trans rP
 replace rQ := (row_below hb3 (by omega)).trans rQ
 replace rE := (row_below hb3 (by omega)).trans rE
 replace rG := (row_below hb3 (by omega)).trans rG
 clear H3 H4
 go_wp2_with fail
 refine (H5.out _).mono ?_
 rintro e' w4 ⟨rfl, hb4⟩
 have zw4 := hb4.size
 replace rB := (row_below hb4 (by omega)).trans rB
 replace rU := (row_below hb4 (by omega)).trans rU
 replace rP := (row_below hb4 (by omega)).trans rP
 replace rQ := (row_below hb4 (by omega)).trans rQ
 replace rE := (row_below hb4 (by omega)).trans rE
 replace rG := (row_below hb4 (by omega)).trans rG
 replace rF := (row_below hb4 (by omega)).trans rF
 replace rH := (row_below hb4 (by omega)).trans rH
 clear H5
 go_wp2_with fail
 obtain ⟨w5, hw5⟩ : ∃ U, w4.alloc (.cells (i64s i).toArray 386) = U := ⟨_, rfl⟩
 obtain ⟨I, hI⟩ : ∃ n, w4.heap.size = n := ⟨_, rfl⟩
 have rI : row w5 I = (i64s i).toArray := by rw [← hw5, ← hI]; exact row_alloc_at _ _ _ rfl
 have zw5 : w5.heap.size = w4.heap.size + 1 := by rw [← hw5]; simp
 have hb5 : Below w4.heap.size w4 w5 := by rw [← hw5]; exact ba_
 rw [hw5, hI]
 clear hw5
 replace rB := (row_below hb5 (by omega)).trans rB
 replace rU := (row_below hb5 (by omega)).trans rU
 replace rP := (row_below hb5 (by omega)).trans rP
 replace rQ := (row_below hb5 (by omega)).trans rQ
 replace rE := (row_below hb5 (by omega)).trans rE
 replace rG := (row_below hb5 (by omega)).trans rG
 replace rF := (row_below hb5 (by omega)).trans rF
 replace rH := (row_below hb5 (by omega)).trans rH
 refine rgR_ [(w.heap.size + 1, (i64s bx ++ i64s bz).toArray), (E, (i64s e).toArray), (G, (i64s g).toArray)] (fun hS => ?_)
 refine qp 0 hS ?_
 refine qp 1 hS ?_
 refine qp 2 hS ?_
 refine qp 3 hS ?_
 refine qp 5 hS ?_
 refine qp 7 hS ?_
 refine qp 8 hS ?_
 refine qp 9 hS ?_
 refine qp 10 hS ?_
 refine qp 12 hS ?_
 refine qc 4 (v := ?_) hS ?_ ?_
 rotate_left
 ·
  intro w' hS'
  simp only [Rws] at hS'
  go_simp
  with_reducible refine (H6.out _).mono ?_
  rintro e w'' ⟨rfl, hb⟩
  exact ⟨_, rfl, by rfl, hb⟩
 refine qc 6 (v := ?_) hS ?_ ?_
 rotate_left
 ·
  intro w' hS'
  simp only [Rws] at hS'
  go_simp
  with_reducible refine (H7.out _).mono ?_
  rintro e w'' ⟨rfl, hb⟩
  exact ⟨_, rfl, by rfl, hb⟩
 refine qc 11 (v := ?_) hS ?_ ?_
 rotate_left
 ·
  intro w' hS'
  simp only [Rws] at hS'
  go_simp
  with_reducible refine (H8.out _).mono ?_
  rintro e w'' ⟨rfl, hb⟩
  exact ⟨_, rfl, by rfl, hb⟩
 refine qc 13 (v := ?_) hS ?_ ?_
 rotate_left
 ·
  intro w' hS'
  simp only [Rws] at hS'
  go_simp
  with_reducible refine (H9.out _).mono ?_
  rintro e w'' ⟨rfl, hb⟩
  exact ⟨_, rfl, by rfl, hb⟩
 refine wpAnyR_pair (i := 14) (j := 15) (k := 16) (m := 17) (zi := (zeros 16 (Value.int .i64 0)).toArray) (zj := (zeros 16 (Value.int .i64 0)).toArray) (cA := (i64s j).toArray) (cB := (i64s k).toArray) opt_ opt_ opt_ opt_ ⟨rfl, rfl, fun a w => by go_simp; (refine ⟨?_, ?_⟩ <;> rfl)⟩ ⟨rfl, rfl, fun a w => by go_simp; (refine ⟨?_, ?_⟩ <;> rfl)⟩ (by decide) (by decide) kr_ kr_ kr_ kr_ kr_ kr_ rfl rfl rfl rfl (by simp [*]) (by simp [*]) (by simp) (by simp) (by simp; (try omega)) (fun A B w1 hr => by
  simp only [Act.put, List.setIfInBounds_toArray, List.set_cons_zero, List.set_cons_succ, ptr]
  go_simp
  try rfl) (fun A B w1 hr => by
  simp only [Act.put, List.setIfInBounds_toArray, List.set_cons_zero, List.set_cons_succ, ptr]
  go_simp
  try rfl) hS (fun J K w6 gJ gK nJ zJ zK hb6 rJ rK => ?_)
 (try simp only [Act.put, List.setIfInBounds_toArray, List.set_cons_zero, List.set_cons_succ])
 replace gJ : (w5).heap.size ≤ J := gJ
 replace gK : (w5).heap.size ≤ K := gK
 replace hb6 : Below (w5).heap.size w5 w6 := Below.trans (Below.drew (Below.refl _ _)) hb6
 have zw6 := (hb6).size
 simp only [ptr]
 clear hS
 replace rU := (row_below hb6 (by omega)).trans rU
 replace rP := (row_below hb6 (by omega)).trans rP
 replace rQ := (row_below hb6 (by omega)).trans rQ
 replace rF := (row_below hb6 (by omega)).trans rF
 replace rH := (row_below hb6 (by omega)).trans rH
 replace rI := (row_below hb6 (by omega)).trans rI
 clear H6 H7 H8 H9 rB rE rG
 go_wp2_with fail
 refine rgR_ [(J, (i64s j).toArray), (K, (i64s k).toArray)] (fun hS => ?_)
 refine qp 0 hS ?_
 refine qp 1 hS ?_
 refine qp 3 hS ?_
 refine qp 4 hS ?_
 refine qc 2 (v := ?_) hS ?_ ?_
 rotate_left
 ·
  intro w' hS'
  simp only [Rws] at hS'
  go_simp
  with_reducible refine (H10.out _).mono ?_
  rintro e w'' ⟨rfl, hb⟩
  exact ⟨_, rfl, by rfl, hb⟩
 refine qc 5 (v := ?_) hS ?_ ?_
 rotate_left
 ·
  intro w' hS'
  simp only [Rws] at hS'
  go_simp
  with_reducible refine (H11.out _).mono ?_
  rintro e w'' ⟨rfl, hb⟩
  exact ⟨_, rfl, by rfl, hb⟩
 refine wpAnyR_pair (i := 6) (j := 7) (k := 8) (m := 9) (zi := (zeros 16 (Value.int .i64 0)).toArray) (zj := (zeros 16 (Value.int .i64 0)).toArray) (cA := (i64s s).toArray) (cB := (i64s d).toArray) opt_ opt_ opt_ opt_ ⟨rfl, rfl, fun a w => by go_simp; (refine ⟨?_, ?_⟩ <;> rfl)⟩ ⟨rfl, rfl, fun a w => by go_simp; (refine ⟨?_, ?_⟩ <;> rfl)⟩ (by decide) (by decide) kr_ kr_ kr_ kr_ kr_ kr_ rfl rfl rfl rfl (by simp [*]) (by simp [*]) (by simp) (by simp) (by simp; (try omega)) (fun A B w1 hr => by
  simp only [Act.put, List.setIfInBounds_toArray, List.set_cons_zero, List.set_cons_succ, ptr]
  go_simp
  try rfl) (fun A B w1 hr => by
  simp only [Act.put, List.setIfInBounds_toArray, List.set_cons_zero, List.set_cons_succ, ptr]
  go_simp
  try rfl) hS (fun S D w7 gS gD nS zS zD hb7 rS rD => ?_)
 (try simp only [Act.put, List.setIfInBounds_toArray, List.set_cons_zero, List.set_cons_succ])
 replace gS : (w6).heap.size ≤ S := gS
 replace gD : (w6).heap.size ≤ D := gD
 replace hb7 : Below (w6).heap.size w6 w7 := Below.trans (Below.drew (Below.refl _ _)) hb7
 have zw7 := (hb7).size
 simp only [ptr]
 clear hS
 replace rU := (row_below hb7 (by omega)).trans rU
 replace rP := (row_below hb7 (by omega)).trans rP
 replace rQ := (row_below hb7 (by omega)).trans rQ
 replace rF := (row_below hb7 (by omega)).trans rF
 replace rH := (row_below hb7 (by omega)).trans rH
 replace rI := (row_below hb7 (by omega)).trans rI
 clear H10 H11 rJ rK
 go_wp2_with fail
 refine rgR_ [(w.heap.size + 1 + 1, (i64s u).toArray), (F, (i64s f).toArray), (H, (i64s h).toArray), (I, (i64s i).toArray), (S, (i64s s).toArray), (D, (i64s d).toArray)] (fun hS => ?_)
 refine qp 0 hS ?_
 refine qp 1 hS ?_
 refine qp 3 hS ?_
 refine qp 4 hS ?_
 refine qp 5 hS ?_
 refine qp 6 hS ?_
 refine qp 11 hS ?_
 refine qp 12 hS ?_
 refine qp 14 hS ?_
 refine qp 15 hS ?_
 refine qp 16 hS ?_
 refine qc 2 (v := ?_) hS ?_ ?_
 rotate_left
 ·
  intro w' hS'
  simp only [Rws] at hS'
  go_simp
  with_reducible refine (times_any f h _ hfl hhl).mono ?_
  rintro e w'' ⟨rfl, hb⟩
  exact ⟨_, rfl, by rfl, hb⟩
 rw [c24_cells]
 refine qc 7 (v := ?_) hS ?_ ?_
 rotate_left
 ·
  intro w' hS'
  simp only [Rws] at hS'
  go_simp
  with_reducible refine (times_any c24 i _ rfl hil).mono ?_
  rintro e w'' ⟨rfl, hb⟩
  exact ⟨_, rfl, by rfl, hb⟩
 refine qc 8 (v := ?_) hS ?_ ?_
 rotate_left
 ·
  intro w' hS'
  simp only [Rws] at hS'
  go_simp
  with_reducible refine (plus_any f (timesL c24 i) _ hfl (timesL_length _ _)).mono ?_
  rintro e w'' ⟨rfl, hb⟩
  exact ⟨_, rfl, by rfl, hb⟩
 refine qc 9 (v := ?_) hS ?_ ?_
 rotate_left
 ·
  intro w' hS'
  simp only [Rws] at hS'
  go_simp
  with_reducible refine (times_any i (plusL f (timesL c24 i)) _ hil (by rw [plusL_length]; exact hfl)).mono ?_
  rintro e w'' ⟨rfl, hb⟩
  exact ⟨_, rfl, by rfl, hb⟩
 have q1 := timesL_length f h
 have q2 := timesL_length i (plusL f (timesL c24 i))
 have q3 := timesL_length s s
 have q4 := timesL_length u (timesL d d)
 refine qp 10 hS ?_
 refine qc 13 (v := ?_) hS ?_ ?_
 rotate_left
 ·
  intro w' hS'
  simp only [Rws] at hS'
  go_simp
  with_reducible refine (times_any s s _ hsl hsl).mono ?_
  rintro e w'' ⟨rfl, hb⟩
  exact ⟨_, rfl, by rfl, hb⟩
 refine qc 17 (v := ?_) hS ?_ ?_
 rotate_left
 ·
  intro w' hS'
  simp only [Rws] at hS'
  go_simp
  with_reducible refine (times_any d d _ hdl hdl).mono ?_
  rintro e w'' ⟨rfl, hb⟩
  exact ⟨_, rfl, by rfl, hb⟩
 refine qc 18 (v := ?_) hS ?_ ?_
 rotate_left
 ·
  intro w' hS'
  simp only [Rws] at hS'
  go_simp
  with_reducible refine (times_any u (timesL d d) _ hu (timesL_length _ _)).mono ?_
  rintro e w'' ⟨rfl, hb⟩
  exact ⟨_, rfl, by rfl, hb⟩
 refine qp 19 hS ?_
 have rP' : row w7.drew (w.heap.size + 1 + 1 + 1) = (zeros 32 (Value.int .i64 0)).toArray := rP
 refine wpAnyR_store (i := 20) (b := w.heap.size + 1 + 1 + 1) (c := (i64s (timesL f h) ++ i64s (timesL i (plusL f (timesL c24 i)))).toArray) opt_ rfl rfl kr_ (by simp; (try omega)) hS (by rw [rP']; simp; (try omega)) (fun w1 hr => by rw [rP'] at hr; go_simp; (try rfl)) (fun u1 hu1 ru1 hS => ?_)
 have zu1 := hu1.size
 replace zu1 : w7.heap.size ≤ u1.heap.size := zu1
 have hb8 : Below w.heap.size w7 u1 := below_of (Below.trans (Below.drew (Below.refl _ _)) hu1) (Below.refl _ _) (by omega)
 obtain ⟨w8, hw8⟩ : ∃ v, u1.setRow (w.heap.size + 1 + 1 + 1) (i64s (timesL f h) ++ i64s (timesL i (plusL f (timesL c24 i)))).toArray = v := ⟨_, rfl⟩
 have rP8 : row w8 (w.heap.size + 1 + 1 + 1) = (i64s (timesL f h) ++ i64s (timesL i (plusL f (timesL c24 i)))).toArray := by
  rw [← hw8]
  exact row_setRow_same (by rw [ru1, rP']; simp) (by rw [ru1, rP']; simp [*])
 have rQ8 : row w8 (w.heap.size + 1 + 1 + 1 + 1) = (zeros 32 (Value.int .i64 0)).toArray := by
  rw [← hw8, row_setRow_other _ _ _ (by omega)]
  exact (row_below hu1 (show _ < w7.heap.size by omega)).trans rQ
 have zw8 : w7.heap.size ≤ w8.heap.size := by rw [← hw8]; simp; omega
 replace hb8 : Below w.heap.size w7 w8 := by rw [← hw8]; exact Below.setRow hb8 (by omega) _
 rw [hw8] at hS ⊢
 clear hw8 hu1 ru1
 refine wpAnyR_store (i := 21) (b := w.heap.size + 1 + 1 + 1 + 1) (c := (i64s (timesL s s) ++ i64s (timesL u (timesL d d))).toArray) opt_ rfl rfl kr_ (by simp; (try omega)) hS (by rw [rQ8]; simp; (try omega)) (fun w1 hr => by rw [rQ8] at hr; go_simp; (try rfl)) (fun u2 hu2 ru2 hS => ?_)
 have zu2 := hu2.size
 have hb9 : Below w.heap.size w7 u2 := Below.trans hb8 (hu2.mono (by omega))
 obtain ⟨w9, hw9⟩ : ∃ v, u2.setRow (w.heap.size + 1 + 1 + 1 + 1) (i64s (timesL s s) ++ i64s (timesL u (timesL d d))).toArray = v := ⟨_, rfl⟩
 have rQ9 : row w9 (w.heap.size + 1 + 1 + 1 + 1) = (i64s (timesL s s) ++ i64s (timesL u (timesL d d))).toArray := by
  rw [← hw9]
  exact row_setRow_same (by rw [ru2, rQ8]; simp) (by rw [ru2, rQ8]; simp [*])
 have rP9 : row w9 (w.heap.size + 1 + 1 + 1) = (i64s (timesL f h) ++ i64s (timesL i (plusL f (timesL c24 i)))).toArray := by
  rw [← hw9, row_setRow_other _ _ _ (by omega)]
  exact (row_below hu2 (by omega)).trans rP8
 have zw9 : w7.heap.size ≤ w9.heap.size := by rw [← hw9]; simp; omega
 replace hb9 : Below w.heap.size w7 w9 := by rw [← hw9]; exact Below.setRow hb9 (by omega) _
 rw [hw9] at hS ⊢
 clear hw9 hu2 ru2
 refine wpAnyR_done kr_ (fun wN hN => ?_) _
 replace rQ9 := (row_below hN (by omega)).trans rQ9
 replace rP9 := (row_below hN (by omega)).trans rP9
 replace hb9 : Below w.heap.size w7 wN := Below.trans hb9 (hN.mono (by omega))
 clear hS hN
 go_wp2_with fail
 (try simp only [Exit.inBlock, Exit.then])
 refine bodyPost_ret (results_2 rfl (resOk_row rfl ?_) (resOk_row rfl ?_)) rfl ?_
 ·
  rw [rP9]; simp [*]
 ·
  rw [rQ9]; simp [*]
 refine ⟨by rw [rP9, rQ9], ?_⟩
 exact Below.trans hb1 (Below.trans (hb2.mono (by omega)) (Below.trans (hb3.mono (by omega)) (Below.trans (hb4.mono (by omega)) (Below.trans (hb5.mono (by omega)) (Below.trans (hb6.mono (by omega)) (Below.trans (hb7.mono (by omega)) hb9))))))
end
section
open Go.RowKit
def oneL : List Int := [1, 0, 0, 0, 0, 0, 0, 0, 0, 0, 0, 0, 0, 0, 0, 0]
def zeroL : List Int := List.replicate 16 0
theorem one_cells : (Value.int .i64 1 :: (zeros 16 (Value.int .i64 0)).tail) = i64s oneL := rfl
theorem onezero_cells : (Value.int .i64 1 :: ((zeros 16 (Value.int .i64 0)).tail ++ zeros 16 (Value.int .i64 0))) = i64s oneL ++ i64s zeroL := rfl
theorem oneL_length : oneL.length = 16 := rfl
theorem zeroL_length : zeroL.length = 16 := rfl
structure Lad where
 ax : List Int
 az : List Int
 bx : List Int
 bz : List Int
def Lad.swap (s : Lad) : Lad := ⟨s.bx, s.bz, s.ax, s.az⟩
def Lad.step (s : Lad) (u : List Int) : Lad := ⟨stepX s.ax s.az, stepZ s.ax s.az, stepU s.ax s.az s.bx s.bz, stepV s.ax s.az s.bx s.bz u⟩
def Lad.ok (s : Lad) : Prop := s.ax.length = 16 ∧ s.az.length = 16 ∧ s.bx.length = 16 ∧ s.bz.length = 16
def bitN (n : List UInt8) (i : Nat) : Bool := (n.getD (i / 8) 0).toNat / 2 ^ (i % 8) % 2 == 1
def ladF (n : List UInt8) (u : List Int) (k : Nat) (s : Lad) : Lad := if bitN n (254 - k) then (s.swap.step u).swap else s.step u
def lad0 (u : List Int) : Lad := ⟨oneL, zeroL, u, oneL⟩
def ladL (n : List UInt8) (u : List Int) : Lad := upTo (ladF n u) 255 (lad0 u)
def sharedK (n u : List UInt8) : List UInt8 := keyL (timesL (ladL (clampL n) (ofL u)).ax (invL (ladL (clampL n) (ofL u)).az))
theorem sharedK_length (n u : List UInt8) : (sharedK n u).length = 32 := keyL_length _
attribute [local irreducible] timesL in
theorem Lad.step_ok (s : Lad) (u : List Int) : (s.step u).ok :=
 ⟨by show (stepX _ _).length = 16; unfold stepX; exact timesL_length _ _, by show (stepZ _ _).length = 16; unfold stepZ; exact timesL_length _ _, by show (stepU _ _ _ _).length = 16; unfold stepU; exact timesL_length _ _, by show (stepV _ _ _ _ _).length = 16; unfold stepV; exact timesL_length _ _⟩
theorem Lad.swap_ok {s : Lad} (h : s.ok) : s.swap.ok := ⟨h.2.2.1, h.2.2.2, h.1, h.2.1⟩
theorem ladF_ok (n : List UInt8) (u : List Int) (k : Nat) (s : Lad) : (ladF n u k s).ok := by
 unfold ladF
 split
 ·
  exact Lad.swap_ok (Lad.step_ok _ _)
 ·
  exact Lad.step_ok _ _
theorem upTo_ok {f : Nat → Lad → Lad} (hf : ∀ k s, (f k s).ok) (k : Nat) (s : Lad) (hs : s.ok) : (upTo f k s).ok := by
 cases k with
 | zero => exact hs
 | succ k => exact hf _ _
theorem bit_and (b : UInt8) (r : Nat) (hr : r < 8) : bits .and .u8 ((b.toNat : Int) / 2 ^ r) 1 = if (b.toNat / 2 ^ r % 2 == 1) = true then 1 else 0 := by
 have h1 : ∀ r : Fin 8, ∀ b : Fin 256, bits .and .u8 (((b.val : Nat) : Int) / 2 ^ r.val) 1 = if (b.val / 2 ^ r.val % 2 == 1) = true then 1 else 0 := by decide +kernel
 exact h1 ⟨r, hr⟩ ⟨b.toNat, b.toNat_lt⟩
attribute [local irreducible] keyL timesL ofL invL upTo stepX stepZ stepU stepV
theorem shared_any (n u : List UInt8) (w : World) (hn : n.length = 32) (hu : u.length = 32) :
  Calls Tryz.prog 196 #[.agg (u8s n).toArray, .agg (u8s u).toArray] w fun e w' => e = .returned (.agg (u8s (sharedK n u)).toArray) ∧ Below w.heap.size w w' := by
 obtain ⟨c, hc⟩ : ∃ c, clampL n = c := ⟨_, rfl⟩
 obtain ⟨o, ho⟩ : ∃ o, ofL u = o := ⟨_, rfl⟩
 have hcl : c.length = 32 := by rw [← hc, clampL_length, hn]
 have hol : o.length = 16 := by rw [← ho, ofL_length]
 have HC := h_ (fun w => clamp_any n w hn)
 have HO := h_ (fun w => of_any u w hu)
 have hk : sharedK n u = keyL (timesL (ladL c o).ax (invL (ladL c o).az)) := by rw [sharedK, hc, ho]
 rw [hc] at HC
 rw [ho] at HO
 rw [hk]
 clear hk hc ho
 go_enter Tryz.func196, Tryz.ntmps196
 go_wp2_with fail
 obtain ⟨w1, hw1⟩ : ∃ U, (((w.alloc (.cells (u8s n).toArray 28)).alloc (.cells (u8s u).toArray 28)).alloc (.cells (zeros 32 (Value.int .u8 0)).toArray 28)) = U := ⟨_, rfl⟩
 have rn : row w1 w.heap.size = (u8s n).toArray := by rw [← hw1]; simp [go_sem]
 have ru : row w1 (w.heap.size + 1) = (u8s u).toArray := by rw [← hw1]; simp [go_sem]
 have rR : row w1 (w.heap.size + 1 + 1) = (zeros 32 (Value.int .u8 0)).toArray := by rw [← hw1]; simp [go_sem]
 have z1 : w1.heap.size = w.heap.size + 1 + 1 + 1 := by rw [← hw1]; simp
 have hb1 : Below w.heap.size w w1 := by rw [← hw1]; (repeat (first | exact Below.refl _ _ | refine Below.al ?_ _ | refine Below.drew ?_ | refine Below.sr ?_ _ | refine Below.sc ?_ _))
 rw [hw1]
 clear hw1
 replace z1 : w.heap.size + 1 + 1 < w1.heap.size := by omega
 refine rgR_ [(w.heap.size, (u8s n).toArray), (w.heap.size + 1, (u8s u).toArray)] (fun hS => ?_)
 refine qp 0 hS ?_
 refine qp 2 hS ?_
 refine qc 1 (v := ?_) hS ?_ ?_
 rotate_left
 ·
  intro w' hS'
  simp only [Rws] at hS'
  go_simp
  with_reducible refine (HC.out _).mono ?_
  rintro e w'' ⟨rfl, hb⟩
  exact ⟨_, rfl, by rfl, hb⟩
 refine qc 3 (v := ?_) hS ?_ ?_
 rotate_left
 ·
  intro w' hS'
  simp only [Rws] at hS'
  go_simp
  with_reducible refine (HO.out _).mono ?_
  rintro e w'' ⟨rfl, hb⟩
  exact ⟨_, rfl, by rfl, hb⟩
 refine wpAnyR_pair (i := 4) (j := 5) (k := 6) (m := 7) (zi := (zeros 32 (Value.int .u8 0)).toArray) (zj := (zeros 16 (Value.int .i64 0)).toArray) (cA := (u8s c).toArray) (cB := (i64s o).toArray) opt_ opt_ opt_ opt_ ⟨rfl, rfl, fun a w => by go_simp; (refine ⟨?_, ?_⟩ <;> rfl)⟩ ⟨rfl, rfl, fun a w => by go_simp; (refine ⟨?_, ?_⟩ <;> rfl)⟩ (by decide) (by decide) kr_ kr_ kr_ kr_ kr_ kr_ rfl rfl rfl rfl (by simp [*]) (by simp [*]) (by simp) (by simp) (by simp; (try omega)) (fun A B w1 hr => by
  simp only [Act.put, List.setIfInBounds_toArray, List.set_cons_zero, List.set_cons_succ, ptr]
  go_simp
  try rfl) (fun A B w1 hr => by
  simp only [Act.put, List.setIfInBounds_toArray, List.set_cons_zero, List.set_cons_succ, ptr]
  go_simp
  try rfl) hS (fun N U w2 gN gU nN zN zU hb2 rN rU => ?_)
 (try simp only [Act.put, List.setIfInBounds_toArray, List.set_cons_zero, List.set_cons_succ])
 replace gN : (w1).heap.size ≤ N := gN
 replace gU : (w1).heap.size ≤ U := gU
 replace hb2 : Below (w1).heap.size w1 w2 := Below.trans (Below.drew (Below.refl _ _)) hb2
 have zw2 := (hb2).size
 simp only [ptr]
 clear hS
 replace rR := (row_below hb2 (by omega)).trans rR
 clear rn ru HC HO
 go_wp2_with fail
 refine rgR_ [(U, (i64s o).toArray)] (fun hS => ?_)
 refine qp 0 hS ?_
 refine qp 1 hS ?_
 refine qp 2 hS ?_
 refine qp 3 hS ?_
 have q1 := oneL_length
 have q2 := zeroL_length
 rw [onezero_cells, one_cells]
 refine qp 4 hS ?_
 refine wpAnyR_pair (i := 5) (j := 6) (k := 7) (m := 8) (zi := (zeros 32 (Value.int .i64 0)).toArray) (zj := (zeros 32 (Value.int .i64 0)).toArray) (cA := (i64s oneL ++ i64s zeroL).toArray) (cB := (i64s o ++ i64s oneL).toArray) opt_ opt_ opt_ opt_ ⟨rfl, rfl, fun a w => by go_simp; (refine ⟨?_, ?_⟩ <;> rfl)⟩ ⟨rfl, rfl, fun a w => by go_simp; (refine ⟨?_, ?_⟩ <;> rfl)⟩ (by decide) (by decide) kr_ kr_ kr_ kr_ kr_ kr_ rfl rfl rfl rfl (by simp [*]) (by simp [*]) (by simp) (by simp) (by simp; (try omega)) (fun A B w1 hr => by
  simp only [Act.put, List.setIfInBounds_toArray, List.set_cons_zero, List.set_cons_succ, ptr]
  go_simp
  try rfl) (fun A B w1 hr => by
  simp only [Act.put, List.setIfInBounds_toArray, List.set_cons_zero, List.set_cons_succ, ptr]
  go_simp
  try rfl) hS (fun A B w3 gA gB nA zA zB hb3 rA rB => ?_)
 (try simp only [Act.put, List.setIfInBounds_toArray, List.set_cons_zero, List.set_cons_succ])
 replace gA : (w2).heap.size ≤ A := gA
 replace gB : (w2).heap.size ≤ B := gB
 replace hb3 : Below (w2).heap.size w2 w3 := Below.trans (Below.drew (Below.refl _ _)) hb3
 have zw3 := (hb3).size
 simp only [ptr]
 clear hS
 replace rR := (row_below hb3 (by omega)).trans rR
 replace rN := (row_below hb3 (by omega)).trans rN
 replace rU := (row_below hb3 (by omega)).trans rU
 have hb : Below w.heap.size w w3 := Below.trans hb1 (Below.trans (hb2.mono (by omega)) (hb3.mono (by omega)))
 clear hb1 hb2 hb3
 go_wp2_with fail
 go_loopw [9] (fun i wr => ∃ k : Nat, k ≤ 255 ∧ i = .int .i64 (254 - (k : Int)) ∧ row wr A = (i64s (upTo (ladF c o) k (lad0 o)).ax ++ i64s (upTo (ladF c o) k (lad0 o)).az).toArray ∧ row wr B = (i64s (upTo (ladF c o) k (lad0 o)).bx ++ i64s (upTo (ladF c o) k (lad0 o)).bz).toArray ∧ row wr N = (u8s c).toArray ∧ row wr U = (i64s o).toArray ∧ row wr (w.heap.size + 1 + 1) = (zeros 32 (Value.int .u8 0)).toArray ∧ w3.heap.size ≤ wr.heap.size ∧ Below w.heap.size w wr) (fun i _ => (intOf i + 1).toNat)
 case atStart =>
  refine ⟨0, by omega, rfl, ?_, ?_, rN, rU, rR, Nat.le_refl _, hb⟩
  ·
   rw [upTo]; exact rA
  ·
   rw [upTo]; exact rB
 case round =>
  clear rA rB rN rU rR hb
  obtain ⟨k, hk, rfl, rA, rB, rN, rU, rR, zr, hb⟩ := hrel
  obtain ⟨L, hL⟩ : ∃ L, upTo (ladF c o) k (lad0 o) = L := ⟨_, rfl⟩
  have hLo : L.ok := by rw [← hL]; exact upTo_ok (ladF_ok c o) k _ ⟨oneL_length, zeroL_length, hol, oneL_length⟩
  obtain ⟨ax, az, bx, bz⟩ := L
  obtain ⟨l1, l2, l3, l4⟩ := hLo
  rw [hL] at rA rB
  simp only at l1 l2 l3 l4 rA rB
  have HL := h_ hL
  clear hL
  have q3 : A < wr.heap.size := by omega
  have q4 : B < wr.heap.size := by omega
  have q5 : N < wr.heap.size := by omega
  have q6 : U < wr.heap.size := by omega
  by_cases hlt : k < 255
  ·
   obtain ⟨m, hm⟩ : ∃ m, m + k = 254 := ⟨254 - k, by omega⟩
   have e0 : (254 - (k : Int)) = (m : Int) := by omega
   rw [e0]
   have hm1 : m ≤ 254 := by omega
   have hm2 : (m : Int) ≤ 254 := by omega
   obtain ⟨q, hq⟩ : ∃ q, m / 8 = q := ⟨_, rfl⟩
   obtain ⟨r, hr⟩ : ∃ r, m % 8 = r := ⟨_, rfl⟩
   have e1 : (m : Int) / 8 = (q : Int) := by omega
   have e2 : (m : Int) % 8 = (r : Int) := by omega
   have h8 : q < c.length := by omega
   have h9 : q < 32 := by omega
   have h10 : (q : Int) < 32 := by omega
   have h11 : r < 8 := by omega
   have HQ := h_ hq
   have HR := h_ hr
   clear hq hr
   have HM := h_ hm
   clear e0 hm
   have n1 : B ≠ A := Ne.symm nA
   have n2 : N ≠ A := by omega
   have n3 : N ≠ B := by omega
   have n4 : U ≠ A := by omega
   have n5 : U ≠ B := by omega
   have n6 : w.heap.size + 1 + 1 ≠ A := by omega
   have n7 : w.heap.size + 1 + 1 ≠ B := by omega
   have hbit := bit_and c[q] r h11
   have hbn : bitN c (254 - k) = (c[q].toNat / 2 ^ r % 2 == 1) := by
    rw [show 254 - k = m by have := HM.out; omega, bitN, HQ.out, HR.out]
    simp [List.getD_eq_getElem?_getD, h8]
   by_cases hc : (c[q].toNat / 2 ^ r % 2 == 1) = true
   ·
    rw [if_pos hc] at hbit
    have hF : upTo (ladF c o) (k + 1) (lad0 o) = ((Lad.mk bx bz ax az).step o).swap := by rw [upTo, HL.out, ladF, hbn, if_pos hc]; rfl
    have HF := h_ hF
    clear hF hbn hc
    obtain ⟨W, hW⟩ : ∃ W, (wr.setRow A (i64s bx ++ i64s bz).toArray).setRow B (i64s ax ++ i64s az).toArray = W := ⟨_, rfl⟩
    obtain ⟨f1, f2, f3, f4, f5, f6⟩ := set2 hW nA (by rw [rA]; simp; omega) (by rw [rB]; simp; omega) (by simp; omega) (by simp; omega)
    rw [rB] at f1
    have g1 := (f4 U n4 n5).trans rU
    have g2 := (f4 N n2 n3).trans rN
    have g3 := (f4 _ n6 n7).trans rR
    replace f6 := Below.trans hb (f6 _ (by omega) (by omega))
    clear f4
    go_wp2_with fail
    clear hW f1 rA rB rU rN rR hb hbit
    refine (step_any bx bz ax az o _ l3 l4 l1 l2 hol).mono ?_
    rintro e w5 ⟨rfl, hb5⟩
    have zw5 := hb5.size
    obtain ⟨sx, hsx⟩ : ∃ l, stepX bx bz = l := ⟨_, rfl⟩
    obtain ⟨sz, hsz⟩ : ∃ l, stepZ bx bz = l := ⟨_, rfl⟩
    obtain ⟨su, hsu⟩ : ∃ l, stepU bx bz ax az = l := ⟨_, rfl⟩
    obtain ⟨sv, hsv⟩ : ∃ l, stepV bx bz ax az o = l := ⟨_, rfl⟩
    have hso := Lad.step_ok (Lad.mk bx bz ax az) o
    have hst : (Lad.mk bx bz ax az).step o = ⟨sx, sz, su, sv⟩ := by rw [Lad.step, hsx, hsz, hsu, hsv]
    rw [hst] at hso
    obtain ⟨m1, m2, m3, m4⟩ := hso
    simp only at m1 m2 m3 m4
    replace HF := h_ (HF.out.trans (hst ▸ rfl : _ = (Lad.mk sx sz su sv).swap))
    rw [hsx, hsz, hsu, hsv]
    clear hsx hsz hsu hsv hst
    have rA5 := (row_below hb5 (by omega)).trans f2
    have rB5 := (row_below hb5 (by omega)).trans f3
    have rU5 := (row_below hb5 (by omega)).trans g1
    have rN5 := (row_below hb5 (by omega)).trans g2
    have rR5 := (row_below hb5 (by omega)).trans g3
    replace hb5 := Below.trans f6 (hb5.mono (by omega))
    clear f2 f3 g1 g2 g3 f6
    obtain ⟨W6, hW6⟩ : ∃ W, (w5.setRow A (i64s sx ++ i64s sz).toArray).setRow B (i64s su ++ i64s sv).toArray = W := ⟨_, rfl⟩
    obtain ⟨p1, p2, p3, p4, p5, p6⟩ := set2 hW6 nA (by rw [rA5]; simp; omega) (by rw [rB5]; simp; omega) (by simp; omega) (by simp; omega)
    rw [rB5] at p1
    have k1 := (p4 U n4 n5).trans rU5
    have k2 := (p4 N n2 n3).trans rN5
    have k3 := (p4 _ n6 n7).trans rR5
    replace p6 := Below.trans hb5 (p6 _ (by omega) (by omega))
    clear p4
    obtain ⟨W7, hW7⟩ : ∃ W, (W6.setRow A (i64s su ++ i64s sv).toArray).setRow B (i64s sx ++ i64s sz).toArray = W := ⟨_, rfl⟩
    obtain ⟨s1, s2, s3, s4, s5, s6⟩ := set2 hW7 nA (by rw [p2]; simp; omega) (by rw [p3]; simp; omega) (by simp; omega) (by simp; omega)
    rw [p3] at s1
    have t1 := (s4 U n4 n5).trans k1
    have t2 := (s4 N n2 n3).trans k2
    have t3 := (s4 _ n6 n7).trans k3
    replace s6 := Below.trans p6 (s6 _ (by omega) (by omega))
    clear s4
    go_wp2_with fail
    go_roundw
    case rel =>
     refine ⟨k + 1, by omega, ?_, ?_, ?_, t2, t1, t3, by omega, s6⟩
     ·
      have := HM.out
      congr 1
      omega
     ·
      rw [s2, HF.out]; rfl
     ·
      rw [s3, HF.out]; rfl
    case measure => have := HM.out; simp [intOf]; (try omega)
   ·
    rw [if_neg hc] at hbit
    have hF : upTo (ladF c o) (k + 1) (lad0 o) = (Lad.mk ax az bx bz).step o := by rw [upTo, HL.out, ladF, hbn, if_neg hc]
    have HF := h_ hF
    clear hF hbn hc
    go_wp2_with fail
    refine (step_any ax az bx bz o _ l1 l2 l3 l4 hol).mono ?_
    rintro e w5 ⟨rfl, hb5⟩
    have zw5 := hb5.size
    obtain ⟨sx, hsx⟩ : ∃ l, stepX ax az = l := ⟨_, rfl⟩
    obtain ⟨sz, hsz⟩ : ∃ l, stepZ ax az = l := ⟨_, rfl⟩
    obtain ⟨su, hsu⟩ : ∃ l, stepU ax az bx bz = l := ⟨_, rfl⟩
    obtain ⟨sv, hsv⟩ : ∃ l, stepV ax az bx bz o = l := ⟨_, rfl⟩
    have hso := Lad.step_ok (Lad.mk ax az bx bz) o
    have hst : (Lad.mk ax az bx bz).step o = ⟨sx, sz, su, sv⟩ := by rw [Lad.step, hsx, hsz, hsu, hsv]
    rw [hst] at hso
    obtain ⟨m1, m2, m3, m4⟩ := hso
    simp only at m1 m2 m3 m4
    replace HF := h_ (HF.out.trans (hst ▸ rfl : _ = (Lad.mk sx sz su sv)))
    rw [hsx, hsz, hsu, hsv]
    clear hsx hsz hsu hsv hst
    have rA5 := (row_below hb5 (by omega)).trans rA
    have rB5 := (row_below hb5 (by omega)).trans rB
    have rU5 := (row_below hb5 (by omega)).trans rU
    have rN5 := (row_below hb5 (by omega)).trans rN
    have rR5 := (row_below hb5 (by omega)).trans rR
    replace hb5 := Below.trans hb (hb5.mono (by omega))
    clear rA rB rU rN rR hb hbit
    obtain ⟨W6, hW6⟩ : ∃ W, (w5.setRow A (i64s sx ++ i64s sz).toArray).setRow B (i64s su ++ i64s sv).toArray = W := ⟨_, rfl⟩
    obtain ⟨p1, p2, p3, p4, p5, p6⟩ := set2 hW6 nA (by rw [rA5]; simp; omega) (by rw [rB5]; simp; omega) (by simp; omega) (by simp; omega)
    rw [rB5] at p1
    have k1 := (p4 U n4 n5).trans rU5
    have k2 := (p4 N n2 n3).trans rN5
    have k3 := (p4 _ n6 n7).trans rR5
    replace p6 := Below.trans hb5 (p6 _ (by omega) (by omega))
    clear p4
    go_wp2_with fail
    go_roundw
    case rel =>
     refine ⟨k + 1, by omega, ?_, ?_, ?_, k2, k1, k3, by omega, p6⟩
     ·
      have := HM.out
      congr 1
      omega
     ·
      rw [p2, HF.out]
     ·
      rw [p3, HF.out]
    case measure => have := HM.out; simp [intOf]; (try omega)
  ·
   obtain rfl : k = 255 := by omega
   have hLL : ladL c o = ⟨ax, az, bx, bz⟩ := HL.out
   have HLL := h_ hLL
   have e0 : (254 - ((255 : Nat) : Int)) = -1 := rfl
   rw [e0]
   clear e0 hLL HL hlt hk
   have hkl := keyL_length (timesL ax (invL az))
   go_wp2_with fail
   refine rgR_ [(A, (i64s ax ++ i64s az).toArray)] (fun hS => ?_)
   refine qp 0 hS ?_
   refine qp 1 hS ?_
   refine qp 2 hS ?_
   refine qp 3 hS ?_
   refine qc 4 (v := ?_) hS ?_ ?_
   rotate_left
   ·
    intro w' hS'
    simp only [Rws] at hS'
    go_simp
    with_reducible refine (inverse_any az _ l2).mono ?_
    rintro e w'' ⟨rfl, hb⟩
    exact ⟨_, rfl, by rfl, hb⟩
   refine qc 5 (v := ?_) hS ?_ ?_
   rotate_left
   ·
    intro w' hS'
    simp only [Rws] at hS'
    go_simp
    with_reducible refine (times_any ax (invL az) _ l1 (invL_length az l2)).mono ?_
    rintro e w'' ⟨rfl, hb⟩
    exact ⟨_, rfl, by rfl, hb⟩
   refine qc 6 (v := ?_) hS ?_ ?_
   rotate_left
   ·
    intro w' hS'
    simp only [Rws] at hS'
    go_simp
    with_reducible refine (key_any (timesL ax (invL az)) _ (timesL_length _ _)).mono ?_
    rintro e w'' ⟨rfl, hb⟩
    exact ⟨_, rfl, by rfl, hb⟩
   have rR' : row wr.drew (w.heap.size + 1 + 1) = (zeros 32 (Value.int .u8 0)).toArray := rR
   refine wpAnyR_store (i := 7) (b := w.heap.size + 1 + 1) (c := (u8s (keyL (timesL ax (invL az)))).toArray) opt_ rfl rfl kr_ (by simp; (try omega)) hS (by rw [rR']; simp; (try omega)) (fun w1 hr => by rw [rR'] at hr; go_simp; (try rfl)) (fun u1 hu1 ru1 hS => ?_)
   refine wpAnyR_done kr_ (fun wN hN => ?_) _
   have z9 := hu1.size
   replace z9 : wr.heap.size ≤ u1.heap.size := z9
   have hfin : row wN (w.heap.size + 1 + 1) = (u8s (keyL (timesL ax (invL az)))).toArray := by
    rw [row_below hN (by simp; omega)]
    exact row_setRow_same (by rw [ru1, rR']; simp) (by rw [ru1, rR']; simp [hkl])
   have hbN : Below w.heap.size w wN := Below.trans hb (Below.trans (Below.trans (Below.drew (Below.refl _ _)) (hu1.mono (by simp; omega))) (Below.trans (Below.setRow (Below.refl _ _) (show w.heap.size ≤ w.heap.size + 1 + 1 by omega) _) (hN.mono (by simp; omega))))
   clear hS hN
   go_wp2_with fail
   (try simp only [Exit.inBlock, Exit.then])
   refine bodyPost_ret (results_1 rfl (resOk_row rfl ?_)) rfl ?_
   ·
    rw [hfin]; simp [hkl]
   refine ⟨by rw [hfin, HLL.out], hbN⟩
theorem sharedK9_length (n : List UInt8) : (sharedK n (9 :: List.replicate 31 0)).length = 32 := keyL_length _
theorem public_any (n : List UInt8) (w : World) (hn : n.length = 32) :
  Calls Tryz.prog 151 #[.agg (u8s n).toArray] w fun e w' => e = .returned (.agg (u8s (sharedK n (9 :: List.replicate 31 0))).toArray) ∧ Below w.heap.size w w' := by
 have HS := h_ (fun w => shared_any n (9 :: List.replicate 31 0) w hn rfl)
 obtain ⟨k, hk⟩ : ∃ k, sharedK n (9 :: List.replicate 31 0) = k := ⟨_, rfl⟩
 have hkl : k.length = 32 := by rw [← hk]; exact sharedK9_length n
 rw [hk] at HS ⊢
 clear hk
 go_enter Tryz.func151, Tryz.ntmps151
 go_wp2_with fail
 rw [show (Value.int .u8 9 :: (zeros 32 (Value.int .u8 0)).tail) = u8s (9 :: List.replicate 31 0) from rfl]
 refine (HS.out _).mono ?_
 rintro e w1 ⟨rfl, hb1⟩
 have z1 := (hb1).size
 try simp at z1
 have rR : row w1 (w.heap.size + 1) = (zeros 32 (Value.int .u8 0)).toArray := by rw [row_below hb1 (by simp)]; simp [go_sem]
 replace hb1 := below_of hb1 (show Below (w).heap.size w _ from by (repeat (first | exact Below.refl _ _ | refine Below.al ?_ _ | refine Below.drew ?_ | refine Below.sr ?_ _ | refine Below.sc ?_ _))) (by first | (simp; done) | (simp; omega) | omega)
 go_wp2_with fail
 have hfin := row_setRow_same (w := w1) (g := w.heap.size + 1) (c := (u8s k).toArray) (by rw [rR]; simp) (by rw [rR]; simp [hkl])
 (try simp only [Exit.inBlock, Exit.then])
 refine bodyPost_ret (results_1 rfl (resOk_row rfl ?_)) rfl ?_
 ·
  rw [hfin]
  simp [hkl]
 refine ⟨by rw [hfin], ?_⟩
 exact Below.setRow hb1 (by omega) _
end
section
open Go.RowKit
def z32 : List UInt8 := List.replicate 32 0
theorem u8s_z32 : u8s z32 = zeros 32 (.int .u8 0) := by simp [u8s, z32, zeros]
@[go_sem] theorem u8lit1 : (Value.int .u8 1 :: (zeros 32 (Value.int .u8 0)).tail) = u8s k1 := rfl
@[simp] theorem ceq_z (a : List UInt8) (h : a.length = 32) : ceq (u8s a) (zeros 32 (.int .u8 0)) = (a == z32) := by rw [← u8s_z32]; exact ceq_u8s _ _ (by rw [h]; rfl)
@[go_sem] theorem u8lit3 : (Value.int .u8 3 :: (zeros 32 (Value.int .u8 0)).tail) = u8s (3 :: List.replicate 31 0) := rfl
@[go_sem] theorem u8lit5 : (Value.int .u8 5 :: (zeros 32 (Value.int .u8 0)).tail) = u8s (5 :: List.replicate 31 0) := rfl
@[go_sem] theorem u8lit9 : (Value.int .u8 9 :: (zeros 32 (Value.int .u8 0)).tail) = u8s (9 :: List.replicate 31 0) := rfl
@[go_sem] theorem u8lit15 : (Value.int .u8 15 :: (zeros 32 (Value.int .u8 0)).tail) = u8s (15 :: List.replicate 31 0) := rfl
end
section
open Go.ChangeShapes Go.WideShapes Go.ChangeAt Go.RowKit
/-! ### plain: a secret's scalar -/
end
section
open Go.RowKit
def mid (l : List Int) : Prop := within 1048576 l
structure LadM where
 x : Int
 z : Int
 w : Int
 t : Int
end
section
open Go.RowKit
attribute [local irreducible] pN
end
end Go.Proofs.YtcebllbikmgjpaaGreat
