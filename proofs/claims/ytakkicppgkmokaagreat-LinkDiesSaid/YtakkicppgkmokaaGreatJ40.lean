/- Texts of this proof, merged: CurG, CurJ. -/
import Derived.Test.YtakkicppgkmokaaGreatCurFJ
import Derived.Test.YtakkicppgkmokaaGreatJ32
set_option linter.unusedSimpArgs false
set_option linter.unusedVariables false
set_option maxRecDepth 4000
namespace Go.Proofs.YtakkicppgkmokaaGreat
section
open Go.RowKit
theorem list_range (l : List Int) : l = (List.range l.length).map fun i => l.getD i 0 := by
  apply List.ext_getElem (by simp)
  intro i h1 h2
  simp [List.getD_eq_getElem?_getD, h1]
theorem valN_add (f g : Nat → Int) (n : Nat) : valN ((List.range n).map fun i => f i + g i) = valN ((List.range n).map f) + valN ((List.range n).map g) := by
  induction n with
  | zero => simp [valN]
  | succ n ih =>
    simp only [List.range_succ, List.map_append, List.map_cons, List.map_nil, valN_snoc, ih, List.length_map, List.length_range]
    grind
theorem valN_sub (f g : Nat → Int) (n : Nat) : valN ((List.range n).map fun i => f i - g i) = valN ((List.range n).map f) - valN ((List.range n).map g) := by
  induction n with
  | zero => simp [valN]
  | succ n ih =>
    simp only [List.range_succ, List.map_append, List.map_cons, List.map_nil, valN_snoc, ih, List.length_map, List.length_range]
    grind
theorem valN_range (l : List Int) (h : l.length = 16) : valN ((List.range 16).map fun i => l.getD i 0) = valN l := by
  have := list_range l
  rw [h] at this
  rw [← this]
def mid (l : List Int) : Prop := within 1048576 l
theorem red_mid {l : List Int} (h : red l) : mid l := ⟨h.1, fun i hi => by have := h.2 i hi; omega⟩
theorem plus_val (x y : List Int) (hx : mid x) (hy : mid y) : within 33554432 (plusL x y) ∧ valN (plusL x y) = valN x + valN y := by
  have e := plusL_eq x y hx.1 (fun i hi => by have := hx.2 i hi; have := hy.2 i hi; omega)
  refine ⟨⟨by rw [e]; simp, fun i hi => ?_⟩, ?_⟩
  · rw [e]
    have := hx.2 i hi; have := hy.2 i hi
    simp only [List.getD_eq_getElem?_getD, List.getElem?_map, List.getElem?_range hi, Option.map_some, Option.getD_some]
    simp only [List.getD_eq_getElem?_getD] at *
    omega
  · rw [e, valN_add (fun i => x.getD i 0) (fun i => y.getD i 0), valN_range x hx.1, valN_range y hy.1]
theorem less_val (x y : List Int) (hx : mid x) (hy : mid y) : within 33554432 (lessL x y) ∧ valN (lessL x y) = valN x - valN y := by
  have e := lessL_eq x y hx.1 (fun i hi => by have := hx.2 i hi; have := hy.2 i hi; omega)
  refine ⟨⟨by rw [e]; simp, fun i hi => ?_⟩, ?_⟩
  · rw [e]
    have := hx.2 i hi; have := hy.2 i hi
    simp only [List.getD_eq_getElem?_getD, List.getElem?_map, List.getElem?_range hi, Option.map_some, Option.getD_some]
    simp only [List.getD_eq_getElem?_getD] at *
    omega
  · rw [e, valN_sub (fun i => x.getD i 0) (fun i => y.getD i 0), valN_range x hx.1, valN_range y hy.1]
structure LadM where
  x : Int
  z : Int
  w : Int
  t : Int
def LadM.swap (s : LadM) : LadM := ⟨s.w, s.t, s.x, s.z⟩
def LadM.step (s : LadM) (u : Int) : LadM :=
  ⟨(s.x + s.z) * (s.x + s.z) * ((s.x - s.z) * (s.x - s.z)) % pN,
   ((s.x + s.z) * (s.x + s.z) - (s.x - s.z) * (s.x - s.z)) * ((s.x + s.z) * (s.x + s.z) + 121665 * ((s.x + s.z) * (s.x + s.z) - (s.x - s.z) * (s.x - s.z))) % pN,
   ((s.w - s.t) * (s.x + s.z) + (s.w + s.t) * (s.x - s.z)) * ((s.w - s.t) * (s.x + s.z) + (s.w + s.t) * (s.x - s.z)) % pN,
   u * (((s.w - s.t) * (s.x + s.z) - (s.w + s.t) * (s.x - s.z)) * ((s.w - s.t) * (s.x + s.z) - (s.w + s.t) * (s.x - s.z))) % pN⟩
def ladMF (n : List UInt8) (u : Int) (k : Nat) (s : LadM) : LadM := if bitN n (254 - k) then (s.swap.step u).swap else s.step u
def ladM0 (u : Int) : LadM := ⟨1, 0, u, 1⟩
def ladM (n : List UInt8) (u : Int) : LadM := upTo (ladMF n u) 255 (ladM0 u)
def Lad.vals (s : Lad) : LadM := ⟨valN s.ax % pN, valN s.az % pN, valN s.bx % pN, valN s.bz % pN⟩
def Lad.reds (s : Lad) : Prop := red s.ax ∧ red s.az ∧ red s.bx ∧ red s.bz
theorem c24_within : within 33554432 c24 := ⟨rfl, by decide⟩
theorem c24_val : valN c24 = 121665 := by decide +kernel
attribute [local irreducible] timesL plusL lessL valN red within pN in
set_option maxHeartbeats 1000000 in
theorem step_vals (s : Lad) (u : List Int) (hs : s.reds) (hu : red u) : (s.step u).reds ∧ (s.step u).vals = s.vals.step (valN u % pN) := by
  obtain ⟨ax, az, bx, bz⟩ := s
  obtain ⟨h1, h2, h3, h4⟩ := hs
  simp only at h1 h2 h3 h4
  obtain ⟨e1, e2⟩ := plus_val ax az (red_mid h1) (red_mid h2)
  obtain ⟨g1, g2⟩ := less_val ax az (red_mid h1) (red_mid h2)
  obtain ⟨p1, p2⟩ := plus_val bx bz (red_mid h3) (red_mid h4)
  obtain ⟨m1, m2⟩ := less_val bx bz (red_mid h3) (red_mid h4)
  obtain ⟨f1, f2⟩ := times_mod _ _ e1 e1
  obtain ⟨k1, k2⟩ := times_mod _ _ g1 g1
  obtain ⟨i1, i2⟩ := less_val _ _ (red_mid f1) (red_mid k1)
  obtain ⟨x1, x2⟩ := times_mod _ _ (red_within _ f1) (red_within _ k1)
  obtain ⟨q1, q2⟩ := times_mod _ _ c24_within i1
  obtain ⟨r1, r2⟩ := plus_val _ _ (red_mid f1) (red_mid q1)
  obtain ⟨z1, z2⟩ := times_mod _ _ i1 r1
  obtain ⟨j1, j2⟩ := times_mod _ _ m1 e1
  obtain ⟨l1, l2⟩ := times_mod _ _ p1 g1
  obtain ⟨s1, s2⟩ := plus_val _ _ (red_mid j1) (red_mid l1)
  obtain ⟨d1, d2⟩ := less_val _ _ (red_mid j1) (red_mid l1)
  obtain ⟨u1, u2⟩ := times_mod _ _ s1 s1
  obtain ⟨v1, v2⟩ := times_mod _ _ d1 d1
  obtain ⟨y1, y2⟩ := times_mod _ _ (red_within _ hu) (red_within _ v1)
  refine ⟨⟨x1, z1, u1, y1⟩, ?_⟩
  rw [e2] at f2
  rw [g2] at k2
  rw [c24_val] at q2
  rw [m2, e2] at j2
  rw [p2, g2] at l2
  obtain ⟨A, hA⟩ : ∃ A, valN ax % pN = A := ⟨_, rfl⟩
  have cA : valN ax % pN = A % pN := by rw [← hA, mod_mod]
  obtain ⟨B, hB⟩ : ∃ A, valN az % pN = A := ⟨_, rfl⟩
  have cB : valN az % pN = B % pN := by rw [← hB, mod_mod]
  obtain ⟨C, hC⟩ : ∃ A, valN bx % pN = A := ⟨_, rfl⟩
  have cC : valN bx % pN = C % pN := by rw [← hC, mod_mod]
  obtain ⟨D, hD⟩ : ∃ A, valN bz % pN = A := ⟨_, rfl⟩
  have cD : valN bz % pN = D % pN := by rw [← hD, mod_mod]
  obtain ⟨U, hU⟩ : ∃ A, valN u % pN = A := ⟨_, rfl⟩
  have cU : valN u % pN = U % pN := by rw [← hU, mod_mod]
  have F2 := f2.trans (mm _ (A + B) _ (A + B) (am _ _ _ _ cA cB) (am _ _ _ _ cA cB))
  have K2 := k2.trans (mm _ (A - B) _ (A - B) (sm _ _ _ _ cA cB) (sm _ _ _ _ cA cB))
  have I2 : valN (lessL (timesL (plusL ax az) (plusL ax az)) (timesL (lessL ax az) (lessL ax az))) % pN = ((A + B) * (A + B) - (A - B) * (A - B)) % pN := by
    rw [i2]; exact sm _ _ _ _ F2 K2
  have Q2 := q2.trans (mm _ 121665 _ _ rfl I2)
  have J2 := j2.trans (mm _ (C - D) _ (A + B) (sm _ _ _ _ cC cD) (am _ _ _ _ cA cB))
  have L2 := l2.trans (mm _ (C + D) _ (A - B) (am _ _ _ _ cC cD) (sm _ _ _ _ cA cB))
  have S2 := (congrArg (· % pN) s2).trans (am _ _ _ _ J2 L2)
  have D2 := (congrArg (· % pN) d2).trans (sm _ _ _ _ J2 L2)
  have V2 := v2.trans (mm _ _ _ _ D2 D2)
  have eX := x2.trans (mm _ _ _ _ F2 K2)
  have eZ := z2.trans (mm _ _ _ _ I2 ((congrArg (· % pN) r2).trans (am _ _ _ _ F2 Q2)))
  have eU := u2.trans (mm _ _ _ _ S2 S2)
  have eV := y2.trans (mm _ _ _ _ cU V2)
  have q : (Lad.mk ax az bx bz).vals = ⟨A, B, C, D⟩ := by unfold Lad.vals; simp only [hA, hB, hC, hD]
  rw [q, hU]
  unfold LadM.step
  show LadM.mk _ _ _ _ = _
  congr 1
attribute [local irreducible] timesL plusL lessL valN red stepX stepZ stepU stepV keyL invL pN in
theorem ladF_vals (n : List UInt8) (u : List Int) (hu : red u) (k : Nat) (s : Lad) (hs : s.reds) : (ladF n u k s).reds ∧ (ladF n u k s).vals = ladMF n (valN u % pN) k s.vals := by
  unfold ladF ladMF
  split
  · obtain ⟨h1, h2⟩ := step_vals s.swap u ⟨hs.2.2.1, hs.2.2.2, hs.1, hs.2.1⟩ hu
    refine ⟨⟨h1.2.2.1, h1.2.2.2, h1.1, h1.2.1⟩, ?_⟩
    have h3 : s.vals.swap = s.swap.vals := rfl
    rw [h3, ← h2]
    rfl
  · exact step_vals s u hs hu
theorem oneL_red : red oneL := ⟨rfl, by decide⟩
theorem zeroL_red : red zeroL := ⟨rfl, by decide⟩
attribute [local irreducible] timesL plusL lessL red stepX stepZ stepU stepV keyL invL in
theorem ladL_vals (n : List UInt8) (u : List Int) (hu : red u) : (ladL n u).reds ∧ (ladL n u).vals = ladM n (valN u % pN) := by
  have : ∀ k, (upTo (ladF n u) k (lad0 u)).reds ∧ (upTo (ladF n u) k (lad0 u)).vals = upTo (ladMF n (valN u % pN)) k (ladM0 (valN u % pN)) := by
    intro k
    induction k with
    | zero =>
      refine ⟨⟨oneL_red, zeroL_red, hu, oneL_red⟩, ?_⟩
      have h1 : valN oneL % pN = 1 := by decide +kernel
      have h0 : valN zeroL % pN = 0 := by decide +kernel
      simp only [upTo, lad0, ladM0, Lad.vals, h1, h0]
    | succ k ih =>
      obtain ⟨h1, h2⟩ := ladF_vals n u hu k _ ih.1
      rw [upTo, upTo, ← ih.2]
      exact ⟨h1, h2⟩
  exact this 255
attribute [local irreducible] timesL plusL lessL valN red stepX stepZ stepU stepV keyL invL pN in
theorem sharedK_eq (n u : List UInt8) : sharedK n u = keyV ((ladM (clampL n) (numK u % pN)).x * (ladM (clampL n) (numK u % pN)).z ^ eN % pN) := by
  obtain ⟨h1, h2⟩ := ladL_vals (clampL n) (ofL u) (ofL_red u)
  rw [sharedK]
  generalize ladL (clampL n) (ofL u) = L at *
  obtain ⟨i1, i2⟩ := invL_mod L.az h1.2.1
  obtain ⟨t1, t2⟩ := times_mod _ _ (red_within _ h1.1) (red_within _ i1)
  rw [keyL_eq _ t1, t2]
  have e : ladM (clampL n) (numK u % pN) = L.vals := h2.symm
  rw [e]
  have h3 : valN L.ax % pN = L.vals.x % pN := (mod_mod _).symm
  have h4 : valN L.az % pN = L.vals.z % pN := (mod_mod _).symm
  rw [mm _ L.vals.x _ (L.vals.z ^ eN) h3 (i2.trans (pm_ _ _ _ h4))]
end
section
open Go.RowKit
attribute [local irreducible] pN
theorem mul_zero_mod (c : Int) : pN * c % pN = 0 := Int.mul_emod_right _ _
theorem step_z0 (s : LadM) (u : Int) (h : s.x * s.z % pN = 0) : (s.step u).z = 0 := by
 obtain ⟨c, hc⟩ := Int.dvd_of_emod_eq_zero h
 unfold LadM.step
 show _ % pN = 0
 obtain ⟨Y, hY⟩ : ∃ Y, (s.x + s.z) * (s.x + s.z) + 121665 * ((s.x + s.z) * (s.x + s.z) - (s.x - s.z) * (s.x - s.z)) = Y := ⟨_, rfl⟩
 rw [hY]
 have : ((s.x + s.z) * (s.x + s.z) - (s.x - s.z) * (s.x - s.z)) * Y = pN * (4 * c * Y) := by grind
 rw [this, mul_zero_mod]
theorem step_t0 (s : LadM) : (s.step 0).t = 0 := by
 unfold LadM.step
 show _ % pN = 0
 simp
theorem zmod : (0 : Int) % pN = 0 := Int.zero_emod _
def Inv0 (s : LadM) : Prop := s.x * s.z % pN = 0 ∧ s.w * s.t % pN = 0
theorem inv0_step (s : LadM) (h : s.x * s.z % pN = 0) : Inv0 (s.step 0) ∧ (s.step 0).z = 0 ∧ (s.step 0).t = 0 := by
 have h1 := step_z0 s 0 h
 have h2 := step_t0 s
 refine ⟨⟨?_, ?_⟩, h1, h2⟩
 ·
  rw [h1, Int.mul_zero, zmod]
 ·
  rw [h2, Int.mul_zero, zmod]
theorem ladM_0 (n : List UInt8) : (ladM n 0).z = 0 := by
 have : ∀ k, Inv0 (upTo (ladMF n 0) k (ladM0 0)) ∧ (0 < k → (upTo (ladMF n 0) k (ladM0 0)).z = 0) := by
  intro k
  induction k with
  | zero => exact ⟨⟨by simp [upTo, ladM0, zmod], by simp [upTo, ladM0, zmod]⟩, fun h => by omega⟩
  | succ k ih =>
   rw [upTo]
   generalize upTo (ladMF n 0) k (ladM0 0) = s at *
   unfold ladMF
   split
   ·
    obtain ⟨h1, h2, h3⟩ := inv0_step s.swap ih.1.2
    exact ⟨⟨h1.2, h1.1⟩, fun _ => h3⟩
   ·
    obtain ⟨h1, h2, h3⟩ := inv0_step s ih.1.1
    exact ⟨h1, fun _ => h2⟩
 exact (this 255).2 (by omega)
theorem shared_0 (n : List UInt8) : sharedK n (List.replicate 32 0) = List.replicate 32 0 := by
 rw [sharedK_eq, numK_zero, zmod, ladM_0, ← key_zero]
 congr 1
 rw [mm _ (ladM (clampL n) 0).x _ 0 rfl (by rw [zero_pow_ 0 zmod _ eN_pos, zmod]), Int.mul_zero, zmod]
end
end Go.Proofs.YtakkicppgkmokaaGreat
