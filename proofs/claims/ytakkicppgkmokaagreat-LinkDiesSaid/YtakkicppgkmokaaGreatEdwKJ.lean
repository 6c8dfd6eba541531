/- Shared keys of public keys are places of a point's multiples: who is last makes no difference. No program in sight. -/
import Derived.Test.YtakkicppgkmokaaGreatJ33
import Derived.Test.YtakkicppgkmokaaGreatGrMJ
import Derived.Test.YtakkicppgkmokaaGreatJ40
set_option linter.unusedSimpArgs false
set_option linter.unusedVariables false
namespace Go.Proofs.YtakkicppgkmokaaGreat
instance pB_ne : NeZero pB := ⟨by decide⟩
def eF (a : Nat) : Fin pB := Fin.ofNat pB a
theorem eF_val (a : Nat) : (eF a).val = a % pB := rfl
theorem eF_of (a : Fin pB) : eF a.val = a := Fin.ext (by rw [eF_val, Nat.mod_eq_of_lt a.isLt])
theorem eF_mod (a : Nat) : eF (a % pB) = eF a := Fin.ext (by rw [eF_val, eF_val, Nat.mod_mod])
theorem eF_mul (a b : Nat) : eF (a * b) = eF a * eF b := Fin.ext (by rw [eF_val, Fin.val_mul, eF_val, eF_val, ← Nat.mul_mod])
theorem eF_add (a b : Nat) : eF (a + b) = eF a + eF b := Fin.ext (by rw [eF_val, Fin.val_add, eF_val, eF_val, ← Nat.add_mod])
theorem eF_sub (a b : Nat) (hb : b < pB) : eF (subB a b) = eF a - eF b := by
 have h : eF (subB a b) + eF b = eF a := by
  rw [← eF_add]
  refine Fin.ext ?_
  rw [eF_val, eF_val, subB]
  generalize pB = p at *
  rw [Nat.mod_add_mod, show a + p - b + b = a + p by omega, Nat.add_mod_right]
 rw [← h]
 generalize eF (subB a b) = x
 generalize eF b = y
 grind
def invE (a : Fin pB) : Fin pB := eF (a.val ^ eB 255)
def dE : Fin pB := eF 20800338683988658368647408995589388737092878452977063003340006470870624536394
def cE : Fin pB := eF 121665
theorem eB_pos : eB 255 + 2 = pB := by decide +kernel
theorem pB_lit : pB = 57896044618658097711785492504343953926634992332820282019728792003956564819949 := rfl
theorem pri_pB : Pri pB := pri_P
theorem fer_pB (a e : Nat) (he : e + 1 = pB) (h : a % pB ≠ 0) : a ^ e % pB = 1 := fermatE a e he h
theorem dE_half : pm pB 256 20800338683988658368647408995589388737092878452977063003340006470870624536394 28948022309329048855892746252171976963317496166410141009864396001978282409974 = pB - 1 := by decide +kernel
theorem dE_sq (s : Nat) (h : s * s % pB = 20800338683988658368647408995589388737092878452977063003340006470870624536394) : False := by
 have h0 : s % pB ≠ 0 := fun h0 => by
  have h1 : s * s % pB = 0 := by rw [Nat.mul_mod, h0, Nat.zero_mul, Nat.zero_mod]
  rw [h1] at h
  exact absurd h (by decide)
 obtain ⟨e, he⟩ : ∃ e : Nat, e = 28948022309329048855892746252171976963317496166410141009864396001978282409974 := ⟨_, rfl⟩
 have h1 := fer_pB s (e * 2) (by rw [he]; decide +kernel) h0
 have h2 : s ^ (e * 2) % pB = pB - 1 := by
  rw [Nat.mul_comm, Nat.pow_mul, Nat.pow_mod, Nat.pow_two, h, ← pm_spec pB 256 _ e (by rw [he]; decide +kernel), he]
  exact dE_half
 rw [h1] at h2
 exact absurd h2 (by decide +kernel)
attribute [local irreducible] pB
theorem one_lt_pB : 1 < pB := pri_pB.1
theorem one_val : ((1 : Fin pB)).val = 1 := by
 show 1 % pB = 1
 exact Nat.mod_eq_of_lt one_lt_pB
theorem zero_val : ((0 : Fin pB)).val = 0 := rfl
theorem two_pB : 2 < pB := by decide +kernel
theorem fldE : Fld pB dE invE where
 dom := fun a b h => by
  have h1 : a.val * b.val % pB = 0 := by rw [← Fin.val_mul, h, zero_val]
  rcases pri_mul pri_pB (Nat.dvd_of_mod_eq_zero h1) with h2 | h2
  ·
   exact .inl (Fin.ext (Nat.eq_zero_of_dvd_of_lt h2 a.isLt))
  ·
   exact .inr (Fin.ext (Nat.eq_zero_of_dvd_of_lt h2 b.isLt))
 mi := fun a h => by
  refine Fin.ext ?_
  rw [Fin.val_mul, one_val, invE, eF_val, Nat.mul_mod_mod, Nat.mul_comm, ← Nat.pow_succ]
  refine fer_pB _ _ (by have := eB_pos; omega) ?_
  rw [Nat.mod_eq_of_lt a.isLt]
  exact fun h2 => h (Fin.ext h2)
 inv0 := by
  refine Fin.ext ?_
  rw [invE, eF_val, zero_val, Nat.zero_pow (by have := eB_pos; have := two_pB; omega)]
  exact Nat.zero_mod _
 one := fun h => by
  have := congrArg Fin.val h
  rw [one_val, zero_val] at this
  omega
 two := fun h => by
  have := congrArg Fin.val h
  rw [Fin.val_add, one_val, zero_val, Nat.mod_eq_of_lt two_pB] at this
  omega
 nsq := fun s h => by
  have h1 := congrArg Fin.val h
  rw [Fin.val_mul, dE, eF_val] at h1
  refine dE_sq s.val ?_
  rw [h1]
  decide +kernel
theorem cE_1 : dE * (1 + cE) = cE := by decide +kernel
theorem cE_2 : 1 + cE ≠ 0 := by decide +kernel
theorem dE_1 : 1 - dE ≠ 0 := by decide +kernel
def bP : Pt pB := ⟨eF 9771384041963202563870679428059935816164187996444183106833894008023910952347, eF 46316835694926478169428394003475163141307993866256225615783033603165251855960⟩
theorem bP_on : On dE bP := by
 unfold On
 decide +kernel
theorem bP_u : Uof invE bP = eF 9 := by
 have h1 : 1 - bP.y ≠ 0 := by decide +kernel
 have h2 : eF 9 * (1 - bP.y) = 1 + bP.y := by decide +kernel
 exact fldE.eq_frac h1 h2
def LadB.toE (s : LadB) : LadE pB := ⟨eF s.x, eF s.z, eF s.w, eF s.t⟩
theorem step_E (s : LadB) (u : Nat) (hs : s.lt) : (s.step u).toE = s.toE.step cE (eF u) := by
 obtain ⟨hx, hz, hw, ht⟩ := hs
 have e : eF (lE s) = eF s.x + eF s.z := by rw [lE, eF_mod, eF_add]
 have f : eF (lF s) = (eF s.x + eF s.z) * (eF s.x + eF s.z) := by rw [lF, eF_mod, eF_mul, e]
 have g : eF (lG s) = eF s.x - eF s.z := by rw [lG, eF_sub _ _ hz]
 have h : eF (lH s) = (eF s.x - eF s.z) * (eF s.x - eF s.z) := by rw [lH, eF_mod, eF_mul, g]
 have dd : eF (lD s) = eF (lF s) - eF (lH s) := by rw [lD, eF_sub _ _ (show lH s < pB from Nat.mod_lt _ pB_pos)]
 have j : eF (lJ s) = (eF s.w - eF s.t) * (eF s.x + eF s.z) := by rw [lJ, eF_mod, eF_mul, eF_sub _ _ ht, e]
 have k : eF (lK s) = (eF s.w + eF s.t) * (eF s.x - eF s.z) := by rw [lK, eF_mod, eF_mul, eF_mod, eF_add, g]
 have js : eF (subB (lJ s) (lK s)) = eF (lJ s) - eF (lK s) := eF_sub _ _ (show lK s < pB from Nat.mod_lt _ pB_pos)
 simp only [LadB.toE, LadB.step, LadE.step, eF_mod, eF_mul, eF_add, js, j, k, dd, f, h]
 rfl
theorem swap_E (s : LadB) : s.swap.toE = s.toE.swap := rfl
def scB (n : List UInt8) (k : Nat) : Nat := upTo (fun k m => if bitN n (254 - k) then 2 * m + 1 else 2 * m) k 0
theorem ladB_is (n : List UInt8) {u : Nat} {p : Pt pB} (hp : On dE p) (hu : Rep (eF u) 1 p) (u0 : eF u ≠ 0) (hul : u < pB) (k : Nat) :
  (upTo (ladBF n u) k ⟨1, 0, u, 1⟩).toE.Is dE invE p (scB n k) := by
 induction k with
 | zero =>
  have h := fldE.lad0 hu
  have e : (upTo (ladBF n u) 0 ⟨1, 0, u, 1⟩ : LadB).toE = ⟨1, 0, eF u, 1⟩ := by
   rw [upTo]
   simp only [LadB.toE]
   congr 1
  rw [e]
  exact h
 | succ k ih =>
  have hlt := (ladBU_M n u hul k).1
  have h := fldE.lad1 cE_1 cE_2 hp hu u0 ih
  rw [upTo, scB, upTo]
  rw [← scB]
  generalize upTo (ladBF n u) k ⟨1, 0, u, 1⟩ = s at *
  unfold ladBF
  split
  ·
   rw [swap_E, step_E _ _ (swap_lt hlt), swap_E]
   exact h.2
  ·
   rw [step_E _ _ hlt]
   exact h.1
theorem nK_kB (v : Nat) (hv : v < pB) : nK (kB v) = v := by
 have h1 : ints8G (kB v) = digB v := by
  rw [ints8G, kB, List.map_map]
  refine (List.map_congr_left fun x hx => ?_).trans (List.map_id _)
  have := digB_dig v x hx
  simp only [Function.comp, id]
  exact UInt8.toNat_ofNat_of_lt' (by simpa using this)
 have hv2 : v < 57896044618658097711785492504343953926634992332820282019728792003956564819949 := by rw [← pB_lit]; exact hv
 have h2 : (digB v).getD 31 0 = v / 256 ^ 31 % 256 := by
  rw [List.getD_eq_getElem?_getD, List.getElem?_eq_getElem (by rw [digB_length]; omega)]
  simp [digB]
 have h3 : v / 256 ^ 31 < 128 := by
  refine Nat.div_lt_of_lt_mul ?_
  exact Nat.lt_trans hv2 (by decide)
 rw [nK, h1, h2, Nat.mod_mod_of_dvd _ (by decide), Nat.mod_eq_of_lt h3]
 have h4 : (digB v).set 31 (v / 256 ^ 31) = digB v := by
  refine List.ext_getElem (by simp) fun i a b => ?_
  by_cases hi : i = 31
  ·
   subst hi
   rw [List.getElem_set_self]
   simp only [digB, List.getElem_map, List.getElem_range]
   exact (Nat.mod_eq_of_lt (Nat.lt_trans h3 (by decide))).symm
  ·
   rw [List.getElem_set_ne (Ne.symm hi)]
 rw [h4]
 exact valB_digB v (Nat.lt_trans hv2 (by decide))
theorem kB_0 : kB 0 = List.replicate 32 0 := by decide +kernel
theorem kB_9 : kB 9 = 9 :: List.replicate 31 0 := by decide +kernel
theorem sc_even (a : List UInt8) (ha : a.length = 32) : scB (clampL a) 255 = 2 * scB (clampL a) 254 := by
 have h : bitN (clampL a) (254 - 254) = false := by
  simp only [bitN, clampL]
  rw [List.getD_eq_getElem?_getD, List.getElem?_eq_getElem (by simp [ha])]
  simp only [Option.getD_some, Nat.sub_self, Nat.zero_div, Nat.zero_mod, Nat.pow_zero, Nat.div_one]
  rw [List.getElem_set_ne (by omega), List.getElem_set_self]
  generalize a.getD 0 0 = b
  refine all_u8 (p := fun b => ((b &&& 248).toNat % 2 == 1) = false) (by decide +kernel) b
 rw [scB, upTo, ← scB]
 simp only [h]
 rfl
theorem shared_pt (a : List UInt8) (ha : a.length = 32) {p : Pt pB} (hp : On dE p) :
  sharedK a (kB (Uof invE p).val) = kB (Uof invE (pmul dE invE p (scB (clampL a) 255))).val := by
 by_cases h0 : Uof invE p = 0
 ·
  rw [h0, sc_even a ha, fldE.even0 dE_1 hp h0, zero_val, kB_0, shared_0]
 ·
  obtain ⟨u, hu⟩ : ∃ u, (Uof invE p).val = u := ⟨_, rfl⟩
  have hul : u < pB := by rw [← hu]; exact (Uof invE p).isLt
  have he : eF u = Uof invE p := by rw [← hu, eF_of]
  have hr := fldE.u_rep h0
  rw [← he] at hr h0
  have hl := (ladB_is (clampL a) hp hr h0 hul 255).1
  have hf := fldE.rep_u hl
  rw [shared_ref a _ (kB_length _), hu, nK_kB u hul, Nat.mod_eq_of_lt hul]
  rw [← hf]
  have hlt := (ladBU_M (clampL a) u hul 255).1
  rw [ladB]
  generalize upTo (ladBF (clampL a) u) 255 ⟨1, 0, u, 1⟩ = s at *
  refine congrArg kB ?_
  rw [LadB.toE, Fin.val_mul, eF_val, invE, eF_val, eF_val, Nat.mod_eq_of_lt hlt.1, Nat.mod_eq_of_lt hlt.2.1]
def publicK (a : List UInt8) : List UInt8 := sharedK a (9 :: List.replicate 31 0)
theorem public_pt (a : List UInt8) (ha : a.length = 32) : publicK a = kB (Uof invE (pmul dE invE bP (scB (clampL a) 255))).val := by
 have h := shared_pt a ha bP_on
 rw [bP_u] at h
 have e : kB (eF 9).val = 9 :: List.replicate 31 0 := by
  have : (eF 9).val = 9 := by decide +kernel
  rw [this, kB_9]
 rw [e] at h
 exact h
theorem agree_two (a b : List UInt8) (ha : a.length = 32) (hb : b.length = 32) : sharedK a (publicK b) = sharedK b (publicK a) := by
 rw [public_pt a ha, public_pt b hb, shared_pt a ha (fldE.on_pmul bP_on _), shared_pt b hb (fldE.on_pmul bP_on _), ← fldE.pmul_mul bP_on, ← fldE.pmul_mul bP_on, Nat.mul_comm]
end Go.Proofs.YtakkicppgkmokaaGreat
