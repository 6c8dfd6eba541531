/- The ladder of ref06 over natural numbers is the machine's. No program in sight. -/
import Derived.Test.YtakkicppgkmokaaGreatGrEJ
import Derived.Test.YtakkicppgkmokaaGreatJ40
set_option linter.unusedSimpArgs false
set_option linter.unusedVariables false
namespace Go.Proofs.YtakkicppgkmokaaGreat
open Go.RowKit
def subB (a b : Nat) : Nat := (a + pB - b) % pB
structure LadB where
 x : Nat
 z : Nat
 w : Nat
 t : Nat
def LadB.swap (s : LadB) : LadB := ⟨s.w, s.t, s.x, s.z⟩
def lE (s : LadB) : Nat := (s.x + s.z) % pB
def lF (s : LadB) : Nat := lE s * lE s % pB
def lG (s : LadB) : Nat := subB s.x s.z
def lH (s : LadB) : Nat := lG s * lG s % pB
def lD (s : LadB) : Nat := subB (lF s) (lH s)
def lJ (s : LadB) : Nat := subB s.w s.t * lE s % pB
def lK (s : LadB) : Nat := (s.w + s.t) % pB * lG s % pB
def LadB.step (s : LadB) (u : Nat) : LadB :=
 ⟨lF s * lH s % pB, lD s * ((lF s + 121665 * lD s % pB) % pB) % pB, (lJ s + lK s) % pB * ((lJ s + lK s) % pB) % pB, u * (subB (lJ s) (lK s) * subB (lJ s) (lK s) % pB) % pB⟩
def LadB.lt (s : LadB) : Prop := s.x < pB ∧ s.z < pB ∧ s.w < pB ∧ s.t < pB
def LadB.toM (s : LadB) : LadM := ⟨s.x, s.z, s.w, s.t⟩
theorem pB_pos : 0 < pB := by decide
theorem mulI (a b : Nat) : ((a * b % pB : Nat) : Int) = (a : Int) * b % pN := by rw [← pB_pN]; simp
theorem addI (a b : Nat) : (((a + b) % pB : Nat) : Int) = ((a : Int) + b) % pN := by rw [← pB_pN]; simp
theorem subI (a b : Nat) (hb : b < pB) : ((subB a b : Nat) : Int) = ((a : Int) - b) % pN := by
 have e : ((a + pB - b : Nat) : Int) = (a : Int) - b + pN := by rw [← pB_pN]; omega
 rw [subB, ← pB_pN, Int.natCast_emod, e, ← pB_pN, Int.add_emod_right]
attribute [local irreducible] pB pN
theorem step_M (s : LadB) (u : Nat) (hs : s.lt) : (s.step u).lt ∧ (s.step u).toM = s.toM.step u := by
 obtain ⟨x, z, w, t⟩ := s
 obtain ⟨hx, hz, hw, ht⟩ := hs
 simp only at hx hz hw ht
 refine ⟨⟨Nat.mod_lt _ pB_pos, Nat.mod_lt _ pB_pos, Nat.mod_lt _ pB_pos, Nat.mod_lt _ pB_pos⟩, ?_⟩
 have e : ((lE ⟨x, z, w, t⟩ : Nat) : Int) % pN = ((x : Int) + z) % pN := by rw [lE, addI, mod_mod]
 have g : ((lG ⟨x, z, w, t⟩ : Nat) : Int) % pN = ((x : Int) - z) % pN := by rw [lG, subI _ _ hz, mod_mod]
 have f : ((lF ⟨x, z, w, t⟩ : Nat) : Int) % pN = (((x : Int) + z) * (x + z)) % pN := by rw [lF, mulI, mod_mod]; exact mm _ _ _ _ e e
 have h : ((lH ⟨x, z, w, t⟩ : Nat) : Int) % pN = (((x : Int) - z) * (x - z)) % pN := by rw [lH, mulI, mod_mod]; exact mm _ _ _ _ g g
 have hHl : lH ⟨x, z, w, t⟩ < pB := Nat.mod_lt _ pB_pos
 have hKl : lK ⟨x, z, w, t⟩ < pB := Nat.mod_lt _ pB_pos
 have d : ((lD ⟨x, z, w, t⟩ : Nat) : Int) % pN = (((x : Int) + z) * (x + z) - (x - z) * (x - z)) % pN := by rw [lD, subI _ _ hHl, mod_mod]; exact sm _ _ _ _ f h
 have wt : ((subB w t : Nat) : Int) % pN = ((w : Int) - t) % pN := by rw [subI _ _ ht, mod_mod]
 have wa : (((w + t) % pB : Nat) : Int) % pN = ((w : Int) + t) % pN := by rw [addI, mod_mod]
 have j : ((lJ ⟨x, z, w, t⟩ : Nat) : Int) % pN = (((w : Int) - t) * (x + z)) % pN := by rw [lJ, mulI, mod_mod]; exact mm _ _ _ _ wt e
 have k : ((lK ⟨x, z, w, t⟩ : Nat) : Int) % pN = (((w : Int) + t) * (x - z)) % pN := by rw [lK, mulI, mod_mod]; exact mm _ _ _ _ wa g
 have jk : (((lJ ⟨x, z, w, t⟩ + lK ⟨x, z, w, t⟩) % pB : Nat) : Int) % pN = (((w : Int) - t) * (x + z) + (w + t) * (x - z)) % pN := by rw [addI, mod_mod]; exact am _ _ _ _ j k
 have sjk : ((subB (lJ ⟨x, z, w, t⟩) (lK ⟨x, z, w, t⟩) : Nat) : Int) % pN = (((w : Int) - t) * (x + z) - (w + t) * (x - z)) % pN := by rw [subI _ _ hKl, mod_mod]; exact sm _ _ _ _ j k
 have cd : ((121665 * lD ⟨x, z, w, t⟩ % pB : Nat) : Int) % pN = (121665 * (((x : Int) + z) * (x + z) - (x - z) * (x - z))) % pN := by rw [mulI, mod_mod]; exact mm _ _ _ _ rfl d
 have fc : (((lF ⟨x, z, w, t⟩ + 121665 * lD ⟨x, z, w, t⟩ % pB) % pB : Nat) : Int) % pN = (((x : Int) + z) * (x + z) + 121665 * (((x : Int) + z) * (x + z) - (x - z) * (x - z))) % pN := by rw [addI, mod_mod]; exact am _ _ _ _ f cd
 have ss : ((subB (lJ ⟨x, z, w, t⟩) (lK ⟨x, z, w, t⟩) * subB (lJ ⟨x, z, w, t⟩) (lK ⟨x, z, w, t⟩) % pB : Nat) : Int) % pN = ((((w : Int) - t) * (x + z) - (w + t) * (x - z)) * (((w : Int) - t) * (x + z) - (w + t) * (x - z))) % pN := by rw [mulI, mod_mod]; exact mm _ _ _ _ sjk sjk
 show LadM.mk _ _ _ _ = LadM.mk _ _ _ _
 congr 1
 ·
  show ((lF _ * lH _ % pB : Nat) : Int) = _
  rw [mulI]
  exact mm _ _ _ _ f h
 ·
  show ((lD _ * ((lF _ + 121665 * lD _ % pB) % pB) % pB : Nat) : Int) = _
  rw [mulI]
  exact mm _ _ _ _ d fc
 ·
  show (((lJ _ + lK _) % pB * ((lJ _ + lK _) % pB) % pB : Nat) : Int) = _
  rw [mulI]
  exact mm _ _ _ _ jk jk
 ·
  show ((u * (subB (lJ _) (lK _) * subB (lJ _) (lK _) % pB) % pB : Nat) : Int) = _
  rw [mulI]
  exact mm _ _ _ _ rfl ss
def ladBF (n : List UInt8) (u : Nat) (k : Nat) (s : LadB) : LadB := if bitN n (254 - k) then (s.swap.step u).swap else s.step u
def ladB (n : List UInt8) (u : Nat) : LadB := upTo (ladBF n u) 255 ⟨1, 0, u, 1⟩
theorem swap_lt {s : LadB} (h : s.lt) : s.swap.lt := ⟨h.2.2.1, h.2.2.2, h.1, h.2.1⟩
theorem ladBF_M (n : List UInt8) (u k : Nat) (s : LadB) (hs : s.lt) : (ladBF n u k s).lt ∧ (ladBF n u k s).toM = ladMF n u k s.toM := by
 unfold ladBF ladMF
 split
 ·
  obtain ⟨h1, h2⟩ := step_M s.swap u (swap_lt hs)
  refine ⟨swap_lt h1, ?_⟩
  have e : ((s.swap.step u).swap).toM = ((s.swap.step u).toM).swap := rfl
  rw [e, h2]
  rfl
 ·
  exact step_M s u hs
theorem ladBU_M (n : List UInt8) (u : Nat) (hu : u < pB) (k : Nat) : (upTo (ladBF n u) k ⟨1, 0, u, 1⟩).lt ∧ (upTo (ladBF n u) k ⟨1, 0, u, 1⟩).toM = upTo (ladMF n u) k (ladM0 u) := by
 induction k with
 | zero =>
  rw [upTo, upTo]
  have h1 : 1 < pB := by decide +kernel
  exact ⟨⟨h1, pB_pos, hu, h1⟩, rfl⟩
 | succ k ih =>
  rw [upTo, upTo, ← ih.2]
  exact ladBF_M n u k _ ih.1
theorem shared_ref (n u : List UInt8) (hu : u.length = 32) : sharedK n u = kB ((ladB (clampL n) (nK u % pB)).x * ((ladB (clampL n) (nK u % pB)).z ^ eB 255 % pB) % pB) := by
 have hul : nK u % pB < pB := Nat.mod_lt _ pB_pos
 have h := (ladBU_M (clampL n) (nK u % pB) hul 255).2
 have hx : ((ladB (clampL n) (nK u % pB)).x : Int) = (ladM (clampL n) ((nK u % pB : Nat) : Int)).x := congrArg LadM.x h
 have hz : ((ladB (clampL n) (nK u % pB)).z : Int) = (ladM (clampL n) ((nK u % pB : Nat) : Int)).z := congrArg LadM.z h
 have hc : ((nK u % pB : Nat) : Int) = numK u % pN := by rw [← nK_num u hu, ← pB_pN]; simp
 rw [hc] at hx hz
 rw [sharedK_eq, ← hx, ← hz, kB_keyV, eB_eN, mulI]
 congr 1
 refine mm _ _ _ _ rfl ?_
 rw [← pB_pN]
 simp
end Go.Proofs.YtakkicppgkmokaaGreat
