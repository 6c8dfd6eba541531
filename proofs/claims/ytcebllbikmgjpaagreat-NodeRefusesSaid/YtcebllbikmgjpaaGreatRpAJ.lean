/- Reference of chapter 19: which VLANs a port has. -/
import Derived.Test.YtcebllbikmgjpaaGreatVlnJ
import Derived.BigQuiet
import Derived.WalkSmall
set_option linter.unusedSimpArgs false
set_option linter.unusedVariables false
set_option maxHeartbeats 8000000
set_option maxRecDepth 20000
namespace Go.Proofs.YtcebllbikmgjpaaGreat
open Go.RowKit Go.Shelf
theorem lastAt_succ {l : List Int} {k : Nat} (hk : k < l.length) : lastAt l (k + 1) = l[k] := by unfold lastAt; simp [List.getD_eq_getElem?_getD, hk]
theorem okR_bad {native : Int} {l : List Int} {k : Nat} (hk : k < l.length) (h : (decide (l[k] ≤ lastAt l k) || decide (4094 < l[k]) || l[k] == native) = true) : okR native (lastAt l k) (l.drop k) = false := by
 rw [okR_step hk, h]
 rfl
theorem okR_good {native : Int} {l : List Int} {k : Nat} (hk : k < l.length) (h1 : ¬ l[k] ≤ lastAt l k) (h2 : ¬ 4094 < l[k]) (h3 : l[k] ≠ native) : okR native (lastAt l k) (l.drop k) = okR native (lastAt l (k + 1)) (l.drop (k + 1)) := by
 rw [okR_step hk, decide_eq_false h1, decide_eq_false h2, beq_eq_false_iff_ne.2 h3]
 rfl
theorem r19Right_any (native : Int) (a : Option Addr) (cap : Nat) (l : List Int) (w : World) (h : IntsAt w a l) :
  Calls Tryz.prog 82 #[.int .i64 native, .slice a l.length cap] w fun e w' => e = .returned (.bool (rightP native l)) ∧ Below w.heap.size w w' := by
 have hl := h.len
 have hl2 : (l.length : Int) ≤ 9223372036854775807 := by unfold maxLen at hl; omega
 obtain ⟨r, hr⟩ : ∃ x, rightP native l = x := ⟨_, rfl⟩
 rw [hr]
 have HR := h_ hr
 clear hr
 go_enter Tryz.func82, Tryz.ntmps82
 by_cases h1 : native < 0
 ·
  go_wp2_with fail
  go_ret
  exact ⟨by rw [← HR.out, rightP, decide_eq_false (by omega : ¬ 0 ≤ native)]; rfl, by (repeat (first | exact Below.refl _ _ | refine Below.al ?_ _ | refine Below.drew ?_ | refine Below.sr ?_ _ | refine Below.sc ?_ _))⟩
 by_cases h2 : 4094 < native
 ·
  go_wp2_with fail
  go_ret
  exact ⟨by rw [← HR.out, rightP, decide_eq_false (by omega : ¬ native ≤ 4094)]; simp, by (repeat (first | exact Below.refl _ _ | refine Below.al ?_ _ | refine Below.drew ?_ | refine Below.sr ?_ _ | refine Below.sc ?_ _))⟩
 by_cases h3 : 64 < l.length
 ·
  have h3I : (64 : Int) < (l.length : Int) := by omega
  go_wp2_with fail
  go_ret
  exact ⟨by rw [← HR.out, rightP, decide_eq_false (by omega : ¬ l.length ≤ 64)]; simp, by (repeat (first | exact Below.refl _ _ | refine Below.al ?_ _ | refine Below.drew ?_ | refine Below.sr ?_ _ | refine Below.sc ?_ _))⟩
 have h3I : ¬ (64 : Int) < (l.length : Int) := by omega
 have HP := h_ (show rightP native l = okR native 0 l by rw [rightP, decide_eq_true (by omega : 0 ≤ native), decide_eq_true (by omega : native ≤ 4094), decide_eq_true (by omega : l.length ≤ 64)]; rfl)
 go_wp2_with fail
 go_loopw [5] (fun i wr => ∃ k : Nat, k ≤ l.length ∧ i = .int .i64 k ∧ Below w.heap.size w wr ∧ okR native 0 l = okR native (lastAt l k) (l.drop k) ∧ 0 ≤ lastAt l k) (fun i _ => l.length - (intOf i).toNat)
 case atStart => exact ⟨0, by omega, rfl, by (repeat (first | exact Below.refl _ _ | refine Below.al ?_ _ | refine Below.drew ?_ | refine Below.sr ?_ _ | refine Below.sc ?_ _)), rfl, Int.le_refl _⟩
 case round =>
  obtain ⟨k, hk, rfl, D, hok, hla⟩ := hrel
  have HOK := h_ hok
  have HLA := h_ hla
  clear hok hla
  by_cases hlt : k < l.length
  ·
   have hltI : (k : Int) < (l.length : Int) := by omega
   have hh := h.below D
   obtain ⟨b, off, rfl, hb, hc⟩ := hh.get hlt
   have hprev : ∀ k', k' + 1 = k → wr.cell? ⟨b, off + k', none⟩ = some (.int .i64 (lastAt l k)) := by
    intro k' e
    subst e
    obtain ⟨b2, off2, e2, _, hc2⟩ := hh.get (show k' < l.length by omega)
    cases e2
    rw [lastAt_succ (by omega)]
    exact hc2
   have hstep : ¬ l[k] ≤ lastAt l k → ¬ 4094 < l[k] → l[k] ≠ native → okR native (lastAt l k) (l.drop k) = okR native (lastAt l (k + 1)) (l.drop (k + 1)) := okR_good hlt
   have hbad : (decide (l[k] ≤ lastAt l k) || decide (4094 < l[k]) || l[k] == native) = true → okR native (lastAt l k) (l.drop k) = false := okR_bad hlt
   have hnext : lastAt l (k + 1) = l[k] := lastAt_succ hlt
   have hz : k = 0 → lastAt l k = 0 := by rintro rfl; rfl
   obtain ⟨x, hx⟩ : ∃ x, l[k] = x := ⟨_, rfl⟩
   rw [hx] at hc hstep hbad hnext
   obtain ⟨y, hy⟩ : ∃ x, lastAt l k = x := ⟨_, rfl⟩
   rw [hy] at hprev hstep hbad hz HOK HLA
   have HST := h_ hstep
   have HBA := h_ hbad
   have HNX := h_ hnext
   have HPV := h_ hprev
   have HZ := h_ hz
   clear hstep hbad hnext hprev hz hx hy hh h
   by_cases g1 : x < 1
   ·
    have g1b := decide_eq_true g1
    go_wp2_with fail
    go_quiet (fail)
    go_wp2_with fail
    go_ret
    exact ⟨by rw [← HR.out, HP.out, HOK.out, HBA.out (by rw [decide_eq_true (show x ≤ y by have := HLA.out; omega)]; rfl)]; rfl, below_drewN D _⟩
   have g1b := decide_eq_false g1
   by_cases g2 : 4094 < x
   ·
    have g2b := decide_eq_true g2
    go_wp2_with fail
    go_quiet (fail)
    go_wp2_with fail
    go_ret
    exact ⟨by rw [← HR.out, HP.out, HOK.out, HBA.out (by rw [decide_eq_true g2]; simp)]; rfl, below_drewN D _⟩
   have g2b := decide_eq_false g2
   by_cases g3 : x = native
   ·
    subst g3
    go_wp2_with fail
    go_quiet (fail)
    go_wp2_with fail
    go_ret
    exact ⟨by rw [← HR.out, HP.out, HOK.out, HBA.out (by simp)]; rfl, below_drewN D _⟩
   have g3b : (x == native) = false := beq_eq_false_iff_ne.2 g3
   by_cases g0 : 0 < k
   case neg =>
    have g0I : ¬ (0 : Int) < (k : Int) := by omega
    have g0b := decide_eq_false g0I
    have hy0 : y = 0 := HZ.out (by omega)
    have HST2 := h_ (HST.out (by omega) g2 g3)
    clear hy0
    go_wp2_with fail
    go_quiet (fail)
    go_wp2_with fail
    go_roundw
    case rel => exact ⟨k + 1, by omega, by simp, below_drewN D _, HOK.out.trans HST2.out, by rw [HNX.out]; omega⟩
    case measure => simp [intOf]; omega
   case pos =>
    obtain ⟨k', hk'⟩ : ∃ k', k' + 1 = k := ⟨k - 1, by omega⟩
    have hcp := HPV.out k' hk'
    have g0I : (0 : Int) < (k : Int) := by omega
    have g0b := decide_eq_true g0I
    have gk : IntKind.i64.wrap ((k : Int) - 1) = (k' : Int) := (wraps_i64 _ (by omega) (by omega)).trans (by omega)
    have gk2 : wrap64 ((k : Int) - 1) = (k' : Int) := by unfold wrap64; omega
    have hltI2 : (k' : Int) < (l.length : Int) := by omega
    by_cases g4 : x ≤ y
    ·
     have g4b := decide_eq_true g4
     go_wp2_with fail
     go_quiet (fail)
     go_wp2_with fail
     go_ret
     exact ⟨by rw [← HR.out, HP.out, HOK.out, HBA.out (by rw [decide_eq_true g4]; rfl)]; rfl, below_drewN D _⟩
    ·
     have HST2 := h_ (HST.out g4 g2 g3)
     have g4b := decide_eq_false g4
     go_wp2_with fail
     go_quiet (fail)
     go_wp2_with fail
     go_roundw
     case rel => exact ⟨k + 1, by omega, by simp, below_drewN D _, HOK.out.trans HST2.out, by rw [HNX.out]; omega⟩
     case measure => simp [intOf]; omega
  ·
   obtain rfl : k = l.length := by omega
   go_wp2_with fail
   go_ret
   exact ⟨by rw [← HR.out, HP.out, HOK.out, List.drop_of_length_le (Nat.le_refl _)]; rfl, D⟩
end Go.Proofs.YtcebllbikmgjpaaGreat
