/- Contracts of the reference of chapter 1: the first primes. -/
import Derived.Test.YtakkicppgkmokaaGreatJ6
import Derived.Test.YtakkicppgkmokaaGreatJ7
set_option linter.unusedSimpArgs false
set_option linter.unusedVariables false
set_option maxRecDepth 4000
namespace Go.Proofs.YtakkicppgkmokaaGreat
open Go.RowKit
def dT (x : Nat) : Nat → Bool
 | 0 => false
 | d + 1 => dT x d || (decide (2 ≤ d) && x % d == 0)
theorem dT_two (x : Nat) : dT x 2 = false := rfl
theorem dT_succ (x d : Nat) (h : 2 ≤ d) : dT x (d + 1) = (dT x d || x % d == 0) := by rw [dT]; simp [h]
def sqq (x : Nat) : Nat → Nat → Nat
 | 0, d => d
 | n + 1, d => if d * d ≤ x then sqq x n (d + 1) else d
theorem sqq_at (x : Nat) : ∀ n d e, d ≤ e → e ≤ d + n → (∀ c, d ≤ c → c < e → c * c ≤ x) → x < e * e → sqq x n d = e
 | 0, d, e, h1, h2, _, _ => by simp [sqq]; omega
 | n + 1, d, e, h1, h2, h3, h4 => by
  rw [sqq]
  split
  ·
   rename_i hd
   rcases Nat.eq_or_lt_of_le h1 with rfl | h
   ·
    omega
   ·
    exact sqq_at x n (d + 1) e h (by omega) (fun c a b => h3 c (by omega) b) h4
  ·
   rename_i hd
   rcases Nat.eq_or_lt_of_le h1 with rfl | h
   ·
    rfl
   ·
    exact absurd (h3 d (Nat.le_refl _) h) hd
def cF (i : Nat) (s : Bool × List Nat) : Bool × List Nat := (s.1 && (pT (i + 2) s.2 == !dT (i + 2) (sqq (i + 2) 30 2)), pF i s.2)
theorem cF_all : (upTo cF 312 (true, [])).1 = true := by decide +kernel
theorem cF_list (n : Nat) : (upTo cF n (true, [])).2 = pL n := by
 induction n with
 | zero => rfl
 | succ n ih => rw [upTo, cF]; simp only; rw [ih]; rfl
theorem cF_mono (n k : Nat) (h : (upTo cF (n + k) (true, [])).1 = true) : (upTo cF n (true, [])).1 = true := by
 induction k with
 | zero => exact h
 | succ k ih =>
  apply ih
  rw [← Nat.add_assoc, upTo, cF] at h
  simp only [Bool.and_eq_true] at h
  exact h.1
theorem pT_dT (m : Nat) (hm : m < 312) : pT (m + 2) (pL m) = !dT (m + 2) (sqq (m + 2) 30 2) := by
 have h := cF_mono (m + 1) (311 - m) (by rw [show m + 1 + (311 - m) = 312 by omega]; exact cF_all)
 rw [upTo, cF] at h
 simp only [Bool.and_eq_true, beq_iff_eq] at h
 rw [cF_list] at h
 exact h.2
theorem le31 (d s X : Nat) (hs : d * d = s) (h : s ≤ X) (hX : X ≤ 400) : d ≤ 31 := by
 rcases Nat.lt_or_ge d 32 with h2 | h2
 ·
  omega
 ·
  have h3 : 32 * 32 ≤ d * d := Nat.mul_le_mul h2 h2
  omega
attribute [local irreducible] pL pT dT sqq
set_option maxRecDepth 20000 in
set_option maxHeartbeats 4000000 in
theorem primes01_any (N E : Nat) (w : World) (hN : N ≤ 100) (hE : E ≤ 311) (h0 : ∀ m, m < E → (pL m).length < N) (h1 : (pL E).length = N) :
  Calls Tryz.prog 124 #[.int .i64 N] w fun e w' => ∃ v, e = .returned v ∧ Own w' w.heap.size 3 v (n64s (pL E)) ∧ Below w.heap.size w w' := by
 have hNI : (N : Int) ≤ 100 := by omega
 have H0 := Lib.hid h0
 have H1 := Lib.hid h1
 clear h0 h1
 go_enter Tryz.func124, Tryz.ntmps124
 go_wp2_with fail
 go_loopw [3, 4] (fun v x wr => ∃ m : Nat, m ≤ E ∧ x = .int .i64 ((m + 2 : Nat) : Int) ∧ Own wr w.heap.size 3 v (n64s (pL m)) ∧ Below w.heap.size w wr) (fun _ x _ => E + 2 - (intOf x).toNat)
 case atStart => exact ⟨0, by omega, rfl, by rw [pL_zero]; exact Own.nil, Below.refl _ _⟩
 case round =>
  obtain ⟨m, hm, rfl, hown, hbel⟩ := hrel
  have hsz := hbel.size
  have hlen := pL_len m
  have hN2 : (pL m).length = N ∨ m < E := by
   rcases Nat.lt_or_ge m E with h | h
   ·
    exact .inr h
   ·
    obtain rfl : m = E := by omega
    exact .inl H1.out
  have hsucc := Lib.hid (pL_succ m)
  have hPD := Lib.hid (fun h => pT_dT m h)
  have H0m := Lib.hid (fun h => H0.out m h)
  obtain ⟨l, hl⟩ : ∃ l, pL m = l := ⟨_, rfl⟩
  rw [hl] at hown hlen hN2 hsucc H0m hPD
  have HL := Lib.hid hl
  clear hl
  obtain ⟨X, hX⟩ : ∃ X, m + 2 = X := ⟨_, rfl⟩
  rw [hX] at hsucc hPD ⊢
  have HX := Lib.hid hX
  have hX400 : X ≤ 400 := by omega
  have hXI : (X : Int) ≤ 400 := by omega
  have hX2 : 2 ≤ X := by omega
  obtain ⟨p, c, rfl, hp⟩ := hown.form
  rw [n64s_length] at hp hown ⊢
  have hlI : (l.length : Int) ≤ 1000 := by omega
  have HN2 := Lib.hid hN2
  clear hN2 hX
  by_cases hlt : l.length < N
  ·
   have j1 : (l.length : Int) < N := by omega
   have hme : m < E := by
    rcases HN2.out with h | h
    ·
     omega
    ·
     exact h
   go_wp2_with fail
   go_loopw [5, 6] (fun b i wq => ∃ d : Nat, 2 ≤ d ∧ d ≤ 32 ∧ (∀ c, 2 ≤ c → c < d → c * c ≤ X) ∧ b = .bool (dT X d) ∧ i = .int .i64 d ∧ wq = wr) (fun _ i _ => 40 - (intOf i).toNat)
   case atStart => exact ⟨2, by omega, by omega, fun c a b => by omega, by rw [dT_two], rfl, rfl⟩
   case round =>
    obtain ⟨d, hd2, hd32, hc, rfl, rfl, rfl⟩ := hrel
    obtain ⟨b, hb⟩ : ∃ b, dT X d = b := ⟨_, rfl⟩
    rw [hb]
    have hdI : (d : Int) ≤ 32 := by omega
    have hd2I : (2 : Int) ≤ (d : Int) := by omega
    obtain ⟨s, hs⟩ : ∃ s, d * d = s := ⟨_, rfl⟩
    have hs1 : s ≤ 1024 := by rw [← hs]; exact Nat.mul_le_mul hd32 hd32
    have hsI : (d : Int) * (d : Int) = (s : Int) := by rw [← hs]; simp
    have f1 : IntKind.i64.wrap ((d : Int) * (d : Int)) = (s : Int) := wrapN _ _ hsI (by omega)
    have f2 : wrap64 ((d : Int) * (d : Int)) = (s : Int) := by rw [hsI]; unfold wrap64; omega
    have HC := Lib.hid hc
    have HB := Lib.hid hb
    clear hb hc hsI
    by_cases hds : s ≤ X
    ·
     have hdsI : (s : Int) ≤ (X : Int) := Int.ofNat_le.2 hds
     have hd31 : d ≤ 31 := le31 d s X hs hds hX400
     have hnext : ∀ c, 2 ≤ c → c < d + 1 → c * c ≤ X := fun c a b => by
      rcases Nat.lt_or_ge c d with h | h
      ·
       exact HC.out c a h
      ·
       have hcd : c = d := Nat.le_antisymm (Nat.le_of_lt_succ b) h
       rw [hcd, hs]
       exact hds
     have HNX := Lib.hid hnext
     have hd0 : ¬ (d : Int) = 0 := fun h => by have := Int.ofNat_eq_zero.1 h; omega
     have hds1 := dT_succ X d hd2
     rw [HB.out] at hds1
     obtain ⟨r, hr⟩ : ∃ r, X % d = r := ⟨_, rfl⟩
     rw [hr] at hds1
     have hrI : (X : Int) % (d : Int) = (r : Int) := by rw [← hr]; simp
     have hrI2 : (X : Int).tmod (d : Int) = (r : Int) := by rw [Int.tmod_eq_emod_of_nonneg (by omega)]; exact hrI
     have HDS := Lib.hid hds1
     clear hs hr hds1 hnext
     rcases Nat.eq_zero_or_pos r with rfl | hr0
     ·
      go_wp2_with fail
      go_roundw
      case rel => exact ⟨d + 1, by omega, by omega, HNX.out, by rw [HDS.out]; simp, rfl, by first | rfl | trivial⟩
      case measure => simp [intOf]; omega
     ·
      have hr1 : ¬ (r : Int) = 0 := by omega
      have hr2 : (r == 0) = false := by simp; omega
      have HR2 := Lib.hid hr2
      clear hr2
      go_wp2_with fail
      go_roundw
      case rel => exact ⟨d + 1, by omega, by omega, HNX.out, by rw [HDS.out, HR2.out]; simp, rfl, by first | rfl | trivial⟩
      case measure => simp [intOf]; omega
    ·
     have hdsI : ¬ (s : Int) ≤ (X : Int) := fun h => hds (Int.ofNat_le.1 h)
     have hsq : sqq X 30 2 = d := sqq_at X 30 2 d hd2 (Nat.le_trans hd32 (by decide)) (fun c a b => HC.out c a b) (by rw [hs]; exact Nat.lt_of_not_le hds)
     have hpd := hPD.out (by have := HX.out; omega)
     rw [hsq, HB.out] at hpd
     have hsu := hsucc.out
     rw [hpd] at hsu
     have HS := Lib.hid hsu
     clear hs hsq hpd hsu
     cases b
     ·
      have hn1 : (n64s l).length + 1 ≤ 1000000 := by simp; omega
      go_wp2_with (at_builtin; refine wpList_append1 rfl rfl inferInstance w.heap.size _ (n64s l) rfl hown (.int .i64 (X : Int)) rfl rfl hn1 (by omega) ?_)
      intro v' w2 o2 b2
      go_wp2_with fail
      go_roundw
      case rel =>
       refine ⟨m + 1, by omega, by rw [← HX.out]; push_cast; rfl, ?_, hbel.trans (b2.mono (by omega))⟩
       rw [HS.out]
       simp only [Bool.not_false, if_true]
       rw [n64s_append]
       exact o2
      case measure => have := HX.out; simp [intOf]; omega
     ·
      go_wp2_with fail
      go_roundw
      case rel =>
       refine ⟨m + 1, by omega, by rw [← HX.out]; push_cast; rfl, ?_, hbel⟩
       rw [HS.out]
       simp only [Bool.not_true, Bool.false_eq_true, if_false]
       exact hown
      case measure => have := HX.out; simp [intOf]; omega
  ·
   have hE2 : m = E := by
    rcases Nat.lt_or_ge m E with h | h
    ·
     have := H0m.out h
     omega
    ·
     omega
   have j1 : ¬ (l.length : Int) < N := by omega
   have hl3 := HL.out
   rw [hE2] at hl3
   have HL3 := Lib.hid hl3
   clear hl3
   go_wp2_with fail
   go_ret
   exact ⟨_, rfl, by rw [HL3.out]; exact hown, hbel⟩
end Go.Proofs.YtakkicppgkmokaaGreat
