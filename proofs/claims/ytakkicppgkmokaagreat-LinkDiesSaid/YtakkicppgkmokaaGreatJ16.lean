/- Texts of this proof, merged: ShaR, ShaQ, ShaC. -/
import Derived.Test.YtakkicppgkmokaaGreatJ13
import Derived.Test.YtakkicppgkmokaaGreatPolJ
import Derived.Test.YtakkicppgkmokaaGreatShelf
import Derived.Laws.BitsLemmas
import Derived.Conc.WgArith
set_option linter.unusedSimpArgs false
set_option linter.unusedVariables false
set_option maxRecDepth 4000
namespace Go.Proofs.YtakkicppgkmokaaGreat
section
open Go.RowKit
theorem eq_cast (x y : Nat) : ((x : Int) == (y : Int)) = (x == y) := by
 rw [Bool.eq_iff_iff]
 simp only [beq_iff_eq]
 omega
theorem eq_cast0 (x : Nat) : ((x : Int) == 0) = (x == 0) := eq_cast x 0
def less2 (n x : Nat) : Bool := decide (x * x / 18446744073709551616 < n) || (x * x / 18446744073709551616 == n && x * x % 18446744073709551616 == 0)
theorem cases3 (a n : Nat) (b : Bool) : (a < n ∧ ((a : Int) < n) ∧ (decide (a < n) || (a == n && b)) = true) ∨ (¬ a < n ∧ ¬ ((a : Int) < n) ∧ ((a : Int) == (n : Int)) = true ∧ a = n ∧ (decide (a < n) || (a == n && b)) = b) ∨ (¬ a < n ∧ ¬ ((a : Int) < n) ∧ ((a : Int) == (n : Int)) = false ∧ (decide (a < n) || (a == n && b)) = false) := by
 rcases Nat.lt_trichotomy a n with h | h | h
 ·
  exact .inl ⟨h, by omega, by simp [h]⟩
 ·
  refine .inr (.inl ⟨by omega, by omega, ?_, h, ?_⟩)
  ·
   rw [eq_cast]; simp [h]
  ·
   simp [h]
 ·
  refine .inr (.inr ⟨by omega, by omega, ?_, ?_⟩)
  ·
   rw [eq_cast]; simp; omega
  ·
   have h1 : ¬ a < n := by omega
   have h2 : (a == n) = false := by simp; omega
   simp [h1, h2]
set_option maxRecDepth 20000 in
set_option maxHeartbeats 2000000 in
theorem less2_any (n x A B : Nat) (w : World) (hx : x < 274877906944) (hn : n ≤ 1000) (hA : row w A = #[.int .i64 2]) (hB : row w B = #[.int .i64 n]) :
  Calls Tryz.prog 164 #[.int .u64 x, .pointer (some ⟨A, 0, none⟩), .pointer (some ⟨B, 0, none⟩)] w fun e w' => e = .returned (.bool (less2 n x)) ∧ w' = w := by
 have hmul := fun w => Tryz.bits_Mul64 x x (by omega) (by omega) w
 have jn : (n : Int) ≤ 1000 := by omega
 unfold less2
 obtain ⟨hi, hhi⟩ : ∃ p, x * x / 18446744073709551616 = p := ⟨_, rfl⟩
 obtain ⟨lo, hlo⟩ : ∃ p, x * x % 18446744073709551616 = p := ⟨_, rfl⟩
 simp only [hhi, hlo] at hmul ⊢
 have HM := Lib.hid hmul
 clear hmul hhi hlo
 obtain ⟨b, hb⟩ : ∃ b, (lo == 0) = b := ⟨_, rfl⟩
 have hb' : ((lo : Int) == 0) = b := by rw [eq_cast0]; exact hb
 rw [hb]
 clear hb
 have hc := cases3 hi n b
 obtain ⟨R, hR⟩ : ∃ R, (decide (hi < n) || (hi == n && b)) = R := ⟨_, rfl⟩
 rw [hR] at hc ⊢
 have HC := Lib.hid hc
 clear hR hc
 go_enter Tryz.func164, Tryz.ntmps164
 go_wp2_with fail
 (with_reducible refine (HM.out _).mono ?_)
 rintro e w1 ⟨rfl, rfl⟩
 clear HM
 rcases HC.out with ⟨c1, c2, rfl⟩ | ⟨c1, c2, c3, c4, rfl⟩ | ⟨c1, c2, c3, rfl⟩
 ·
  clear HC
  go_wp2_with fail
  go_ret
  exact ⟨rfl, rfl⟩
 ·
  clear HC c4
  cases R
  ·
   go_wp2_with fail
   go_ret
   exact ⟨rfl, rfl⟩
  ·
   go_wp2_with fail
   go_ret
   exact ⟨rfl, rfl⟩
 ·
  clear HC
  go_wp2_with fail
  go_ret
  exact ⟨rfl, rfl⟩
theorem modc (c d t : Nat) (h : (c + d) % 18446744073709551616 = t) : ((c : Int) + (d : Int)) % 18446744073709551616 = (t : Int) := by omega
theorem cases3I (a n : Int) (b : Bool) : (a < n ∧ (decide (a < n) || (a == n && b)) = true) ∨ (¬ a < n ∧ a = n ∧ (a == n) = true ∧ (decide (a < n) || (a == n && b)) = b) ∨ (¬ a < n ∧ (a == n) = false ∧ (decide (a < n) || (a == n && b)) = false) := by
 rcases Int.lt_trichotomy a n with h | h | h
 ·
  exact .inl ⟨h, by simp [h]⟩
 ·
  exact .inr (.inl ⟨by omega, h, by simp [h], by simp [h]⟩)
 ·
  refine .inr (.inr ⟨by omega, by simp; omega, ?_⟩)
  have h1 : ¬ a < n := by omega
  have h2 : (a == n) = false := by simp; omega
  simp [h1, h2]
def whole3 (top mid : Nat) : Int := bits .or .u64 (IntKind.u64.wrap ((top : Int) * 4294967296)) ((mid : Int) / 4294967296)
def less3 (n x : Nat) : Bool :=
 let hi := x * x / 18446744073709551616
 let lo := x * x % 18446744073709551616
 let s := lo * x / 18446744073709551616 + hi * x % 18446744073709551616
 let top := (hi * x / 18446744073709551616 + s / 18446744073709551616) % 18446744073709551616
 let mid := s % 18446744073709551616
 decide (whole3 top mid < (n : Int)) || (whole3 top mid == (n : Int) && ((IntKind.u64.wrap ((mid : Int) * 4294967296) == 0) && (lo * x % 18446744073709551616 == 0)))
set_option maxRecDepth 20000 in
set_option maxHeartbeats 2000000 in
theorem less3_any (n x A B : Nat) (w : World) (hx : x < 274877906944) (hn : n ≤ 1000) (hA : row w A = #[.int .i64 3]) (hB : row w B = #[.int .i64 n]) :
  Calls Tryz.prog 164 #[.int .u64 x, .pointer (some ⟨A, 0, none⟩), .pointer (some ⟨B, 0, none⟩)] w fun e w' => e = .returned (.bool (less3 n x)) ∧ w' = w := by
 have jn : (n : Int) ≤ 1000 := by omega
 have m1 := fun w => Tryz.bits_Mul64 x x (by omega) (by omega) w
 obtain ⟨hi, hhi⟩ : ∃ p, x * x / 18446744073709551616 = p := ⟨_, rfl⟩
 obtain ⟨lo, hlo⟩ : ∃ p, x * x % 18446744073709551616 = p := ⟨_, rfl⟩
 have lhi : hi < 18446744073709551616 := by
  rw [← hhi]
  have := Nat.mul_lt_mul'' hx hx
  omega
 have llo : lo < 18446744073709551616 := by rw [← hlo]; exact Nat.mod_lt _ (by decide)
 have m2 := fun w => Tryz.bits_Mul64 lo x llo (by omega) w
 have m3 := fun w => Tryz.bits_Mul64 hi x lhi (by omega) w
 unfold less3
 simp only [hhi, hlo] at m1 ⊢
 obtain ⟨a, ha⟩ : ∃ p, lo * x / 18446744073709551616 = p := ⟨_, rfl⟩
 obtain ⟨b, hb⟩ : ∃ p, lo * x % 18446744073709551616 = p := ⟨_, rfl⟩
 obtain ⟨c, hc⟩ : ∃ p, hi * x / 18446744073709551616 = p := ⟨_, rfl⟩
 obtain ⟨d, hd⟩ : ∃ p, hi * x % 18446744073709551616 = p := ⟨_, rfl⟩
 simp only [ha, hb] at m2 ⊢
 simp only [hc, hd] at m3 ⊢
 have m4 := fun w => add64_run0 a d w
 obtain ⟨mid, hmid⟩ : ∃ p, (a + d) % 18446744073709551616 = p := ⟨_, rfl⟩
 obtain ⟨car, hcar⟩ : ∃ p, (a + d) / 18446744073709551616 = p := ⟨_, rfl⟩
 simp only [hmid, hcar] at m4 ⊢
 obtain ⟨top, htop⟩ : ∃ p, (c + car) % 18446744073709551616 = p := ⟨_, rfl⟩
 simp only [htop] at ⊢
 have hT : IntKind.u64.wrap ((c : Int) + (car : Int)) = (top : Int) := by rw [IntKind.wrap_u64]; exact modc _ _ _ htop
 have M1 := Lib.hid m1
 have M2 := Lib.hid m2
 have M3 := Lib.hid m3
 clear m1 m2 m3 hhi hlo ha hb hc hd hmid hcar htop lhi llo
 unfold whole3
 obtain ⟨b0, hb0⟩ : ∃ q, (b == 0) = q := ⟨_, rfl⟩
 have hb0' : ((b : Int) == 0) = b0 := by rw [eq_cast0]; exact hb0
 obtain ⟨b1, hb1⟩ : ∃ q, (IntKind.u64.wrap ((mid : Int) * 4294967296) == 0) = q := ⟨_, rfl⟩
 rw [hb0, hb1]
 clear hb0
 obtain ⟨W, hW⟩ : ∃ W, bits .or .u64 (IntKind.u64.wrap ((top : Int) * 4294967296)) ((mid : Int) / 4294967296) = W := ⟨_, rfl⟩
 rw [hW]
 have hcs := cases3I W n (b1 && b0)
 obtain ⟨R, hR⟩ : ∃ R, (decide (W < (n : Int)) || (W == (n : Int) && (b1 && b0))) = R := ⟨_, rfl⟩
 rw [hR] at hcs ⊢
 have HC := Lib.hid hcs
 clear hR hcs
 go_enter Tryz.func164, Tryz.ntmps164
 go_wp2_with fail
 (with_reducible refine (M1.out _).mono ?_)
 rintro e w1 ⟨rfl, rfl⟩
 clear M1
 go_wp2_with fail
 (with_reducible refine (M2.out _).mono ?_)
 rintro e w1 ⟨rfl, rfl⟩
 clear M2
 go_wp2_with fail
 (with_reducible refine (M3.out _).mono ?_)
 rintro e w1 ⟨rfl, rfl⟩
 clear M3
 rcases HC.out with ⟨c1, rfl⟩ | ⟨c1, c4, c3, rfl⟩ | ⟨c1, c3, rfl⟩
 ·
  clear HC
  go_wp2_with fail
  go_ret
  exact ⟨rfl, rfl⟩
 ·
  clear HC c4
  have c5 : decide (W < (n : Int)) = false := decide_eq_false (Int.not_lt.2 c1)
  cases b1
  ·
   go_wp2_with fail
   go_ret
   exact ⟨rfl, rfl⟩
  ·
   cases b0
   ·
    go_wp2_with fail
    go_ret
    exact ⟨rfl, rfl⟩
   ·
    go_wp2_with fail
    go_ret
    exact ⟨rfl, rfl⟩
 ·
  clear HC
  have c5 : decide (W < (n : Int)) = false := decide_eq_false (Int.not_lt.2 c1)
  go_wp2_with fail
  go_ret
  exact ⟨rfl, rfl⟩
end
section
open Go.RowKit
theorem shaless_any (power n : Int) (w : World) :
  Calls Tryz.prog 146 #[.int .i64 power, .int .i64 n] w fun e w' => e = .returned (.func (.func 164) #[] #[.pointer (some ⟨w.heap.size, 0, none⟩), .pointer (some ⟨w.heap.size + 1, 0, none⟩)]) ∧ row w' w.heap.size = #[.int .i64 power] ∧ row w' (w.heap.size + 1) = #[.int .i64 n] ∧ w.heap.size + 1 < w'.heap.size ∧ Below w.heap.size w w' := by
 go_enter Tryz.func146, Tryz.ntmps146
 go_wp2_with fail
 go_ret
 exact ⟨rfl, by simp [go_sem], by simp [go_sem], by simp, (by (repeat (first | exact Below.refl _ _ | refine Below.al ?_ _ | refine Below.drew ?_ | refine Below.sr ?_ _ | refine Below.sc ?_ _)))⟩
def rS (f : Nat → Bool) (i x : Nat) : Nat := if f (x + 2 ^ (37 - i)) then x + 2 ^ (37 - i) else x
def rX (f : Nat → Bool) (i : Nat) : Nat := upTo (rS f) i 0
theorem rX_zero (f : Nat → Bool) : rX f 0 = 0 := rfl
theorem rX_succ (f : Nat → Bool) (i : Nat) : rX f (i + 1) = if f (rX f i + 2 ^ (37 - i)) then rX f i + 2 ^ (37 - i) else rX f i := rfl
theorem rX_le (f : Nat → Bool) (i : Nat) (h : i ≤ 38) : rX f i + 2 ^ (38 - i) ≤ 274877906944 ∧ rX f i % 2 ^ (38 - i) = 0 := by
 induction i with
 | zero => rw [rX_zero]; exact ⟨by decide, by decide⟩
 | succ i ih =>
  obtain ⟨h1, h2⟩ := ih (by omega)
  have e : 38 - i = (37 - i) + 1 := by omega
  rw [e, Nat.pow_succ] at h1 h2
  have e2 : 38 - (i + 1) = 37 - i := by omega
  rw [rX_succ, e2]
  obtain ⟨p, hp⟩ : ∃ p, 2 ^ (37 - i) = p := ⟨_, rfl⟩
  rw [hp] at h1 h2 ⊢
  have h3 : rX f i % p = 0 := by
   have hd : p ∣ rX f i := Nat.dvd_trans (Nat.dvd_mul_right p 2) (Nat.dvd_of_mod_eq_zero h2)
   exact Nat.mod_eq_zero_of_dvd hd
  split
  ·
   exact ⟨by omega, by rw [Nat.add_mod, h3]; simp⟩
  ·
   exact ⟨by omega, h3⟩
theorem wraps_u64 (n : Int) (h₀ : 0 ≤ n) (h₁ : n < 2 ^ 63) : IntKind.u64.wrap n = n := by rw [IntKind.wrap_u64]; omega
theorem u32_cast (x : Nat) : IntKind.u32.wrap (x : Int) = ((x % 4294967296 : Nat) : Int) := by rw [IntKind.wrap_u32]; omega
theorem or_bit (x c : Nat) (h1 : x + 2 ^ c * 2 ≤ 274877906944) (h2 : x % (2 ^ c * 2) = 0) : bits .or .u64 (x : Int) (IntKind.u64.wrap (2 ^ c)) = ((x + 2 ^ c : Nat) : Int) := by
 obtain ⟨p, hp2⟩ : ∃ p, 2 ^ c = p := ⟨_, rfl⟩
 have hpos : 0 < p := by rw [← hp2]; exact Nat.two_pow_pos c
 have hp : (2 : Int) ^ c = (p : Int) := by rw [← hp2]; push_cast; rfl
 have e2 : (2 : Int) ^ (c + 1) = ((p * 2 : Nat) : Int) := by rw [Int.pow_succ, hp]; push_cast; rfl
 rw [hp2] at h1 h2 ⊢
 have h3 : (x : Int) % 2 ^ (c + 1) = 0 := by rw [e2]; exact_mod_cast h2
 have h4 : (p : Int) < 2 ^ (c + 1) := by rw [e2]; push_cast; omega
 clear h2 e2
 have hw : IntKind.u64.wrap (p : Int) = (p : Int) := wraps_u64 _ (by omega) (by omega)
 rw [hp, hw, bits_join .u64 63 (by decide) wraps_u64 (c + 1) (x : Int) (p : Int) (by omega) h3 (by omega) (by omega) h4 (by omega)]
 push_cast
 rfl
def rootI (f : Nat → Bool) : Int := ((rX f 38 % 4294967296 : Nat) : Int)
set_option maxRecDepth 20000 in
set_option maxHeartbeats 2000000 in
theorem root2_any (n : Nat) (w : World) (hn : n ≤ 1000) :
  Calls Tryz.prog 113 #[.int .i64 n, .int .i64 2] w fun e w' => e = .returned (.int .u32 (rootI (less2 n))) ∧ Below w.heap.size w w' := by
 have jn : (n : Int) ≤ 1000 := by omega
 have jn0 : ¬ (n : Int) < 0 := by omega
 have jn1 : ¬ (1000 : Int) < (n : Int) := by omega
 go_enter Tryz.func113, Tryz.ntmps113
 go_wp2_with fail
 refine (shaless_any _ _ _).mono ?_
 rintro e w1 ⟨rfl, rA, rB, z1, b1⟩
 go_wp2_with fail
 go_loopw [6, 7] (fun x b wr => ∃ i : Nat, i ≤ 38 ∧ x = .int .u64 (rX (less2 n) i) ∧ b = .int .i64 (37 - (i : Int)) ∧ wr = w1) (fun _ b _ => (intOf b + 1).toNat)
 case atStart => exact ⟨0, by omega, by rw [rX_zero]; rfl, rfl, rfl⟩
 case round =>
  obtain ⟨i, hi, rfl, rfl, rfl⟩ := hrel
  obtain ⟨h1, h2⟩ := rX_le (less2 n) i hi
  have hs := Lib.hid (rX_succ (less2 n) i)
  obtain ⟨x, hx⟩ : ∃ x, rX (less2 n) i = x := ⟨_, rfl⟩
  rw [hx] at h1 h2 hs ⊢
  have HX := Lib.hid hx
  clear hx
  by_cases hlt : i < 38
  ·
   obtain ⟨c, hc⟩ : ∃ c, 37 - i = c := ⟨_, rfl⟩
   have e1 : (37 : Int) - (i : Int) = (c : Int) := by omega
   rw [hc] at hs
   rw [show 38 - i = c + 1 by omega, Nat.pow_succ] at h1 h2
   have hc1 : (c : Int) < 38 := by omega
   have e2 := or_bit x c h1 h2
   obtain ⟨y, hy⟩ : ∃ y, x + 2 ^ c = y := ⟨_, rfl⟩
   rw [hy] at e2 hs
   have hyb : y < 274877906944 := by have := Nat.two_pow_pos c; omega
   have hL := Lib.hid (less2_any n y w.heap.size (w.heap.size + 1) wr hyb hn rA rB)
   obtain ⟨b, hb⟩ : ∃ b, less2 n y = b := ⟨_, rfl⟩
   rw [hb] at hL hs
   have HB := Lib.hid hb
   have hdec : IntKind.i64.wrap ((c : Int) - 1) = 37 - ((i + 1 : Nat) : Int) := by rw [IntKind.wrap_i64]; omega
   have HD := Lib.hid hdec
   have hcI : (37 : Int) - ((i + 1 : Nat) : Int) = (c : Int) - 1 := by omega
   have HS := Lib.hid hs
   have HCI := Lib.hid hcI
   rw [e1]
   clear hb hs h1 h2 hy hdec hcI hc
   go_wp2_with fail
   (with_reducible refine (hL.out).mono ?_)
   rintro e w2 ⟨rfl, rfl⟩
   clear hL
   cases b
   ·
    go_wp2_with fail
    go_roundw
    case rel => exact ⟨i + 1, by omega, by rw [HS.out]; rfl, by rw [HCI.out], trivial⟩
    case measure => simp [intOf]
   ·
    go_wp2_with fail
    go_roundw
    case rel => exact ⟨i + 1, by omega, by rw [HS.out]; rfl, by rw [HCI.out], trivial⟩
    case measure => simp [intOf]
  ·
   obtain rfl : i = 38 := by omega
   rw [show (37 : Int) - ((38 : Nat) : Int) = -1 by decide]
   have HR : rootI (less2 n) = ((x % 4294967296 : Nat) : Int) := by rw [rootI, HX.out]
   have HR2 : IntKind.u32.wrap (x : Int) = rootI (less2 n) := by rw [HR]; exact u32_cast x
   clear HR h1 h2 hs
   go_wp2_with fail
   go_ret
   exact ⟨rfl, b1⟩
set_option maxRecDepth 20000 in
set_option maxHeartbeats 2000000 in
theorem root3_any (n : Nat) (w : World) (hn : n ≤ 1000) :
  Calls Tryz.prog 113 #[.int .i64 n, .int .i64 3] w fun e w' => e = .returned (.int .u32 (rootI (less3 n))) ∧ Below w.heap.size w w' := by
 have jn : (n : Int) ≤ 1000 := by omega
 have jn0 : ¬ (n : Int) < 0 := by omega
 have jn1 : ¬ (1000 : Int) < (n : Int) := by omega
 go_enter Tryz.func113, Tryz.ntmps113
 go_wp2_with fail
 refine (shaless_any _ _ _).mono ?_
 rintro e w1 ⟨rfl, rA, rB, z1, b1⟩
 go_wp2_with fail
 go_loopw [6, 7] (fun x b wr => ∃ i : Nat, i ≤ 38 ∧ x = .int .u64 (rX (less3 n) i) ∧ b = .int .i64 (37 - (i : Int)) ∧ wr = w1) (fun _ b _ => (intOf b + 1).toNat)
 case atStart => exact ⟨0, by omega, by rw [rX_zero]; rfl, rfl, rfl⟩
 case round =>
  obtain ⟨i, hi, rfl, rfl, rfl⟩ := hrel
  obtain ⟨h1, h2⟩ := rX_le (less3 n) i hi
  have hs := Lib.hid (rX_succ (less3 n) i)
  obtain ⟨x, hx⟩ : ∃ x, rX (less3 n) i = x := ⟨_, rfl⟩
  rw [hx] at h1 h2 hs ⊢
  have HX := Lib.hid hx
  clear hx
  by_cases hlt : i < 38
  ·
   obtain ⟨c, hc⟩ : ∃ c, 37 - i = c := ⟨_, rfl⟩
   have e1 : (37 : Int) - (i : Int) = (c : Int) := by omega
   rw [hc] at hs
   rw [show 38 - i = c + 1 by omega, Nat.pow_succ] at h1 h2
   have hc1 : (c : Int) < 38 := by omega
   have e2 := or_bit x c h1 h2
   obtain ⟨y, hy⟩ : ∃ y, x + 2 ^ c = y := ⟨_, rfl⟩
   rw [hy] at e2 hs
   have hyb : y < 274877906944 := by have := Nat.two_pow_pos c; omega
   have hL := Lib.hid (less3_any n y w.heap.size (w.heap.size + 1) wr hyb hn rA rB)
   obtain ⟨b, hb⟩ : ∃ b, less3 n y = b := ⟨_, rfl⟩
   rw [hb] at hL hs
   have HB := Lib.hid hb
   have hdec : IntKind.i64.wrap ((c : Int) - 1) = 37 - ((i + 1 : Nat) : Int) := by rw [IntKind.wrap_i64]; omega
   have HD := Lib.hid hdec
   have hcI : (37 : Int) - ((i + 1 : Nat) : Int) = (c : Int) - 1 := by omega
   have HS := Lib.hid hs
   have HCI := Lib.hid hcI
   rw [e1]
   clear hb hs h1 h2 hy hdec hcI hc
   go_wp2_with fail
   (with_reducible refine (hL.out).mono ?_)
   rintro e w2 ⟨rfl, rfl⟩
   clear hL
   cases b
   ·
    go_wp2_with fail
    go_roundw
    case rel => exact ⟨i + 1, by omega, by rw [HS.out]; rfl, by rw [HCI.out], trivial⟩
    case measure => simp [intOf]
   ·
    go_wp2_with fail
    go_roundw
    case rel => exact ⟨i + 1, by omega, by rw [HS.out]; rfl, by rw [HCI.out], trivial⟩
    case measure => simp [intOf]
  ·
   obtain rfl : i = 38 := by omega
   rw [show (37 : Int) - ((38 : Nat) : Int) = -1 by decide]
   have HR : rootI (less3 n) = ((x % 4294967296 : Nat) : Int) := by rw [rootI, HX.out]
   have HR2 : IntKind.u32.wrap (x : Int) = rootI (less3 n) := by rw [HR]; exact u32_cast x
   clear HR h1 h2 hs
   go_wp2_with fail
   go_ret
   exact ⟨rfl, b1⟩
end
section
open Go.RowKit
def rtF (r : Nat → Int) (ps : List Nat) (i : Nat) (l : List Int) : List Int := l.set i (r (ps.getD i 0))
theorem rtF_length (r : Nat → Int) (ps : List Nat) (i : Nat) (l : List Int) : (rtF r ps i l).length = l.length := by simp [rtF]
theorem shconstants_len : (pL 310).length = 64 := by decide +kernel
theorem shconstants_low (m : Nat) (h : m < 310) : (pL m).length < 64 := by
 have h1 := pL_monos m (309 - m)
 rw [show m + (309 - m) = 309 by omega] at h1
 have h2 : (pL 309).length < 64 := by decide +kernel
 omega
def shconstantsL : List Int := upTo (rtF (fun p => rootI (less3 p)) (pL 310)) 64 (List.replicate 64 0)
theorem shconstantsL_length : shconstantsL.length = 64 := by rw [shconstantsL, upTo_len (rtF_length _ _)]; simp
set_option maxRecDepth 20000 in
set_option maxHeartbeats 2000000 in
theorem shconstants_any (w : World) :
  Calls Tryz.prog 83 #[] w fun e w' => e = .returned (.agg (u32s shconstantsL).toArray) ∧ Below w.heap.size w w' := by
 have HP := Lib.hid (fun w => primes_any 64 310 w (by omega) (by omega) shconstants_low shconstants_len)
 have hlen := shconstants_len
 have hmem := pL_mem 310
 have hkl := shconstantsL_length
 obtain ⟨K, hK⟩ : ∃ K, shconstantsL = K := ⟨_, rfl⟩
 have hK2 : upTo (rtF (fun p => rootI (less3 p)) (pL 310)) 64 (List.replicate 64 0) = K := by rw [← hK]; rfl
 rw [hK] at hkl ⊢
 obtain ⟨ps, hps⟩ : ∃ ps, pL 310 = ps := ⟨_, rfl⟩
 rw [hps] at HP hlen hmem hK2
 obtain ⟨r, hr⟩ : ∃ r : Nat → Int, (fun p => rootI (less3 p)) = r := ⟨_, rfl⟩
 have hroot : ∀ (p : Nat) (w : World), p ≤ 1000 → Calls Tryz.prog 113 #[.int .i64 p, .int .i64 3] w fun e w' => e = .returned (.int .u32 (r p)) ∧ Below w.heap.size w w' := fun p w hp => by
  rw [← hr]
  exact root3_any p w hp
 rw [hr] at hK2
 have HK := Lib.hid hK2
 have HR := Lib.hid hroot
 have HM := Lib.hid hmem
 clear hr hps hK hK2 hroot hmem
 go_enter Tryz.func83, Tryz.ntmps83
 go_wp2_with fail
 refine (HP.out _).mono ?_
 rintro e w1 ⟨v, rfl, own, b1⟩
 have rV1 : row w1 (w.heap.size + 1) = (zeros 64 (.int .u32 0)).toArray := by rw [row_below b1 (by simp)]; simp [go_sem]
 have rR1 : row w1 w.heap.size = (zeros 64 (.int .u32 0)).toArray := by rw [row_below b1 (by simp; omega)]; simp [go_sem]
 have hz1 : w.heap.size + 1 < w1.heap.size := by have := b1.size; simp at this; omega
 replace b1 := below_of b1 (show Below (w).heap.size w _ from by (repeat (first | exact Below.refl _ _ | refine Below.al ?_ _ | refine Below.drew ?_ | refine Below.sr ?_ _ | refine Below.sc ?_ _))) (by first | (simp; done) | (simp; omega) | omega)
 obtain ⟨q, c, rfl, hq⟩ := own.form
 rw [n64s_length, hlen] at hq ⊢
 obtain ⟨g, s, rfl, hg1, hg2, hr⟩ := hq (by omega)
 have hgne : w.heap.size + 1 < g := by simp at hg1; omega
 clear hq own HP
 go_wp2_with fail
 go_loopw [6] (fun i wr => ∃ m : Nat, m ≤ 64 ∧ i = .int .i64 m ∧ row wr (w.heap.size + 1) = (u32s (upTo (rtF r ps) m (List.replicate 64 0))).toArray ∧ row wr w.heap.size = (zeros 64 (.int .u32 0)).toArray ∧ row wr g = (n64s ps ++ s).toArray ∧ w1.heap.size ≤ wr.heap.size ∧ Below w.heap.size w wr) (fun i _ => 64 - (intOf i).toNat)
 case atStart =>
  refine ⟨0, by omega, rfl, ?_, rR1, hr, Nat.le_refl _, b1⟩
  rw [upTo, u32s_zeros]
  exact rV1
 case round =>
  clear rV1 rR1 hr b1
  obtain ⟨m, hm, rfl, hV, hR, hr, hz, hbel⟩ := hrel
  obtain ⟨L, hL⟩ : ∃ L, upTo (rtF r ps) m (List.replicate 64 0) = L := ⟨_, rfl⟩
  have hLl : L.length = 64 := by rw [← hL, upTo_len (rtF_length _ _)]; simp
  rw [hL] at hV
  have HL := Lib.hid hL
  clear hL
  by_cases hlt : m < 64
  ·
   have h1 : (m : Int) < 64 := by omega
   have h3 : m < L.length := by omega
   have h4 : m < ps.length := by omega
   obtain ⟨x, hx⟩ : ∃ x, ps[m] = x := ⟨_, rfl⟩
   have ux : m < ps.length + s.length := by omega
   have ux2 : m < 64 + s.length := by omega
   have tx : (n64s ps ++ s)[m]'(by simp; omega) = .int .i64 (x : Int) := by rw [List.getElem_append_left (by simpa using h4), n64s_get, hx]
   have hx2 := HM.out x (by rw [← hx]; exact List.getElem_mem _)
   have HX := Lib.hid (show ps.getD m 0 = x by rw [getD_at _ _ h4]; exact hx)
   have hC := Lib.hid (fun w => HR.out x w (by omega))
   clear hx hx2
   go_wp2_with fail
   refine (hC.out _).mono ?_
   rintro e w2 ⟨rfl, b2⟩
   have z2 := b2.size
   have hV2 := (row_below b2 (by omega)).trans hV
   have hR2 := (row_below b2 (by omega)).trans hR
   have hr2 := (row_below b2 (by omega)).trans hr
   have hb2 : Below w.heap.size w w2 := Below.trans hbel (b2.mono (by omega))
   clear b2 hC
   go_wp2_with fail
   go_roundw
   case rel =>
    refine ⟨m + 1, by omega, rfl, ?_, by (try show row (World.setRow _ _ _) _ = _); rw [row_setRow_other _ _ _ (by omega)]; exact hR2, by (try show row (World.setRow _ _ _) _ = _); rw [row_setRow_other _ _ _ (by omega)]; exact hr2, by simp; omega, Below.setRow hb2 (by omega) _⟩
    rw [upTo, HL.out, rtF, HX.out]
    exact row_setRow_same (by rw [hV2]; simp; omega) (by rw [hV2]; simp)
   case measure => simp [intOf]; omega
  ·
   obtain rfl : m = 64 := by omega
   rw [show ((64 : Nat) : Int) = 64 from rfl]
   have e : L = K := by rw [← HL.out]; exact HK.out
   rw [e] at hLl hV
   go_wp2_with fail
   have hfin := row_setRow_same (w := wr) (g := w.heap.size) (c := (u32s K).toArray) (by rw [hR]; simp) (by rw [hR]; simp [hLl])
   (try simp only [Exit.inBlock, Exit.then])
   refine bodyPost_ret (results_1 rfl (resOk_row rfl ?_)) rfl ?_
   ·
    rw [hfin]
    simp [hLl]
   refine ⟨by rw [hfin], ?_⟩
   exact Below.setRow hbel (by omega) _
theorem shfirst_len : (pL 18).length = 8 := by decide +kernel
theorem shfirst_low (m : Nat) (h : m < 18) : (pL m).length < 8 := by
 have h1 := pL_monos m (17 - m)
 rw [show m + (17 - m) = 17 by omega] at h1
 have h2 : (pL 17).length < 8 := by decide +kernel
 omega
def shfirstL : List Int := upTo (rtF (fun p => rootI (less2 p)) (pL 18)) 8 (List.replicate 8 0)
theorem shfirstL_length : shfirstL.length = 8 := by rw [shfirstL, upTo_len (rtF_length _ _)]; simp
set_option maxRecDepth 20000 in
set_option maxHeartbeats 2000000 in
theorem shfirst_any (w : World) :
  Calls Tryz.prog 84 #[] w fun e w' => e = .returned (.agg (u32s shfirstL).toArray) ∧ Below w.heap.size w w' := by
 have HP := Lib.hid (fun w => primes_any 8 18 w (by omega) (by omega) shfirst_low shfirst_len)
 have hlen := shfirst_len
 have hmem := pL_mem 18
 have hkl := shfirstL_length
 obtain ⟨K, hK⟩ : ∃ K, shfirstL = K := ⟨_, rfl⟩
 have hK2 : upTo (rtF (fun p => rootI (less2 p)) (pL 18)) 8 (List.replicate 8 0) = K := by rw [← hK]; rfl
 rw [hK] at hkl ⊢
 obtain ⟨ps, hps⟩ : ∃ ps, pL 18 = ps := ⟨_, rfl⟩
 rw [hps] at HP hlen hmem hK2
 obtain ⟨r, hr⟩ : ∃ r : Nat → Int, (fun p => rootI (less2 p)) = r := ⟨_, rfl⟩
 have hroot : ∀ (p : Nat) (w : World), p ≤ 1000 → Calls Tryz.prog 113 #[.int .i64 p, .int .i64 2] w fun e w' => e = .returned (.int .u32 (r p)) ∧ Below w.heap.size w w' := fun p w hp => by
  rw [← hr]
  exact root2_any p w hp
 rw [hr] at hK2
 have HK := Lib.hid hK2
 have HR := Lib.hid hroot
 have HM := Lib.hid hmem
 clear hr hps hK hK2 hroot hmem
 go_enter Tryz.func84, Tryz.ntmps84
 go_wp2_with fail
 refine (HP.out _).mono ?_
 rintro e w1 ⟨v, rfl, own, b1⟩
 have rV1 : row w1 (w.heap.size + 1) = (zeros 8 (.int .u32 0)).toArray := by rw [row_below b1 (by simp)]; simp [go_sem]
 have rR1 : row w1 w.heap.size = (zeros 8 (.int .u32 0)).toArray := by rw [row_below b1 (by simp; omega)]; simp [go_sem]
 have hz1 : w.heap.size + 1 < w1.heap.size := by have := b1.size; simp at this; omega
 replace b1 := below_of b1 (show Below (w).heap.size w _ from by (repeat (first | exact Below.refl _ _ | refine Below.al ?_ _ | refine Below.drew ?_ | refine Below.sr ?_ _ | refine Below.sc ?_ _))) (by first | (simp; done) | (simp; omega) | omega)
 obtain ⟨q, c, rfl, hq⟩ := own.form
 rw [n64s_length, hlen] at hq ⊢
 obtain ⟨g, s, rfl, hg1, hg2, hr⟩ := hq (by omega)
 have hgne : w.heap.size + 1 < g := by simp at hg1; omega
 clear hq own HP
 go_wp2_with fail
 go_loopw [6] (fun i wr => ∃ m : Nat, m ≤ 8 ∧ i = .int .i64 m ∧ row wr (w.heap.size + 1) = (u32s (upTo (rtF r ps) m (List.replicate 8 0))).toArray ∧ row wr w.heap.size = (zeros 8 (.int .u32 0)).toArray ∧ row wr g = (n64s ps ++ s).toArray ∧ w1.heap.size ≤ wr.heap.size ∧ Below w.heap.size w wr) (fun i _ => 8 - (intOf i).toNat)
 case atStart =>
  refine ⟨0, by omega, rfl, ?_, rR1, hr, Nat.le_refl _, b1⟩
  rw [upTo, u32s_zeros]
  exact rV1
 case round =>
  clear rV1 rR1 hr b1
  obtain ⟨m, hm, rfl, hV, hR, hr, hz, hbel⟩ := hrel
  obtain ⟨L, hL⟩ : ∃ L, upTo (rtF r ps) m (List.replicate 8 0) = L := ⟨_, rfl⟩
  have hLl : L.length = 8 := by rw [← hL, upTo_len (rtF_length _ _)]; simp
  rw [hL] at hV
  have HL := Lib.hid hL
  clear hL
  by_cases hlt : m < 8
  ·
   have h1 : (m : Int) < 8 := by omega
   have h3 : m < L.length := by omega
   have h4 : m < ps.length := by omega
   obtain ⟨x, hx⟩ : ∃ x, ps[m] = x := ⟨_, rfl⟩
   have ux : m < ps.length + s.length := by omega
   have ux2 : m < 8 + s.length := by omega
   have tx : (n64s ps ++ s)[m]'(by simp; omega) = .int .i64 (x : Int) := by rw [List.getElem_append_left (by simpa using h4), n64s_get, hx]
   have hx2 := HM.out x (by rw [← hx]; exact List.getElem_mem _)
   have HX := Lib.hid (show ps.getD m 0 = x by rw [getD_at _ _ h4]; exact hx)
   have hC := Lib.hid (fun w => HR.out x w (by omega))
   clear hx hx2
   go_wp2_with fail
   refine (hC.out _).mono ?_
   rintro e w2 ⟨rfl, b2⟩
   have z2 := b2.size
   have hV2 := (row_below b2 (by omega)).trans hV
   have hR2 := (row_below b2 (by omega)).trans hR
   have hr2 := (row_below b2 (by omega)).trans hr
   have hb2 : Below w.heap.size w w2 := Below.trans hbel (b2.mono (by omega))
   clear b2 hC
   go_wp2_with fail
   go_roundw
   case rel =>
    refine ⟨m + 1, by omega, rfl, ?_, by (try show row (World.setRow _ _ _) _ = _); rw [row_setRow_other _ _ _ (by omega)]; exact hR2, by (try show row (World.setRow _ _ _) _ = _); rw [row_setRow_other _ _ _ (by omega)]; exact hr2, by simp; omega, Below.setRow hb2 (by omega) _⟩
    rw [upTo, HL.out, rtF, HX.out]
    exact row_setRow_same (by rw [hV2]; simp; omega) (by rw [hV2]; simp)
   case measure => simp [intOf]; omega
  ·
   obtain rfl : m = 8 := by omega
   rw [show ((8 : Nat) : Int) = 8 from rfl]
   have e : L = K := by rw [← HL.out]; exact HK.out
   rw [e] at hLl hV
   go_wp2_with fail
   have hfin := row_setRow_same (w := wr) (g := w.heap.size) (c := (u32s K).toArray) (by rw [hR]; simp) (by rw [hR]; simp [hLl])
   (try simp only [Exit.inBlock, Exit.then])
   refine bodyPost_ret (results_1 rfl (resOk_row rfl ?_)) rfl ?_
   ·
    rw [hfin]
    simp [hLl]
   refine ⟨by rw [hfin], ?_⟩
   exact Below.setRow hbel (by omega) _
end
end Go.Proofs.YtakkicppgkmokaaGreat
