/- Contracts of package poly: words, numbers of three words, their sums. -/
import Derived.Test.YtcebllbikmgjpaaGreatJ2
import Derived.Test.YtcebllbikmgjpaaGreatBytJ
import Derived.Laws.Externs
import Derived.Lib.Hide
import Derived.Laws.Bits64b
import Derived.Test.YtcebllbikmgjpaaGreatShelfJ
set_option linter.unusedSimpArgs false
set_option linter.unusedVariables false
set_option maxHeartbeats 8000000
set_option maxRecDepth 20000
namespace Go.Proofs.YtcebllbikmgjpaaGreat
open Go.RowKit
def lt64 (n : Nat) : Prop := n < 18446744073709551616
theorem add64_run (x y c : Nat) (hc : c ≤ 1) (w : World) :
  (callFunc 264 #[.int .u64 x, .int .u64 y, .int .u64 c]).run Tryz.prog w =
   .ok (.value (.tuple #[.int .u64 (((x + y + c) % 18446744073709551616 : Nat) : Int), .int .u64 (((x + y + c) / 18446744073709551616 : Nat) : Int)])) w := by
 rw [run_callFunc_extern Tryz.func264 kr_ kr_ kr_ (e := add64Entry) kr_, run_add64 x y c (by omega) (by omega) (by omega) (by omega)]
 simp only [Result.andThen]
 congr 5 <;> omega
def leN : List UInt8 → Nat
 | [] => 0
 | b :: l => b.toNat + 256 * leN l
theorem leN_snoc (l : List UInt8) (b : UInt8) : leN (l ++ [b]) = leN l + b.toNat * 256 ^ l.length := by
 induction l with
 | nil => simp [leN]
 | cons a l ih =>
  simp only [List.cons_append, leN, ih, List.length_cons, Nat.pow_succ]
  grind
theorem leN_lt (l : List UInt8) : leN l < 256 ^ l.length := by
 induction l with
 | nil => simp [leN]
 | cons a l ih =>
  have := a.toNat_lt
  simp only [leN, List.length_cons, Nat.pow_succ]
  omega
theorem leN_lt64 (l : List UInt8) (h : l.length ≤ 8) : lt64 (leN l) := by
 have h1 := leN_lt l
 have h2 : 256 ^ l.length ≤ 256 ^ 8 := Nat.pow_le_pow_right (by decide) h
 unfold lt64
 omega
theorem take_snocL (l : List UInt8) (k : Nat) (h : k < l.length) : l.take (k + 1) = l.take k ++ [l[k]] := by
 rw [List.take_succ_eq_append_getElem h]
theorem word_shift (b : UInt8) (k : Nat) (hk : k < 8) : IntKind.u64.wrap ((b.toNat : Int) * 2 ^ (8 * k)) = (b.toNat : Int) * 2 ^ (8 * k) := by
 have hb := b.toNat_lt
 rw [IntKind.wrap_u64]
 have h : ∀ k : Fin 8, ∀ b : Fin 256, ((b.val : Int) * 2 ^ (8 * k.val)) % 18446744073709551616 = (b.val : Int) * 2 ^ (8 * k.val) := by decide +kernel
 exact h ⟨k, hk⟩ ⟨b.toNat, hb⟩
theorem word_join (l : List UInt8) (k : Nat) (hk : k < 8) (h : k < l.length) : bits .or .u64 (leN (l.take k) : Int) ((l[k].toNat : Int) * 2 ^ (8 * k)) = (leN (l.take (k + 1)) : Int) := by
 have hb := (l[k]).toNat_lt
 have hx := leN_lt (l.take k)
 have hlen : (l.take k).length = k := by simp; omega
 rw [hlen] at hx
 have hp : (2 : Int) ^ (8 * k) = ((256 ^ k : Nat) : Int) := by
  have : (2 : Nat) ^ (8 * k) = 256 ^ k := by rw [Nat.pow_mul]
  rw [← this]; push_cast; rfl
 have hpk : 256 ^ k ≤ 256 ^ 7 := Nat.pow_le_pow_right (by decide) (by omega)
 have hm : l[k].toNat * 256 ^ k ≤ 255 * 256 ^ 7 := Nat.mul_le_mul (by omega) hpk
 rw [take_snocL l k h, leN_snoc, hlen]
 have := bits_join_low .u64 64 (by decide) (fun n h0 h1 => by rw [IntKind.wrap_u64]; omega) (8 * k) (leN (l.take k) : Int) ((l[k].toNat : Int) * 2 ^ (8 * k)) (by omega) (by rw [hp]; omega) (by omega) (by rw [hp]; exact_mod_cast Nat.zero_le _) (Int.mul_emod_left _ _) (by rw [hp]; omega)
 rw [this, hp, ← Int.natCast_mul, ← Int.natCast_add]
theorem pword_any (l : List UInt8) (w : World) (hl : l.length ≤ 8) :
  Calls Tryz.prog 238 #[.string ⟨l.toArray⟩] w fun e w' => e = .returned (.int .u64 (leN l)) ∧ Below w.heap.size w w' := by
 go_enter Tryz.func238, Tryz.ntmps238
 go_wp2_with fail
 go_loop [3, 7] (fun x i => ∃ k : Nat, k ≤ l.length ∧ i = .int .i64 k ∧ x = .int .u64 (leN (l.take k) : Nat)) (fun _ i => l.length - (intOf i).toNat)
 case atStart => exact ⟨0, Nat.zero_le _, rfl, rfl⟩
 case round =>
  obtain ⟨k, hk, rfl, rfl⟩ := hrel
  by_cases hlt : k < l.length
  ·
   have h1 : (k : Int) < l.length := by omega
   have hw := word_shift l[k] k (by omega)
   have hj := word_join l k (by omega) hlt
   obtain ⟨x, hx⟩ : ∃ x, leN (l.take k) = x := ⟨_, rfl⟩
   obtain ⟨y, hy⟩ : ∃ y, leN (l.take (k + 1)) = y := ⟨_, rfl⟩
   rw [hx, hy] at hj
   rw [hx]
   have HY := h_ hy
   clear hx hy
   go_wp2_with fail
   go_round
   case rel =>
    have hu : IntKind.u64.wrap (l[k].toNat : Int) = (l[k].toNat : Int) := by have := l[k].toNat_lt; rw [IntKind.wrap_u64]; omega
    exact ⟨k + 1, by omega, by simp, by rw [hu, hw, hj, HY.out]⟩
   case measure => simp [intOf]; omega
  ·
   obtain rfl : k = l.length := by omega
   rw [List.take_length]
   go_wp2_with fail
   go_ret
   exact ⟨rfl, Below.refl _ _⟩
structure Num where
 a : Nat
 b : Nat
 c : Nat
def Num.cells (x : Num) : List Value := [.int .u64 x.a, .int .u64 x.b, .int .u64 x.c]
def Num.lt (x : Num) : Prop := lt64 x.a ∧ lt64 x.b ∧ lt64 x.c
def Num.plus (x y : Num) : Num :=
 ⟨(x.a + y.a) % 18446744073709551616, (x.b + y.b + (x.a + y.a) / 18446744073709551616) % 18446744073709551616, (x.c + y.c + (x.b + y.b + (x.a + y.a) / 18446744073709551616) / 18446744073709551616) % 18446744073709551616⟩
theorem lt64_mod (n : Nat) : lt64 (n % 18446744073709551616) := Nat.mod_lt _ (by decide)
theorem Num.plus_lt (x y : Num) : (x.plus y).lt := ⟨lt64_mod _, lt64_mod _, lt64_mod _⟩
theorem carry_le (x y c : Nat) (hx : lt64 x) (hy : lt64 y) (hc : c ≤ 1) : (x + y + c) / 18446744073709551616 ≤ 1 := by unfold lt64 at hx hy; omega
theorem add64_run0 (x y : Nat) (w : World) :
  (callFunc 264 #[.int .u64 x, .int .u64 y, .int .u64 0]).run Tryz.prog w =
   .ok (.value (.tuple #[.int .u64 (((x + y) % 18446744073709551616 : Nat) : Int), .int .u64 (((x + y) / 18446744073709551616 : Nat) : Int)])) w := add64_run x y 0 (by omega) w
theorem nplus_any (x y : Num) (w : World) (hx : x.lt) (hy : y.lt) :
  Calls Tryz.prog 240 #[.agg x.cells.toArray, .agg y.cells.toArray] w fun e w' => e = .returned (.agg (x.plus y).cells.toArray) ∧ Below w.heap.size w w' := by
 obtain ⟨x0, x1, x2⟩ := x
 obtain ⟨y0, y1, y2⟩ := y
 obtain ⟨a0, a1, a2⟩ := hx
 obtain ⟨b0, b1, b2⟩ := hy
 simp only at a0 a1 a2 b0 b1 b2
 unfold Num.plus Num.cells
 simp only
 have A0 := add64_run0 x0 y0
 have k0 := carry_le x0 y0 0 a0 b0 (by omega)
 obtain ⟨s0, hs0⟩ : ∃ s, (x0 + y0) % 18446744073709551616 = s := ⟨_, rfl⟩
 obtain ⟨c0, hc0⟩ : ∃ s, (x0 + y0) / 18446744073709551616 = s := ⟨_, rfl⟩
 rw [Nat.add_zero, hc0] at k0
 simp only [hs0, hc0] at A0 ⊢
 have A1 := add64_run x1 y1 c0 k0
 have k1 := carry_le x1 y1 c0 a1 b1 k0
 obtain ⟨s1, hs1⟩ : ∃ s, (x1 + y1 + c0) % 18446744073709551616 = s := ⟨_, rfl⟩
 obtain ⟨c1, hc1⟩ : ∃ s, (x1 + y1 + c0) / 18446744073709551616 = s := ⟨_, rfl⟩
 rw [hc1] at k1
 simp only [hs1, hc1] at A1 ⊢
 have A2 := add64_run x2 y2 c1 k1
 obtain ⟨s2, hs2⟩ : ∃ s, (x2 + y2 + c1) % 18446744073709551616 = s := ⟨_, rfl⟩
 obtain ⟨c2, hc2⟩ : ∃ s, (x2 + y2 + c1) / 18446744073709551616 = s := ⟨_, rfl⟩
 simp only [hs2, hc2] at A2 ⊢
 clear hs0 hc0 hs1 hc1 hs2 hc2 k0 k1 a0 a1 a2 b0 b1 b2
 go_enter Tryz.func240, Tryz.ntmps240
 go_wp2_with fail
 ((try simp only [Exit.inBlock, Exit.then]); refine bodyPost_ret (results_1 rfl (resOk_row rfl ?_)) rfl ?_; (simp [go_sem]))
 refine ⟨by simp [go_sem], ?_⟩
 (repeat (first | exact Below.refl _ _ | refine Below.al ?_ _ | refine Below.drew ?_ | refine Below.sr ?_ _ | refine Below.sc ?_ _))
@[go_sem] theorem zeros3_tail : (zeros 3 (Value.int .u64 0)).tail = [.int .u64 0, .int .u64 0] := rfl
def n5 : Num := ⟨5, 0, 0⟩
def Num.less5 (x : Num) : Num := if 3 < (x.plus n5).c then ⟨(x.plus n5).a, (x.plus n5).b, (x.plus n5).c - 4⟩ else x
theorem Num.less5_lt (x : Num) (hx : x.lt) : x.less5.lt := by
 unfold Num.less5
 have h := Num.plus_lt x n5
 split
 ·
  exact ⟨h.1, h.2.1, by have := h.2.2; unfold lt64 at *; show _ - 4 < _; omega⟩
 ·
  exact hx
theorem small_int (n : Nat) (h : lt64 n) (h4 : 3 < n) : IntKind.u64.wrap ((n : Int) - 4) = ((n - 4 : Nat) : Int) := by
 unfold lt64 at h
 rw [IntKind.wrap_u64]
 omega
theorem less5_any (x : Num) (w : World) (hx : x.lt) :
  Calls Tryz.prog 263 #[.agg x.cells.toArray] w fun e w' => e = .returned (.agg x.less5.cells.toArray) ∧ Below w.heap.size w w' := by
 have H5 := fun w => nplus_any x n5 w hx ⟨by unfold lt64 n5; decide, by unfold lt64 n5; decide, by unfold lt64 n5; decide⟩
 have hyl := Num.plus_lt x n5
 unfold Num.less5
 obtain ⟨y, hy⟩ : ∃ y, x.plus n5 = y := ⟨_, rfl⟩
 simp only [hy] at H5 hyl ⊢
 clear hy
 obtain ⟨y0, y1, y2⟩ := y
 obtain ⟨x0, x1, x2⟩ := x
 obtain ⟨_, _, hy2⟩ := hyl
 simp only at hy2
 unfold Num.cells
 simp only
 have H5' : ∀ w, Calls Tryz.prog 240 #[.agg #[.int .u64 x0, .int .u64 x1, .int .u64 x2], .agg #[.int .u64 5, .int .u64 0, .int .u64 0]] w fun e w' => e = .returned (.agg #[.int .u64 y0, .int .u64 y1, .int .u64 y2]) ∧ Below w.heap.size w w' := H5
 have K5 := h_ H5'
 clear H5 H5'
 by_cases h3 : 3 < y2
 ·
  rw [if_pos h3]
  have h3' : (3 : Int) < (y2 : Int) := by omega
  have hsub := small_int y2 hy2 h3
  obtain ⟨z, hz⟩ : ∃ z, y2 - 4 = z := ⟨_, rfl⟩
  simp only [hz] at hsub ⊢
  clear hz hy2
  go_enter Tryz.func263, Tryz.ntmps263
  go_wp2_with fail
  (with_reducible refine (K5.out _).mono ?_)
  rintro e w1 ⟨rfl, b1⟩
  have rX : row w1 w.heap.size = #[.int .u64 x0, .int .u64 x1, .int .u64 x2] := by rw [row_below b1 (by simp; omega)]; simp [go_sem]
  have rR : row w1 (w.heap.size + 1) = (zeros 3 (Value.int .u64 0)).toArray := by rw [row_below b1 (by simp)]; simp [go_sem]
  have z1 := (b1).size
  try simp at z1
  replace b1 := below_of b1 (show Below (w).heap.size w _ from by (repeat (first | exact Below.refl _ _ | refine Below.al ?_ _ | refine Below.drew ?_ | refine Below.sr ?_ _ | refine Below.sc ?_ _))) (by first | (simp; done) | (simp; omega) | omega)
  have q1 : w.heap.size + 1 < w1.heap.size := by omega
  have q2 : w.heap.size < w1.heap.size := by omega
  go_wp2_with fail
  have hfin := row_setRow_same (w := w1) (g := w.heap.size + 1) (c := #[Value.int .u64 y0, .int .u64 y1, .int .u64 z]) (by rw [rR]; simp) (by rw [rR]; simp)
  have hfz := setRow_size w1 (w.heap.size + 1) #[Value.int .u64 y0, .int .u64 y1, .int .u64 z]
  (try simp only [Exit.inBlock, Exit.then])
  refine bodyPost_ret (results_1 rfl (resOk_row rfl ?_)) rfl ⟨?_, ?_⟩
  ·
   first | (rw [hfin]; simp; done) | (rw [row_alloc_past _ _ (by rw [hfz]; omega), hfin]; simp)
  ·
   first | (rw [hfin]; done) | rw [row_alloc_past _ _ (by rw [hfz]; omega), hfin]
  ·
   exact Below.alloc (Below.setRow b1 (by omega) _) (by simp; omega) _
 ·
  rw [if_neg h3]
  have h3' : ¬ (3 : Int) < (y2 : Int) := by omega
  go_enter Tryz.func263, Tryz.ntmps263
  go_wp2_with fail
  (with_reducible refine (K5.out _).mono ?_)
  rintro e w1 ⟨rfl, b1⟩
  have rX : row w1 w.heap.size = #[.int .u64 x0, .int .u64 x1, .int .u64 x2] := by rw [row_below b1 (by simp; omega)]; simp [go_sem]
  have rR : row w1 (w.heap.size + 1) = (zeros 3 (Value.int .u64 0)).toArray := by rw [row_below b1 (by simp)]; simp [go_sem]
  have z1 := (b1).size
  try simp at z1
  replace b1 := below_of b1 (show Below (w).heap.size w _ from by (repeat (first | exact Below.refl _ _ | refine Below.al ?_ _ | refine Below.drew ?_ | refine Below.sr ?_ _ | refine Below.sc ?_ _))) (by first | (simp; done) | (simp; omega) | omega)
  have q1 : w.heap.size + 1 < w1.heap.size := by omega
  have q2 : w.heap.size < w1.heap.size := by omega
  go_wp2_with fail
  have hfin := row_setRow_same (w := w1) (g := w.heap.size + 1) (c := #[Value.int .u64 x0, .int .u64 x1, .int .u64 x2]) (by rw [rR]; simp) (by rw [rR]; simp)
  have hfz := setRow_size w1 (w.heap.size + 1) #[Value.int .u64 x0, .int .u64 x1, .int .u64 x2]
  (try simp only [Exit.inBlock, Exit.then])
  refine bodyPost_ret (results_1 rfl (resOk_row rfl ?_)) rfl ⟨?_, ?_⟩
  ·
   first | (rw [hfin]; simp; done) | (rw [row_alloc_past _ _ (by rw [hfz]; omega), hfin]; simp)
  ·
   first | (rw [hfin]; done) | rw [row_alloc_past _ _ (by rw [hfz]; omega), hfin]
  ·
   exact Below.alloc (Below.setRow b1 (by omega) _) (by simp; omega) _
end Go.Proofs.YtcebllbikmgjpaaGreat
