/- Contracts of package poly: the rest of a number. -/
import Derived.Test.YtakkicppgkmokaaGreatPolJ
set_option linter.unusedSimpArgs false
set_option linter.unusedVariables false
namespace Go.Proofs.YtakkicppgkmokaaGreat
open Go.RowKit
def Num.low (x : Num) : Num := ⟨x.a, x.b, x.c % 4⟩
def Num.hi5 (x : Num) : Num := ⟨x.c / 4 * 5 % 18446744073709551616, x.c / 4 * 5 / 18446744073709551616, 0⟩
def Num.fold (x : Num) : Num := x.low.plus x.hi5
def Num.rest (x : Num) : Num := (x.fold.fold).less5
theorem Num.fold_lt (x : Num) : x.fold.lt := Num.plus_lt _ _
theorem Num.rest_lt (x : Num) : x.rest.lt := Num.less5_lt _ (Num.fold_lt _)
theorem Num.low_lt {x : Num} (h : x.lt) : x.low.lt := ⟨h.1, h.2.1, by have := h.2.2; unfold lt64 at *; show _ % 4 < _; omega⟩
theorem Num.hi5_lt {x : Num} (h : x.lt) : x.hi5.lt := ⟨lt64_mod _, by have := h.2.2; unfold lt64 at *; show _ / 4 * 5 / _ < _; omega, by show (0 : Nat) < 18446744073709551616; decide⟩
theorem mask2 (n : Nat) (h : lt64 n) : bits .and .u64 (n : Int) 3 = ((n % 4 : Nat) : Int) := by
 unfold lt64 at h
 have h1 := bits_and_u64_nat n 3 h (by omega)
 have e : n &&& 3 = n % 4 := Nat.and_two_pow_sub_one_eq_mod n 2
 rw [e] at h1
 exact h1
set_option maxRecDepth 20000 in
set_option maxHeartbeats 1000000 in
theorem rest_any (x : Num) (w : World) (hx : x.lt) :
  Calls Tryz.prog 138 #[.agg x.cells.toArray] w fun e w' => e = .returned (.agg x.rest.cells.toArray) ∧ Below w.heap.size w w' := by
 go_enter Tryz.func138, Tryz.ntmps138
 unfold Num.cells
 go_wp2_with fail
 go_loopw [9] (fun i wr => ∃ (k : Nat) (y : Num), k ≤ 2 ∧ i = .int .i64 k ∧ y.lt ∧ (k = 0 → y = x) ∧ (k = 1 → y = x.fold) ∧ (k = 2 → y = x.fold.fold) ∧ row wr (w.heap.size + 1 + 1) = #[.int .u64 y.a, .int .u64 y.b, .int .u64 y.c] ∧ row wr (w.heap.size + 1) = (zeros 3 (Value.int .u64 0)).toArray ∧ w.heap.size + 1 + 1 < wr.heap.size ∧ Below w.heap.size w wr) (fun i _ => 2 - (intOf i).toNat)
 case atStart => exact ⟨0, x, by omega, rfl, hx, fun _ => rfl, fun h => by omega, fun h => by omega, by simp [go_sem], by simp [go_sem], by simp, (by (repeat (first | exact Below.refl _ _ | refine Below.al ?_ _ | refine Below.drew ?_ | refine Below.sr ?_ _ | refine Below.sc ?_ _)))⟩
 case round =>
  obtain ⟨k, y, hk, rfl, hy, e0, e1, e2, hV, hR, hz, hbel⟩ := hrel
  have HY := Lib.hid (show (k = 0 → y.fold = x.fold) ∧ (k = 1 → y.fold = x.fold.fold) ∧ (k = 2 → y.less5 = x.rest) from ⟨fun h => by rw [e0 h], fun h => by rw [e1 h], fun h => by rw [e2 h]; rfl⟩)
  clear e0 e1 e2
  obtain ⟨y0, y1, y2⟩ := y
  have hl := Num.low_lt hy
  have hh := Num.hi5_lt hy
  have hfl := Num.fold_lt ⟨y0, y1, y2⟩
  simp only at hV
  by_cases hlt : k < 2
  ·
   have h1 : (k : Int) < 2 := by omega
   have hm := mask2 y2 hy.2.2
   have hmul := fun w => Tryz.bits_Mul64 (y2 / 4) 5 (by have := hy.2.2; unfold lt64 at this; simp only at this; omega) (by omega) w
   have hadd := fun w => nplus_any (Num.low ⟨y0, y1, y2⟩) (Num.hi5 ⟨y0, y1, y2⟩) w hl hh
   rw [show (Num.low ⟨y0, y1, y2⟩).plus (Num.hi5 ⟨y0, y1, y2⟩) = Num.fold ⟨y0, y1, y2⟩ from rfl] at hadd
   obtain ⟨z, hz2⟩ : ∃ z, Num.fold ⟨y0, y1, y2⟩ = z := ⟨_, rfl⟩
   rw [hz2] at hadd hfl
   have HZ := Lib.hid hz2
   clear hz2
   obtain ⟨z0, z1, z2⟩ := z
   unfold Num.low Num.hi5 Num.cells at hadd
   simp only at hadd
   have hdiv : (y2 : Int) / 4 = ((y2 / 4 : Nat) : Int) := by omega
   obtain ⟨q, hq⟩ : ∃ q, y2 / 4 = q := ⟨_, rfl⟩
   obtain ⟨r, hr⟩ : ∃ r, y2 % 4 = r := ⟨_, rfl⟩
   obtain ⟨pl, hpl⟩ : ∃ p, q * 5 % 18446744073709551616 = p := ⟨_, rfl⟩
   obtain ⟨ph, hph⟩ : ∃ p, q * 5 / 18446744073709551616 = p := ⟨_, rfl⟩
   simp only [hq, hr, hpl, hph] at hm hmul hadd hdiv
   have hmul' : ∀ w, Calls Tryz.prog 159 #[.int .u64 q, .int .u64 5] w fun e w' => e = .returned (.tuple #[.int .u64 ph, .int .u64 pl]) ∧ w' = w := hmul
   have hadd' : ∀ w, Calls Tryz.prog 139 #[.agg #[.int .u64 y0, .int .u64 y1, .int .u64 r], .agg #[.int .u64 pl, .int .u64 ph, .int .u64 0]] w fun e w' => e = .returned (.agg #[.int .u64 z0, .int .u64 z1, .int .u64 z2]) ∧ Below w.heap.size w w' := hadd
   have KM := Lib.hid hmul'
   have KA := Lib.hid hadd'
   clear hmul hadd hmul' hadd' hq hr hpl hph hy hl hh
   go_wp2_with fail
   go_region
   go_wp2_with fail
   (with_reducible refine (KM.out _).mono ?_)
   rintro e w1 ⟨rfl, rfl⟩
   go_wp2_with fail
   (with_reducible refine (KA.out _).mono ?_)
   rintro e w2 ⟨rfl, b2⟩
   have zb2 := b2.size
   have hV2 : row w2 (w.heap.size + 1 + 1) = #[.int .u64 y0, .int .u64 y1, .int .u64 y2] := (row_below b2 (by simp; omega)).trans hV
   have hR2 : row w2 (w.heap.size + 1) = (zeros 3 (Value.int .u64 0)).toArray := (row_below b2 (by simp; omega)).trans hR
   have hb2 : Below w.heap.size w w2 := Below.trans hbel (Below.trans (Below.drew (Below.refl _ _)) (b2.mono (by simp; omega)))
   simp at zb2
   go_wp2_with fail
   go_roundw
   case rel =>
    obtain ⟨f0, f1, f2⟩ := HY.out
    refine ⟨k + 1, ⟨z0, z1, z2⟩, by omega, rfl, hfl, fun h => by omega, fun h => ?_, fun h => ?_, ?_, by (try show row (World.setRow _ _ _) _ = _); rw [row_setRow_other _ _ _ (by omega)]; exact hR2, by simp; omega, Below.setRow hb2 (by omega) _⟩
    ·
     rw [← HZ.out]; exact f0 (by omega)
    ·
     rw [← HZ.out]; exact f1 (by omega)
    ·
     exact row_setRow_same (by rw [hV2]; simp) (by rw [hV2]; simp)
   case measure => simp [intOf]; omega
  ·
   obtain rfl : k = 2 := by omega
   rw [show ((2 : Nat) : Int) = 2 from rfl]
   have hls := fun w => less5_any ⟨y0, y1, y2⟩ w hy
   have hf := HY.out.2.2 rfl
   rw [hf] at hls
   obtain ⟨z, hz2⟩ : ∃ z, x.rest = z := ⟨_, rfl⟩
   rw [hz2] at hls
   have HZ := Lib.hid hz2
   clear hz2 hf HY
   obtain ⟨z0, z1, z2⟩ := z
   unfold Num.cells at hls
   simp only at hls
   have KL := Lib.hid hls
   clear hls
   go_wp2_with fail
   (with_reducible refine (KL.out _).mono ?_)
   rintro e w1 ⟨rfl, b1⟩
   have hR2 : row w1 (w.heap.size + 1) = (zeros 3 (Value.int .u64 0)).toArray := (row_below b1 (by omega)).trans hR
   go_wp2_with fail
   have hfin := row_setRow_same (w := w1) (g := w.heap.size + 1) (c := #[Value.int .u64 z0, .int .u64 z1, .int .u64 z2]) (by rw [hR2]; simp) (by rw [hR2]; simp)
   (try simp only [Exit.inBlock, Exit.then])
   refine bodyPost_ret (results_1 rfl (resOk_row rfl ?_)) rfl ?_
   ·
    rw [hfin]
    simp
   refine ⟨by rw [hfin, HZ.out], ?_⟩
   exact Below.setRow (Below.trans hbel (b1.mono (by omega))) (by omega) _
end Go.Proofs.YtakkicppgkmokaaGreat
