/- Texts of this proof, merged: SrT, SrF. -/
import Derived.Test.YtakkicppgkmokaaGreatJ6
set_option linter.unusedSimpArgs false
set_option linter.unusedVariables false
set_option maxRecDepth 4000
namespace Go.Proofs.YtakkicppgkmokaaGreat
section
open Go.RowKit
theorem pow_split (B L R k t V A x d q : Nat) (hv : V + B * k = A * x) (hd : t % 256 = d) (hq : t / 256 = q) (ht : k + L * x = t) (hR : R = A + B * L) : V + B * d + B * 256 * q = R * x := by
 have h1 : t = 256 * q + d := by omega
 subst hR
 have e1 : (A + B * L) * x = A * x + B * (L * x) := by rw [Nat.add_mul, Nat.mul_assoc]
 have e2 : B * k + B * (L * x) = B * t := by rw [← Nat.mul_add, ht]
 have e3 : B * t = B * 256 * q + B * d := by rw [h1, Nat.mul_add, Nat.mul_assoc]
 omega
theorem pow_end (B k V T d q : Nat) (hv : V + B * k = T) (hd : k % 256 = d) (hq : k / 256 = q) : V + B * d + B * 256 * q = T := by
 have h1 : k = 256 * q + d := by omega
 have e3 : B * k = B * 256 * q + B * d := by rw [h1, Nat.mul_add, Nat.mul_assoc]
 omega
theorem small_mul (y x z : Nat) (hy : y < 256) (hx : x < 549755813888) (hz : y * x = z) : z ≤ 255 * x ∧ z < 140737488355328 := by
 have h : y * x ≤ 255 * x := Nat.mul_le_mul_right _ (by omega)
 omega
theorem small_sum (k z q0 x : Nat) (hk : k ≤ x) (hz : z ≤ 255 * x) (hx : x < 549755813888) (hq : k + z = q0) : q0 ≤ 256 * x ∧ q0 < 140737488355328 := by omega
theorem small_div (q0 k2 x : Nat) (hq : q0 ≤ 256 * x) (h : q0 / 256 = k2) : k2 ≤ x := by omega
theorem wrap_mul (y x z : Nat) (hz : y * x = z) (h : z < 140737488355328) : IntKind.i64.wrap ((y : Int) * (x : Int)) = (z : Int) ∧ wrap64 ((y : Int) * (x : Int)) = (z : Int) := by
 have e : (y : Int) * (x : Int) = (z : Int) := by rw [← hz]; simp
 rw [e]
 exact ⟨wrapN _ _ rfl (by omega), by unfold wrap64; omega⟩
theorem wrap_sum (k z q0 : Nat) (hq : k + z = q0) (h : q0 < 140737488355328) : IntKind.i64.wrap ((k : Int) + (z : Int)) = (q0 : Int) ∧ wrap64 ((k : Int) + (z : Int)) = (q0 : Int) := by
 exact ⟨wrapN _ _ (by omega) (by omega), by unfold wrap64; omega⟩
theorem wrap_one (n : Nat) (h : n < 140737488355328) : IntKind.i64.wrap (n : Int) = (n : Int) ∧ wrap64 (n : Int) = (n : Int) := by
 exact ⟨wrapN _ _ rfl (by omega), by unfold wrap64; omega⟩
theorem small_half (q0 k2 : Nat) (hq : q0 / 256 = k2) (h : q0 < 140737488355328) : k2 < 140737488355328 := by omega
theorem small_x (k x : Nat) (h : k ≤ x) (hx : x < 549755813888) : k < 140737488355328 := by omega
theorem pow_one_le (k j x : Nat) (h : k * 256 ^ j ≤ x) : k ≤ x := by
 have h1 : 1 ≤ 256 ^ j := Nat.pow_pos (by decide)
 have : k * 1 ≤ k * 256 ^ j := Nat.mul_le_mul_left _ h1
 omega
theorem pow_four (k j x : Nat) (h : k * 256 ^ j ≤ x) (h0 : 0 < k) (hj : j ≤ 5) (hx : x < 549755813888) : j ≤ 4 := by
 rcases Nat.lt_or_ge j 5 with h5 | h5
 ·
  omega
 ·
  exfalso
  have h5 : j = 5 := by omega
  subst h5
  have h6 : 1 * 256 ^ 5 ≤ k * 256 ^ 5 := Nat.mul_le_mul_right _ h0
  rw [show (256 : Nat) ^ 5 = 1099511627776 from rfl] at h6 h
  omega
theorem pow_next (k k2 j x : Nat) (h : k * 256 ^ j ≤ x) (hq : k / 256 = k2) : k2 * 256 ^ (j + 1) ≤ x := by
 rw [Nat.pow_succ, Nat.mul_comm (256 ^ j), ← Nat.mul_assoc]
 exact Nat.le_trans (Nat.mul_le_mul_right _ (by omega)) h
set_option maxRecDepth 20000 in
set_option maxHeartbeats 4000000 in
theorem times01_any (a : List Nat) (x : Nat) (ga ca : Nat) (sa : List Value) (w : World) (hra : row w ga = (n64s a ++ sa).toArray) (za : ga < w.heap.size) (da : Dig a) (la : a.length ≤ 100) (hx : x < 549755813888) :
  Calls Tryz.prog 168 #[.slice (some ⟨ga, 0, none⟩) a.length ca, .int .i64 x] w fun e w' => ∃ v l, e = .returned v ∧ Own w' w.heap.size 3 v (n64s l) ∧ l.length ≤ a.length + 5 ∧ a.length ≤ l.length ∧ Dig l ∧ valB l = valB a * x ∧ Below w.heap.size w w' := by
 have laI : (a.length : Int) ≤ 100 := by omega
 have HXX := Lib.hid hx
 clear hx
 go_enter Tryz.func168, Tryz.ntmps168
 go_wp2_with fail
 go_loopw [5, 6, 7] (fun v c i wr => ∃ (n k : Nat) (l : List Nat), n ≤ a.length ∧ i = .int .i64 n ∧ c = .int .i64 k ∧ k ≤ x ∧ l.length = n ∧ Dig l ∧ valB l + 256 ^ n * k = valB (a.take n) * x ∧ Own wr w.heap.size 3 v (n64s l) ∧ Below w.heap.size w wr) (fun _ _ i _ => a.length - (intOf i).toNat)
 case atStart => exact ⟨0, 0, [], by omega, rfl, rfl, by omega, rfl, Dig.nil, by simp [valB], Own.nil, Below.refl _ _⟩
 case round =>
  obtain ⟨n, k, l, hna, rfl, rfl, hk, hll, hd, hval, hown, hbel⟩ := hrel
  have hsz := hbel.size
  have ra := (row_below hbel za).trans hra
  have za2 : ga < wr.heap.size := by omega
  by_cases hlt : n < a.length
  ·
   have ja : (n : Int) < a.length := by omega
   obtain ⟨y, hy⟩ : ∃ v, a[n] = v := ⟨_, rfl⟩
   have vy : y < 256 := by rw [← hy]; exact da.get n hlt
   have uy : n < a.length + sa.length := by omega
   have ty : (n64s a ++ sa)[n]'(by simp; omega) = .int .i64 (y : Int) := by rw [List.getElem_append_left (by simpa using hlt), n64s_get, hy]
   have hG : a.getD n 0 = y := by rw [getD_at _ _ hlt]; exact hy
   have hT := valB_take_succ a n
   rw [hG] at hT
   obtain ⟨z, hz⟩ : ∃ z, y * x = z := ⟨_, rfl⟩
   obtain ⟨vz, vz2⟩ := small_mul y x z vy HXX.out hz
   obtain ⟨q0, hq0⟩ : ∃ q, k + z = q := ⟨_, rfl⟩
   obtain ⟨vq, vq2⟩ := small_sum k z q0 x hk vz HXX.out hq0
   obtain ⟨f2, f4⟩ := wrap_mul y x z hz vz2
   obtain ⟨f3, f5⟩ := wrap_sum k z q0 hq0 vq2
   obtain ⟨d, hd2⟩ : ∃ v, q0 % 256 = v := ⟨_, rfl⟩
   obtain ⟨k2, hk2⟩ : ∃ v, q0 / 256 = v := ⟨_, rfl⟩
   obtain ⟨m1, m2⟩ := modt _ _ hd2
   obtain ⟨m3, m4⟩ := divt _ _ hk2
   have hk3 : k2 ≤ x := small_div q0 k2 x vq hk2
   have hd3 : d < 256 := by rw [← hd2]; exact Nat.mod_lt _ (by decide)
   obtain ⟨f6, f7⟩ := wrap_one k2 (small_half q0 k2 hk2 vq2)
   obtain ⟨f8, f9⟩ := wrap_one q0 vq2
   clear vz2 vq2
   have hs : valB (l ++ [d]) + 256 ^ (n + 1) * k2 = valB (a.take (n + 1)) * x := by
    rw [valB_snoc, hll, Nat.pow_succ]
    exact pow_split (256 ^ n) y _ k q0 (valB l) (valB (a.take n)) x d k2 hval hd2 hk2 (by rw [hz]; exact hq0) hT
   have HS := Lib.hid hs
   have HL := Lib.hid hll
   have hn100 : (n64s l).length + 1 ≤ 1000000 := by simp; omega
   clear hs hT hG hd2 hk2 hq0 hz hval hll vz vq
   go_wp2_with (at_builtin; refine wpList_append1 rfl rfl inferInstance w.heap.size _ (n64s l) rfl hown (.int .i64 (d : Int)) rfl rfl hn100 (by omega) ?_)
   intro v' w2 o2 b2
   go_wp2_with fail
   go_roundw
   case rel => exact ⟨n + 1, k2, l ++ [d], by omega, rfl, rfl, hk3, by have := HL.out; simp; omega, hd.snoc hd3, HS.out, by rw [n64s_append]; exact o2, hbel.trans (b2.mono (by omega))⟩
   case measure => simp [intOf]; omega
  ·
   obtain rfl : n = a.length := by omega
   rw [List.take_of_length_le (Nat.le_refl _)] at hval
   have HV := Lib.hid hval
   have HL := Lib.hid hll
   clear hval hll
   go_wp2_with fail
   go_loopw [5, 6] (fun v c wr => ∃ (k j : Nat) (l : List Nat), c = .int .i64 k ∧ k * 256 ^ j ≤ x ∧ l.length = a.length + j ∧ j ≤ 5 ∧ Dig l ∧ valB l + 256 ^ (a.length + j) * k = valB a * x ∧ Own wr w.heap.size 3 v (n64s l) ∧ Below w.heap.size w wr) (fun _ c _ => (intOf c).toNat)
   case atStart => exact ⟨k, 0, l, rfl, by omega, HL.out, by omega, hd, HV.out, hown, hbel⟩
   case round =>
    clear hown hbel hsz ra za2 hd HV HL
    obtain ⟨k, j, l, rfl, hkx, hll, hj, hd, hval, hown, hbel⟩ := hrel
    have hsz := hbel.size
    by_cases h0 : 0 < k
    ·
     have h0I : (0 : Int) < (k : Int) := by omega
     have hj4 : j ≤ 4 := pow_four k j x hkx h0 hj HXX.out
     have hkx2 := pow_one_le k j x hkx
     obtain ⟨d, hd2⟩ : ∃ v, k % 256 = v := ⟨_, rfl⟩
     obtain ⟨k2, hk2⟩ : ∃ v, k / 256 = v := ⟨_, rfl⟩
     obtain ⟨m1, m2⟩ := modt _ _ hd2
     obtain ⟨m3, m4⟩ := divt _ _ hk2
     have hd3 : d < 256 := by rw [← hd2]; exact Nat.mod_lt _ (by decide)
     have hkk : k2 < k := by rw [← hk2]; exact Nat.div_lt_self h0 (by decide)
     obtain ⟨f6, f7⟩ := wrap_one k2 (small_half k k2 hk2 (small_x k x hkx2 HXX.out))
     obtain ⟨f8, f9⟩ := wrap_one k (small_x k x hkx2 HXX.out)
     clear hkx2
     have hkx3 := pow_next k k2 j x hkx hk2
     have hs : valB (l ++ [d]) + 256 ^ (a.length + (j + 1)) * k2 = valB a * x := by
      rw [valB_snoc, hll, ← Nat.add_assoc, Nat.pow_succ]
      exact pow_end _ k _ _ d k2 hval hd2 hk2
     have HS := Lib.hid hs
     have HL := Lib.hid hll
     have HX := Lib.hid hkx3
     have hn100 : (n64s l).length + 1 ≤ 1000000 := by simp; omega
     clear hs hd2 hk2 hval hll hkx hkx3
     go_wp2_with (at_builtin; refine wpList_append1 rfl rfl inferInstance w.heap.size _ (n64s l) rfl hown (.int .i64 (d : Int)) rfl rfl hn100 (by omega) ?_)
     intro v' w2 o2 b2
     go_wp2_with fail
     go_roundw
     case rel => exact ⟨k2, j + 1, l ++ [d], rfl, HX.out, by have := HL.out; simp; omega, by omega, hd.snoc hd3, HS.out, by rw [n64s_append]; exact o2, hbel.trans (b2.mono (by omega))⟩
     case measure => simp only [intOf, Int.toNat_natCast]; exact hkk
    ·
     obtain rfl : k = 0 := by omega
     rw [Nat.mul_zero, Nat.add_zero] at hval
     go_wp2_with fail
     go_ret
     exact ⟨_, l, rfl, hown, by omega, by omega, hd, hval, hbel⟩
end
section
open Go.RowKit
theorem take_lt (l : List Nat) (d : Dig l) (i : Nat) : valB (l.take i) < 256 ^ i := by
 have h := valB_lt (l.take i) (d.take i)
 have h2 : (l.take i).length ≤ i := by rw [List.length_take]; omega
 exact Nat.lt_of_lt_of_le h (Nat.pow_le_pow_right (by decide) h2)
theorem cmp_eq (l m : List Nat) (i a : Nat) (h : valB l + valB (m.take (i + 1)) = valB m + valB (l.take (i + 1))) (hl : l.getD i 0 = a) (hm : m.getD i 0 = a) : valB l + valB (m.take i) = valB m + valB (l.take i) := by
 rw [valB_take_succ, valB_take_succ, hl, hm] at h
 omega
theorem cmp_lt (l m : List Nat) (dl : Dig l) (dm : Dig m) (i a b : Nat) (h : valB l + valB (m.take (i + 1)) = valB m + valB (l.take (i + 1))) (hl : l.getD i 0 = a) (hm : m.getD i 0 = b) (hne : a ≠ b) : decide (a < b) = decide (valB l ≤ valB m) := by
 rw [valB_take_succ, valB_take_succ, hl, hm] at h
 have h1 := take_lt l dl i
 have h2 := take_lt m dm i
 generalize 256 ^ i = B at *
 generalize valB (l.take i) = L at *
 generalize valB (m.take i) = M at *
 rw [decide_eq_decide]
 rcases Nat.lt_or_ge a b with hab | hab
 ·
  have : B * (a + 1) ≤ B * b := Nat.mul_le_mul_left _ hab
  rw [Nat.mul_add, Nat.mul_one] at this
  exact ⟨fun _ => by omega, fun _ => hab⟩
 ·
  have : B * (b + 1) ≤ B * a := Nat.mul_le_mul_left _ (by omega)
  rw [Nat.mul_add, Nat.mul_one] at this
  exact ⟨fun h => by omega, fun h => by omega⟩
theorem Own.single {w : World} {B e : Nat} (u : Value) (h : B ≤ w.heap.size) : Own (w.alloc (.cells #[u] e)) B e (.slice (some ⟨w.heap.size, 0, none⟩) 1 1) [u] :=
 ⟨by simp, .inr ⟨w.heap.size, 1, #[u], rfl, h, heap_alloc_new w _, Nat.le_refl _, by decide, rfl, by simp⟩⟩
def fitsB (q n x : Nat) : Bool := decide (x ^ q ≤ n * 256 ^ (4 * q))
theorem valB_over (q n : Nat) : valB (List.replicate (4 * q) 0 ++ [n % 256, n / 256]) = n * 256 ^ (4 * q) := by
 rw [valB_append, valB_zeros, List.length_replicate, Nat.zero_add, valB, valB, valB]
 rw [Nat.mul_comm n]
 congr 1
 omega
set_option maxRecDepth 20000 in
set_option maxHeartbeats 4000000 in
theorem fits01_any (x n q : Nat) (w : World) (hx : x < 549755813888) (hn : n ≤ 1000) (hq : q ≤ 3) :
  Calls Tryz.prog 154 #[.int .i64 x, .int .i64 n, .int .i64 q] w fun e w' => e = .returned (.bool (fitsB q n x)) ∧ Below w.heap.size w w' := by
 have hqI : (q : Int) ≤ 3 := by omega
 have hnI : (n : Int) ≤ 1000 := by omega
 have HX := Lib.hid hx
 clear hx
 have o0 : Own (w.alloc (.cells #[.int .i64 1] 3)) w.heap.size 3 (.slice (some ⟨w.heap.size, 0, none⟩) 1 1) (n64s [1]) := Own.single _ (Nat.le_refl _)
 go_enter Tryz.func154, Tryz.ntmps154
 go_wp2_with fail
 go_loopw [7, 8] (fun v i wr => ∃ (k : Nat) (l : List Nat), k ≤ q ∧ i = .int .i64 k ∧ l.length ≤ 1 + 5 * k ∧ 1 ≤ l.length ∧ Dig l ∧ valB l = x ^ k ∧ Own wr w.heap.size 3 v (n64s l) ∧ Below w.heap.size w wr) (fun _ i _ => q - (intOf i).toNat)
 case atStart => exact ⟨0, [1], by omega, rfl, by simp, by simp, by intro y hy; simp at hy; omega, by simp [valB], o0, (by (repeat (first | exact Below.refl _ _ | refine Below.al ?_ _ | refine Below.drew ?_ | refine Below.sr ?_ _ | refine Below.sc ?_ _)))⟩
 case round =>
  clear o0
  obtain ⟨k, l, hk, rfl, hl1, hl2, hd, hval, hown, hbel⟩ := hrel
  have hsz := hbel.size
  by_cases hlt : k < q
  ·
   have ja : (k : Int) < q := by omega
   obtain ⟨g, c, s, rfl, hc, hg, zg, rg⟩ := hown.ints (by omega)
   have HT := Lib.hid (times01_any l x g c s wr rg zg hd (by omega) HX.out)
   have HV := Lib.hid hval
   have HL1 := Lib.hid hl1
   have HL2 := Lib.hid hl2
   clear hval rg hown hl1 hl2
   go_wp2_with fail
   refine (HT.out).mono ?_
   rintro e w2 ⟨v2, l2, rfl, o2, h1, h2, d2, e2, b2⟩
   have HE := Lib.hid e2
   have H1 := Lib.hid h1
   have H2 := Lib.hid h2
   clear e2 h1 h2
   go_wp2_with fail
   go_roundw
   case rel => exact ⟨k + 1, l2, by omega, rfl, by have := H1.out; have := HL1.out; omega, by have := H2.out; have := HL2.out; omega, d2, by rw [HE.out, HV.out, Nat.pow_succ], o2.lower hsz, hbel.trans (b2.mono hsz)⟩
   case measure => simp [intOf]; omega
  ·
   obtain rfl : k = q := by omega
   obtain ⟨gl, cl, sl, rfl, hcl, hgl, zgl, rgl⟩ := hown.ints (by omega)
   have hq4 : (((4 * k : Nat)) : Int) = 4 * (k : Int) := by push_cast; rfl
   obtain ⟨w3, hmk, o3, b3⟩ := make_own (P := Tryz.prog) (w := wr) (t := 103) inferInstance .i64 .i64 (4 * k) (by omega)
   rw [hq4] at hmk
   have o3 : Own w3 wr.heap.size 3 (.slice (some ⟨wr.heap.size, 0, none⟩) (4 * k) (4 * k)) (n64s (List.replicate (4 * k) 0)) := by
    have e : List.replicate (4 * k) (Value.int .i64 0) = n64s (List.replicate (4 * k) 0) := by simp [n64s]
    rw [e] at o3
    exact o3
   have hd1 : n % 256 < 256 := Nat.mod_lt _ (by decide)
   obtain ⟨d, hd2⟩ : ∃ v, n % 256 = v := ⟨_, rfl⟩
   obtain ⟨q, hq2⟩ : ∃ v, n / 256 = v := ⟨_, rfl⟩
   obtain ⟨m1, m2⟩ := modt _ _ hd2
   obtain ⟨m3, m4⟩ := divt _ _ hq2
   have o3b := (n64s_append (List.replicate (4 * k) 0) [d]).symm
   have HM := Lib.hid (valB_over k n)
   rw [hd2, hq2] at HM
   rw [hd2] at hd1
   have hq3 : q < 256 := by omega
   have z3 := b3.size
   have HV := Lib.hid hval
   have HL1 := Lib.hid hl1
   have HL2 := Lib.hid hl2
   have HQ4 := Lib.hid hq4
   clear hval hl1 hl2 hd2 hq2 o3b hq4
   go_wp2_with (at_builtin; refine wpList_append1 rfl rfl inferInstance wr.heap.size _ (n64s (List.replicate (4 * k) 0)) rfl o3 (.int .i64 (d : Int)) rfl rfl (by simp; omega) (by omega) ?_)
   intro v4 w4 o4 b4
   have z4 := b4.size
   rw [show n64s (List.replicate (4 * k) 0) ++ [Value.int .i64 (d : Int)] = n64s (List.replicate (4 * k) 0 ++ [d]) from by rw [n64s_append]; rfl] at o4
   go_wp2_with (at_builtin; refine wpList_append1 rfl rfl inferInstance wr.heap.size _ (n64s (List.replicate (4 * k) 0 ++ [d])) rfl o4 (.int .i64 (q : Int)) rfl rfl (by simp; omega) (by omega) ?_)
   intro v5 w5 o5 b5
   have z5 := b5.size
   rw [show n64s (List.replicate (4 * k) 0 ++ [d]) ++ [Value.int .i64 (q : Int)] = n64s (List.replicate (4 * k) 0 ++ [d, q]) from by rw [n64s_append, n64s_append, List.append_assoc]; rfl] at o5
   have dm : Dig (List.replicate (4 * k) 0 ++ [d, q]) := (Dig.zeros _).append (by intro y hy; simp at hy; omega)
   have lm : (List.replicate (4 * k) 0 ++ [d, q]).length = 4 * k + 2 := by simp
   obtain ⟨m, hm⟩ : ∃ m, List.replicate (4 * k) 0 ++ [d, q] = m := ⟨_, rfl⟩
   rw [hm] at o5 dm lm HM
   have b35 := b3.trans (b4.trans b5)
   have bb5 : Below w.heap.size w w5 := hbel.trans (b35.mono hsz)
   have rl5 := (row_below b35 zgl).trans rgl
   have zgl5 : gl < w5.heap.size := by omega
   obtain ⟨gm, cm, sm, rfl, hcm, hgm, zgm, rgm⟩ := o5.ints (by omega)
   have hl1 := HL1.out
   have hl2 := HL2.out
   have hl100 : l.length ≤ 100 := by omega
   have hm100 : m.length ≤ 100 := by omega
   have hl100I : (l.length : Int) ≤ 100 := by omega
   have hm100I : (m.length : Int) ≤ 100 := by omega
   have HMM := Lib.hid hm
   have DL := Lib.hid hd
   have DM := Lib.hid dm
   have LM := Lib.hid lm
   clear b3 b4 b5 b35 o3 o4 o5 hown rgl hmk hm hd dm lm hl1 hl2 HQ4
   go_wp2_with fail
   all_goals
    go_loopw [10] (fun i wq => ∃ c : Nat, c ≤ 100 ∧ i = .int .i64 ((c : Int) - 1) ∧ valB l + valB (m.take c) = valB m + valB (l.take c) ∧ wq = w5) (fun i _ => (intOf i + 1).toNat)
    case atStart => exact ⟨max l.length m.length, by omega, by congr 1; omega, by rw [List.take_of_length_le (by omega), List.take_of_length_le (by omega), Nat.add_comm], rfl⟩
    case round =>
     obtain ⟨c, hc, rfl, hcmp, rfl⟩ := hrel
     rcases Nat.eq_zero_or_pos c with rfl | hc0
     ·
      have hv : valB l = valB m := by simpa [valB] using hcmp
      have hres : fitsB k n x = true := by
       rw [fitsB, ← HV.out, ← HM.out, hv]
       simp
      have HR := Lib.hid hres
      clear hv hres hcmp
      go_wp2_with fail
      go_ret
      exact ⟨by rw [HR.out]; rfl, bb5⟩
     ·
      obtain ⟨i, rfl⟩ : ∃ i, c = i + 1 := ⟨c - 1, by omega⟩
      have e1 : ((i + 1 : Nat) : Int) - 1 = (i : Int) := by omega
      rw [e1]
      have HC := Lib.hid hcmp
      clear hcmp e1
      have i100 : (i : Int) ≤ 100 := by omega
      by_cases hil : i < l.length
      ·
       skip
       have jl : (i : Int) < l.length := by omega
       obtain ⟨a, ha⟩ : ∃ v, l[i] = v := ⟨_, rfl⟩
       have va : a < 256 := by rw [← ha]; exact DL.out.get i hil
       have ua : i < l.length + sl.length := by omega
       have ta : (n64s l ++ sl)[i]'(by simp; omega) = .int .i64 (a : Int) := by rw [List.getElem_append_left (by simpa using hil), n64s_get, ha]
       have ga : l.getD i 0 = a := by rw [getD_at _ _ hil]; exact ha
       have Ga := Lib.hid ga
       clear ga ha
       by_cases him : i < m.length
       ·
        skip
        have jm : (i : Int) < m.length := by omega
        obtain ⟨b, hb⟩ : ∃ v, m[i] = v := ⟨_, rfl⟩
        have vb : b < 256 := by rw [← hb]; exact DM.out.get i him
        have ub : i < m.length + sm.length := by omega
        have tb : (n64s m ++ sm)[i]'(by simp; omega) = .int .i64 (b : Int) := by rw [List.getElem_append_left (by simpa using him), n64s_get, hb]
        have gb : m.getD i 0 = b := by rw [getD_at _ _ him]; exact hb
        have Gb := Lib.hid gb
        clear gb hb
        by_cases hab : a = b
        ·
         subst hab
         have HN := Lib.hid (cmp_eq l m i a HC.out Ga.out Gb.out)
         go_wp2_with fail
         all_goals
          go_roundw
          case rel => exact ⟨i, by omega, rfl, HN.out, by first | rfl | trivial⟩
          case measure => simp [intOf]
        ·
         have habI : ¬ (a : Int) = (b : Int) := by omega
         have HR := Lib.hid (show decide (a < b) = fitsB k n x by rw [cmp_lt l m DL.out DM.out i a b HC.out Ga.out Gb.out hab, fitsB, HV.out, HM.out])
         clear hab
         rcases Nat.lt_or_ge a b with hlt2 | hlt2
         ·
          have hl3 : (a : Int) < (b : Int) := by omega
          go_wp2_with fail
          all_goals
           go_ret
           exact ⟨by rw [← HR.out, decide_eq_true hlt2]; rfl, bb5⟩
         ·
          have hl3 : ¬ (a : Int) < (b : Int) := by omega
          have hl4 : ¬ a < b := by omega
          go_wp2_with fail
          all_goals
           go_ret
           exact ⟨by rw [← HR.out, decide_eq_false hl4]; rfl, bb5⟩
       ·
        skip
        have jm : ¬ (i : Int) < m.length := by omega
        have gb : m.getD i 0 = 0 := getD_past _ _ (by omega)
        have Gb := Lib.hid gb
        clear gb
        by_cases hab : a = 0
        ·
         subst hab
         have HN := Lib.hid (cmp_eq l m i 0 HC.out Ga.out Gb.out)
         go_wp2_with fail
         all_goals
          go_roundw
          case rel => exact ⟨i, by omega, rfl, HN.out, by first | rfl | trivial⟩
          case measure => simp [intOf]
        ·
         have habI : ¬ (a : Int) = (0 : Int) := by omega
         have HR := Lib.hid (show decide (a < 0) = fitsB k n x by rw [cmp_lt l m DL.out DM.out i a 0 HC.out Ga.out Gb.out hab, fitsB, HV.out, HM.out])
         clear hab
         rcases Nat.lt_or_ge a 0 with hlt2 | hlt2
         ·
          have hl3 : (a : Int) < (0 : Int) := by omega
          go_wp2_with fail
          all_goals
           go_ret
           exact ⟨by rw [← HR.out, decide_eq_true hlt2]; rfl, bb5⟩
         ·
          have hl3 : ¬ (a : Int) < (0 : Int) := by omega
          have hl4 : ¬ a < 0 := by omega
          go_wp2_with fail
          all_goals
           go_ret
           exact ⟨by rw [← HR.out, decide_eq_false hl4]; rfl, bb5⟩
      ·
       skip
       have jl : ¬ (i : Int) < l.length := by omega
       have ga : l.getD i 0 = 0 := getD_past _ _ (by omega)
       have Ga := Lib.hid ga
       clear ga
       by_cases him : i < m.length
       ·
        skip
        have jm : (i : Int) < m.length := by omega
        obtain ⟨b, hb⟩ : ∃ v, m[i] = v := ⟨_, rfl⟩
        have vb : b < 256 := by rw [← hb]; exact DM.out.get i him
        have ub : i < m.length + sm.length := by omega
        have tb : (n64s m ++ sm)[i]'(by simp; omega) = .int .i64 (b : Int) := by rw [List.getElem_append_left (by simpa using him), n64s_get, hb]
        have gb : m.getD i 0 = b := by rw [getD_at _ _ him]; exact hb
        have Gb := Lib.hid gb
        clear gb hb
        by_cases hab : 0 = b
        ·
         subst hab
         have HN := Lib.hid (cmp_eq l m i 0 HC.out Ga.out Gb.out)
         go_wp2_with fail
         all_goals
          go_roundw
          case rel => exact ⟨i, by omega, rfl, HN.out, by first | rfl | trivial⟩
          case measure => simp [intOf]
        ·
         have habI : ¬ (0 : Int) = (b : Int) := by omega
         have HR := Lib.hid (show decide (0 < b) = fitsB k n x by rw [cmp_lt l m DL.out DM.out i 0 b HC.out Ga.out Gb.out hab, fitsB, HV.out, HM.out])
         clear hab
         rcases Nat.lt_or_ge 0 b with hlt2 | hlt2
         ·
          have hl3 : (0 : Int) < (b : Int) := by omega
          go_wp2_with fail
          all_goals
           go_ret
           exact ⟨by rw [← HR.out, decide_eq_true hlt2]; rfl, bb5⟩
         ·
          have hl3 : ¬ (0 : Int) < (b : Int) := by omega
          have hl4 : ¬ 0 < b := by omega
          go_wp2_with fail
          all_goals
           go_ret
           exact ⟨by rw [← HR.out, decide_eq_false hl4]; rfl, bb5⟩
       ·
        skip
        have jm : ¬ (i : Int) < m.length := by omega
        have gb : m.getD i 0 = 0 := getD_past _ _ (by omega)
        have Gb := Lib.hid gb
        clear gb
        have HN := Lib.hid (cmp_eq l m i 0 HC.out Ga.out Gb.out)
        go_wp2_with fail
        all_goals
         go_roundw
         case rel => exact ⟨i, by omega, rfl, HN.out, by first | rfl | trivial⟩
         case measure => simp [intOf]
end
end Go.Proofs.YtakkicppgkmokaaGreat
