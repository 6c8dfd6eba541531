/- Contracts of the reference of chapter 7: numbers, their bytes, the sum of 16 bits. -/
import Derived.Test.YtckckabedgpbiaaGreatNdJ
set_option linter.unusedSimpArgs false
set_option linter.unusedVariables false
set_option maxRecDepth 4000
namespace Go.Proofs.YtckckabedgpbiaaGreat
open Go.RowKit
theorem take_snocL (l : List UInt8) (k : Nat) (h : k < l.length) : l.take (k + 1) = l.take k ++ [l[k]] := by
 rw [List.take_succ_eq_append_getElem h]
set_option maxRecDepth 20000 in
set_option maxHeartbeats 1000000 in
theorem rnumber_any (l : List UInt8) (w : World) (hl : l.length ≤ 6) :
  Calls Tryz.prog 75 #[.string ⟨l.toArray⟩] w fun e w' => e = .returned (.int .i64 (numN l : Nat)) ∧ Below w.heap.size w w' := by
 have hlI : (l.length : Int) ≤ 6 := by omega
 go_enter Tryz.func75, Tryz.ntmps75
 go_wp2_with fail
 go_loopw [3, 4] (fun n i wr => ∃ k y : Nat, k ≤ l.length ∧ i = .int .i64 k ∧ numN (l.take k) = y ∧ n = .int .i64 y ∧ Below w.heap.size w wr) (fun _ i _ => l.length - (intOf i).toNat)
 case atStart => exact ⟨0, 0, Nat.zero_le _, rfl, rfl, rfl, Below.refl _ _⟩
 case round =>
  obtain ⟨k, y, hk, rfl, hy, rfl, hbel⟩ := hrel
  have hn : y < 281474976710656 := by rw [← hy]; exact numN_le (k := 6) _ (by rw [List.length_take]; omega)
  by_cases hlt : k < l.length
  ·
   have h1 : (k : Int) < l.length := by omega
   have hb := l[k].toNat_lt
   have H := Lib.hid (numN_snoc (l.take k) l[k])
   rw [← take_snocL l k hlt, hy] at H
   have HY := Lib.hid hy
   clear hy
   go_wp2_with fail
   go_roundw
   case rel => exact ⟨k + 1, y * 256 + l[k].toNat, by omega, by go_num, H.out, congrArg (Value.int .i64) (by omega), hbel⟩
   case measure => simp [intOf]; omega
  ·
   obtain rfl : k = l.length := by omega
   rw [List.take_of_length_le (by omega)] at hy
   have HY := Lib.hid hy
   clear hy
   go_wp2_with fail
   go_ret
   exact ⟨by rw [HY.out]; rfl, hbel⟩
theorem bytesN_cons (n k : Nat) : bytesN n (k + 1) = UInt8.ofNat (n / 256 ^ k) :: bytesN n k := by
 unfold bytesN
 rw [List.range_succ_eq_map, List.map_cons, List.map_map]
 congr 1
 apply List.map_congr_left
 intro j hj
 simp only [Function.comp]
 congr 3
 omega
set_option maxRecDepth 20000 in
set_option maxHeartbeats 1000000 in
theorem rbytes_any (n size : Nat) (w : World) (hn : n ≤ 4294967295) (hs : size ≤ 8) :
  Calls Tryz.prog 101 #[.int .i64 n, .int .i64 size] w fun e w' => e = .returned (.string ⟨(bytesN n size).toArray⟩) ∧ Below w.heap.size w w' := by
 go_enter Tryz.func101, Tryz.ntmps101
 go_wp2_with fail
 go_loopw [0, 5, 6] (fun x s i wr => ∃ (k y : Nat) (l : List UInt8), k ≤ size ∧ i = .int .i64 k ∧ n / 256 ^ k = y ∧ x = .int .i64 y ∧ bytesN n k = l ∧ s = .string ⟨l.toArray⟩ ∧ Below w.heap.size w wr) (fun _ _ i _ => size - (intOf i).toNat)
 case atStart => exact ⟨0, n, [], by omega, rfl, by simp, rfl, rfl, rfl, Below.refl _ _⟩
 case round =>
  obtain ⟨k, y, l, hk, rfl, hy, rfl, hl, rfl, hbel⟩ := hrel
  have hll : l.length ≤ 8 := by rw [← hl, bytesN_length]; omega
  have hyl : y ≤ 4294967295 := by rw [← hy]; exact Nat.le_trans (Nat.div_le_self _ _) hn
  by_cases hlt : k < size
  ·
   have h1 : (k : Int) < size := by omega
   have hsz := hbel.size
   obtain ⟨d, hd⟩ : ∃ d : UInt8, y % 256 = d.toNat := ⟨UInt8.ofNat (y % 256), by simp⟩
   have m1 : (y : Int) % 256 = (d.toNat : Int) := by omega
   have m2 : (y : Int).tmod 256 = (d.toNat : Int) := by rw [Int.tmod_eq_emod_of_nonneg (by omega)]; exact m1
   obtain ⟨y2, hy2⟩ : ∃ v, y / 256 = v := ⟨_, rfl⟩
   have m3 : (y : Int) / 256 = (y2 : Int) := by omega
   have m4 : (y : Int).tdiv 256 = (y2 : Int) := by rw [Int.tdiv_eq_ediv_of_nonneg (by omega)]; exact m3
   have hdl := d.toNat_lt
   have hb : bytesN n (k + 1) = d :: l := by
    rw [bytesN_cons, hl, hy]
    congr 1
    apply UInt8.toNat_inj.1
    rw [← hd]
    simp
   have hyy : n / 256 ^ (k + 1) = y2 := by rw [Nat.pow_succ, ← Nat.div_div_eq_div_mul, hy, hy2]
   have HB := Lib.hid hb
   have HY := Lib.hid hyy
   clear hb hyy hy hl hd hy2
   go_wp2_with fail
   go_roundw
   case rel => exact ⟨k + 1, y2, d :: l, by omega, rfl, HY.out, rfl, HB.out, rfl, Below.alloc hbel hsz _⟩
   case measure => simp [intOf]; omega
  ·
   obtain rfl : k = size := by omega
   have HL := Lib.hid hl
   clear hl hy
   go_wp2_with fail
   go_ret
   exact ⟨by rw [HL.out]; rfl, hbel⟩
def wordsUp (l : List UInt8) : Nat → Nat
 | 0 => 0
 | k + 1 => wordsUp l k + 256 * (l.getD (2 * k) 0).toNat + (l.getD (2 * k + 1) 0).toNat
theorem wordsUp_le (l : List UInt8) (k : Nat) : wordsUp l k ≤ 65535 * k := by
 induction k with
 | zero => simp [wordsUp]
 | succ k ih =>
  have h1 := (l.getD (2 * k) 0).toNat_lt
  have h2 := (l.getD (2 * k + 1) 0).toNat_lt
  rw [wordsUp]
  omega
theorem fold_step (s : Nat) : (s % 65536 + s / 65536) % 65535 = s % 65535 ∧ (s % 65536 + s / 65536 = 0 ↔ s = 0) := by omega
theorem sumUp_words (l : List UInt8) (k : Nat) : sumUp l (2 * k) % 65535 = wordsUp l k % 65535 ∧ (sumUp l (2 * k) = 0 ↔ wordsUp l k = 0) := by
 induction k with
 | zero => simp [sumUp, wordsUp]
 | succ k ih =>
  obtain ⟨i1, i2⟩ := ih
  rw [show 2 * (k + 1) = 2 * k + 1 + 1 from by omega, sumUp, sumUp, wordsUp]
  obtain ⟨a, ha⟩ : ∃ a, sumUp l (2 * k) = a := ⟨_, rfl⟩
  obtain ⟨b, hb⟩ : ∃ b, wordsUp l k = b := ⟨_, rfl⟩
  obtain ⟨c, hc⟩ : ∃ c, (l.getD (2 * k) 0).toNat = c := ⟨_, rfl⟩
  obtain ⟨d, hd⟩ : ∃ d, (l.getD (2 * k + 1) 0).toNat = d := ⟨_, rfl⟩
  rw [ha, hb] at i1 i2
  rw [ha, hb, hc, hd]
  unfold sumStep
  rw [if_pos (by omega), if_neg (by omega)]
  obtain ⟨e1, e2⟩ := fold_step (a + c * 256)
  obtain ⟨x, hx⟩ : ∃ x, (a + c * 256) % 65536 + (a + c * 256) / 65536 = x := ⟨_, rfl⟩
  rw [hx] at e1 e2 ⊢
  obtain ⟨e3, e4⟩ := fold_step (x + d * 1)
  rw [e3, e4]
  clear e3 e4 hx
  omega
theorem sum16_words (l : List UInt8) (x : Nat) (k : Nat) (hl : l.length = 2 * k) (hx : x ≤ 65535) (h1 : x % 65535 = wordsUp l k % 65535) (h2 : x = 0 ↔ wordsUp l k = 0) : 65535 - x = sum16 l := by
 obtain ⟨i1, i2⟩ := sumUp_words l k
 have h := sumUp_le l (2 * k)
 rw [sum16, hl]
 omega
set_option maxRecDepth 20000 in
set_option maxHeartbeats 1000000 in
theorem rsum16_any (l : List UInt8) (w : World) (hl : l.length ≤ 100000) (n : Nat) (hn : l.length = 2 * n) :
  Calls Tryz.prog 103 #[.string ⟨l.toArray⟩] w fun e w' => e = .returned (.int .i64 (sum16 l : Nat)) ∧ Below w.heap.size w w' := by
 have hm1 : (l.length : Int) % 2 = 0 := by omega
 have hm2 : (l.length : Int).tmod 2 = 0 := by rw [Int.tmod_eq_emod_of_nonneg (by omega)]; exact hm1
 have hlI : (l.length : Int) ≤ 100000 := by omega
 have HN := Lib.hid hn
 clear hn
 go_enter Tryz.func103, Tryz.ntmps103
 go_wp2_with fail
 go_loopw [3, 4] (fun x i wr => ∃ k y : Nat, k ≤ n ∧ i = .int .i64 ((2 * k : Nat) : Int) ∧ wordsUp l k = y ∧ x = .int .i64 y ∧ Below w.heap.size w wr) (fun _ i _ => l.length - (intOf i).toNat)
 case atStart => exact ⟨0, 0, Nat.zero_le _, rfl, rfl, rfl, Below.refl _ _⟩
 case round =>
  obtain ⟨k, y, hk, rfl, hy, rfl, hbel⟩ := hrel
  have hyl : y ≤ 6553500000 := by have := wordsUp_le l k; have := HN.out; omega
  obtain ⟨i, hi⟩ : ∃ i, 2 * k = i := ⟨_, rfl⟩
  rw [hi]
  by_cases hlt : k < n
  ·
   have c1 : i < l.length := by have := HN.out; omega
   have c2 : i + 1 < l.length := by have := HN.out; omega
   have c3 : (i : Int) < l.length := by omega
   have c4 : (i : Int) + 1 < l.length := by omega
   have hw0 : (0 : Int) ≤ (i : Int) + 1 := by omega
   have hw : IntKind.i64.wrap ((i : Int) + 1) = ((i + 1 : Nat) : Int) := by rw [wraps_i64 _ (by omega) (by omega)]; omega
   have hb1 := l[i].toNat_lt
   have hb2 := l[i + 1].toNat_lt
   have hs : wordsUp l (k + 1) = y + 256 * l[i].toNat + l[i + 1].toNat := by
    rw [wordsUp, hy, hi]
    simp [List.getD_eq_getElem?_getD, c1, c2]
   have HS := Lib.hid hs
   have HI := Lib.hid hi
   clear hs hy hi
   go_wp2_with fail
   go_region
   all_goals
    go_wp2_with fail
    go_roundw
    case rel => exact ⟨k + 1, y + 256 * l[i].toNat + l[i + 1].toNat, by omega, congrArg (Value.int .i64) (by have := HI.out; omega), HS.out, congrArg (Value.int .i64) (by omega), Below.drew hbel⟩
    case measure => simp [intOf]; have := HI.out; omega
  ·
   obtain rfl : k = n := by omega
   have c3 : ¬ (i : Int) < l.length := by have := HN.out; omega
   have HY := Lib.hid hy
   have HI := Lib.hid hi
   clear hy hi
   go_wp2_with fail
   go_loopw [3] (fun x wr => ∃ z : Nat, z ≤ 6553500000 ∧ z % 65535 = y % 65535 ∧ (z = 0 ↔ y = 0) ∧ x = .int .i64 z ∧ Below w.heap.size w wr) (fun x _ => (intOf x).toNat)
   case atStart => exact ⟨y, hyl, rfl, Iff.rfl, rfl, hbel⟩
   case round =>
    clear hbel
    obtain ⟨z, hz, hzm, hz0, rfl, hbel⟩ := hrel
    have HZ := Lib.hid (And.intro hzm hz0)
    clear hzm hz0
    by_cases hbig : 65535 < z
    ·
     have d1 : (65535 : Int) < z := by omega
     have t1 : (z : Int).tmod 65536 = ((z % 65536 : Nat) : Int) := by rw [Int.tmod_eq_emod_of_nonneg (by omega)]; omega
     have t2 : (z : Int).tdiv 65536 = ((z / 65536 : Nat) : Int) := by rw [Int.tdiv_eq_ediv_of_nonneg (by omega)]; omega
     have t3 : (z : Int) % 65536 = ((z % 65536 : Nat) : Int) := by omega
     have t4 : (z : Int) / 65536 = ((z / 65536 : Nat) : Int) := by omega
     obtain ⟨z1, h1⟩ : ∃ v, z % 65536 = v := ⟨_, rfl⟩
     obtain ⟨z2, h2⟩ : ∃ v, z / 65536 = v := ⟨_, rfl⟩
     rw [h1] at t1 t3
     rw [h2] at t2 t4
     have b1 : z1 ≤ 65535 := by omega
     have b2 : z2 ≤ 100000 := by omega
     have hz12 : z1 + z2 < z := by omega
     have hf := fold_step z
     rw [h1, h2] at hf
     have HF := Lib.hid hf
     have HZL := Lib.hid hz12
     clear hf hz12 h1 h2
     go_wp2_with fail
     go_roundw
     case rel => exact ⟨z1 + z2, by omega, by have := HF.out; have := HZ.out; omega, by have := HF.out; have := HZ.out; omega, congrArg (Value.int .i64) (by omega), hbel⟩
     case measure => simp [intOf]; have := HZL.out; omega
    ·
     have d1 : ¬ (65535 : Int) < z := by omega
     go_wp2_with fail
     go_ret
     exact ⟨ret_int (by rw [← sum16_words l z k HN.out (by omega) (by rw [HY.out]; exact HZ.out.1) (by rw [HY.out]; exact HZ.out.2)]; omega), hbel⟩
end Go.Proofs.YtckckabedgpbiaaGreat
