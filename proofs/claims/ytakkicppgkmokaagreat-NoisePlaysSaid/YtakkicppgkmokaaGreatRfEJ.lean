/- Contracts of the reference of chapter 5: a number's bytes, a text filled up. -/
import Derived.Test.YtakkicppgkmokaaGreatJ11
import Derived.Test.YtakkicppgkmokaaGreatJ6
set_option linter.unusedSimpArgs false
set_option linter.unusedVariables false
namespace Go.Proofs.YtakkicppgkmokaaGreat
open Go.RowKit
theorem numK8_length (n k : Nat) : (numK8 n k).length = k := by simp [numK8]
theorem numK8_all (n : Nat) : numK8 n 8 = num8 n := rfl
set_option maxRecDepth 20000 in
set_option maxHeartbeats 1000000 in
theorem eight_any (n : Nat) (w : World) (hn : n < 18446744073709551616) :
  Calls Tryz.prog 38 #[.int .u64 n] w fun e w' => e = .returned (.string ⟨(num8 n).toArray⟩) ∧ Below w.heap.size w w' := by
 go_enter Tryz.func38, Tryz.ntmps38
 go_wp2_with fail
 go_loopw [0, 3, 4] (fun x s i wr => ∃ (k y : Nat) (l : List UInt8), k ≤ 8 ∧ i = .int .i64 k ∧ n / 256 ^ k = y ∧ x = .int .u64 y ∧ numK8 n k = l ∧ s = .string ⟨l.toArray⟩ ∧ Below w.heap.size w wr) (fun _ _ i _ => 8 - (intOf i).toNat)
 case atStart => exact ⟨0, n, [], by omega, rfl, by simp, rfl, rfl, rfl, Below.refl _ _⟩
 case round =>
  obtain ⟨k, y, l, hk, rfl, hy, rfl, hl, rfl, hbel⟩ := hrel
  have hll : l.length ≤ 8 := by rw [← hl, numK8_length]; exact hk
  have hyl : y < 18446744073709551616 := by rw [← hy]; exact Nat.lt_of_le_of_lt (Nat.div_le_self _ _) hn
  by_cases hlt : k < 8
  ·
   have h1 : (k : Int) < 8 := by omega
   have hsz := hbel.size
   obtain ⟨d, hd⟩ : ∃ d : UInt8, y % 256 = d.toNat := ⟨UInt8.ofNat (y % 256), by simp⟩
   have m1 : (y : Int) % 256 = (d.toNat : Int) := by omega
   have m2 : (y : Int).tmod 256 = (d.toNat : Int) := by rw [Int.tmod_eq_emod_of_nonneg (by omega)]; exact m1
   obtain ⟨y2, hy2⟩ : ∃ v, y / 256 = v := ⟨_, rfl⟩
   have m3 : (y : Int) / 256 = (y2 : Int) := by omega
   have m4 : (y : Int).tdiv 256 = (y2 : Int) := by rw [Int.tdiv_eq_ediv_of_nonneg (by omega)]; exact m3
   have hdl := d.toNat_lt
   have hb : numK8 n (k + 1) = l ++ [d] := by
    rw [numK8_succ, hl]
    congr 1
    have e : ((n : Int) / 2 ^ (8 * k)) = ((n / 256 ^ k : Nat) : Int) := by
     rw [show (256 : Nat) = 2 ^ 8 from rfl, ← Nat.pow_mul]
     simp
    rw [byteI, e, hy, m1]
    simp
   have hyy : n / 256 ^ (k + 1) = y2 := by rw [Nat.pow_succ, ← Nat.div_div_eq_div_mul, hy, hy2]
   have HB := Lib.hid hb
   have HY := Lib.hid hyy
   clear hb hyy hy hl hd hy2
   go_wp2_with fail
   go_roundw
   case rel => exact ⟨k + 1, y2, l ++ [d], by omega, rfl, HY.out, rfl, HB.out, rfl, Below.alloc hbel hsz _⟩
   case measure => simp [intOf]; omega
  ·
   obtain rfl : k = 8 := by omega
   rw [show ((8 : Nat) : Int) = 8 from rfl]
   rw [numK8_all] at hl
   have HL := Lib.hid hl
   clear hl hy
   go_wp2_with fail
   go_ret
   exact ⟨by rw [HL.out]; rfl, hbel⟩
set_option maxRecDepth 20000 in
set_option maxHeartbeats 1000000 in
theorem full_any (l : List UInt8) (w : World) (hl : l.length ≤ 20000) :
  Calls Tryz.prog 104 #[.string ⟨l.toArray⟩] w fun e w' => e = .returned (.string ⟨(padL l).toArray⟩) ∧ Below w.heap.size w w' := by
 go_enter Tryz.func104, Tryz.ntmps104
 go_wp2_with fail
 go_loopw [0] (fun s wr => ∃ (k : Nat) (m : List UInt8), k ≤ padN l.length ∧ l ++ List.replicate k 0 = m ∧ s = .string ⟨m.toArray⟩ ∧ w = wr) (fun s _ => match s with | .string b => l.length + 20 - b.size | _ => 0)
 case atStart => exact ⟨0, l, by omega, by simp, rfl, rfl⟩
 case round =>
  obtain ⟨k, m, hk, hm, rfl, rfl⟩ := hrel
  have hml : m.length = l.length + k := by rw [← hm]; simp
  have hp : padN l.length ≤ 15 ∧ (l.length + padN l.length) % 16 = 0 := by unfold padN; omega
  have hp2 : (l.length + k) % 16 = 0 → k = padN l.length := by unfold padN at *; omega
  have hmi : (m.length : Int) ≤ 20100 := by omega
  obtain ⟨r, hr⟩ : ∃ r, m.length % 16 = r := ⟨_, rfl⟩
  have m1 : (m.length : Int) % 16 = (r : Int) := by omega
  have m2 : (m.length : Int).tmod 16 = (r : Int) := by rw [Int.tmod_eq_emod_of_nonneg (by omega)]; exact m1
  have HM := Lib.hid hm
  have HML := Lib.hid hml
  by_cases h0 : r = 0
  ·
   subst h0
   have hkp : k = padN l.length := hp2 (by omega)
   have hfin : m = padL l := by rw [padL, ← hkp]; exact hm.symm
   have HF := Lib.hid hfin
   clear hm hml hr hp hp2 hkp hfin
   go_wp2_with fail
   go_ret
   exact ⟨by rw [← HF.out]; rfl, Below.refl _ _⟩
  ·
   have hkp : k < padN l.length := by
    rcases Nat.lt_or_ge k (padN l.length) with h | h
    ·
     exact h
    ·
     exfalso
     have : k = padN l.length := by omega
     rw [this] at hml
     omega
   have hrI : ¬ ((r : Int) = 0) := by omega
   have hs : l ++ List.replicate (k + 1) 0 = m ++ [0] := by rw [List.replicate_succ', ← List.append_assoc, hm]
   have HS := Lib.hid hs
   have HP := Lib.hid hp.1
   clear hm hml hr hp hp2 hs
   go_wp2_with fail
   go_roundw
   case rel => exact ⟨k + 1, m ++ [0], by omega, HS.out, rfl, trivial⟩
   case measure => have := HML.out; have := HP.out; simp [ByteArray.size]; omega
end Go.Proofs.YtakkicppgkmokaaGreat
