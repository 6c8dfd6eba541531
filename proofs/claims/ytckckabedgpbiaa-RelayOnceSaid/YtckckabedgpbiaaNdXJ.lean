/- Contracts of package nd: messages that are refused. -/
import Derived.Test.YtckckabedgpbiaaJ31
set_option linter.unusedSimpArgs false
set_option linter.unusedVariables false
set_option maxRecDepth 4000
namespace Go.Proofs.Ytckckabedgpbiaa
open Go.RowKit
def refused (m : List UInt8) (n : Int) (fr to ab : Vector UInt8 16) (mac : Vector UInt8 6) (fl : Vector UInt8 4) (op0 : Int) : Prop :=
 ∀ (X : Nat) (w : World), row w X = (.int .i64 op0 :: (u8v fr ++ (u8v to ++ (u8v ab ++ (u8v mac ++ (.bool false :: u8v fl)))))).toArray → X < w.heap.size →
  Calls Try.prog 79 #[.string ⟨m.toArray⟩, .pointer (some ⟨X, 0, none⟩)] w fun e w' => e = .panicked (errP n) ∧ ∃ xs : List Value, xs.length = 60 ∧ Below w.heap.size (w.setRow X xs.toArray) w'
section
variable (m : List UInt8) (fr to ab : Vector UInt8 16) (mac : Vector UInt8 6) (fl : Vector UInt8 4) (op0 : Int)
set_option maxRecDepth 20000 in
set_option maxHeartbeats 2000000 in
theorem told_badop (hl : 24 ≤ m.length) (h1 : m[0] ≠ 135) (h2 : m[0] ≠ 136) : refused m 3 fr to ab mac fl op0 := by
 intro X w hX hXw
 have hXw2 : X < w.heap.size + 1 := by omega
 have b0 : m[0].toNat < 256 := m[0].toNat_lt
 have n1 : m[0].toNat ≠ 135 := fun h => h1 (UInt8.toNat_inj.1 h)
 have n2 : m[0].toNat ≠ 136 := fun h => h2 (UInt8.toNat_inj.1 h)
 obtain ⟨c, hc⟩ : ∃ c, m[0].toNat = c := ⟨_, rfl⟩
 rw [hc] at b0 n1 n2
 obtain ⟨o, ho⟩ : ∃ o, (c : Int) - 134 = o := ⟨_, rfl⟩
 have o1 : (o == 1) = false := by simp; omega
 have o2 : (o == 2) = false := by simp; omega
 have w1 : wrap64 (c : Int) = c := by unfold wrap64; omega
 have w2 : wrap64 o = o := by unfold wrap64; omega
 clear h1 h2 n1 n2 b0
 go_enter Try.func79, Try.ntmps79
 go_wp2_with fail
 refine (nmust_no _ _).mono ?_
 rintro e w1 ⟨rfl, rfl⟩
 exact ⟨rfl, rfl, .int .i64 o :: (u8v fr ++ (u8v to ++ (u8v ab ++ (u8v mac ++ (.bool false :: u8v fl))))), by simp, Below.refl _ _⟩
set_option maxRecDepth 20000 in
set_option maxHeartbeats 2000000 in
theorem told_bad1_op1 (hl : 24 ≤ m.length) (h0 : m[0] = 135) (h1 : m[1] ≠ 0) : refused m 3 fr to ab mac fl op0 := by
 intro X w hX hXw
 have hXw2 : X < w.heap.size + 1 := by omega
 have g0 : m[0].toNat = 135 := by rw [h0]; rfl
 have n1 : m[1].toNat ≠ 0 := fun h => h1 (UInt8.toNat_inj.1 h)
 obtain ⟨c, hc⟩ : ∃ c, m[1].toNat = c := ⟨_, rfl⟩
 rw [hc] at n1
 have c1 : ((c : Int) == 0) = false := by simp; omega
 clear h0 h1 n1
 go_enter Try.func79, Try.ntmps79
 go_wp2_with fail
 refine (nmust_no _ _).mono ?_
 rintro e w1 ⟨rfl, rfl⟩
 exact ⟨rfl, rfl, .int .i64 1 :: (u8v fr ++ (u8v to ++ (u8v ab ++ (u8v mac ++ (.bool false :: u8v fl))))), by simp, Below.refl _ _⟩
set_option maxRecDepth 20000 in
set_option maxHeartbeats 2000000 in
theorem told_bad1_op2 (hl : 24 ≤ m.length) (h0 : m[0] = 136) (h1 : m[1] ≠ 0) : refused m 3 fr to ab mac fl op0 := by
 intro X w hX hXw
 have hXw2 : X < w.heap.size + 1 := by omega
 have g0 : m[0].toNat = 136 := by rw [h0]; rfl
 have n1 : m[1].toNat ≠ 0 := fun h => h1 (UInt8.toNat_inj.1 h)
 obtain ⟨c, hc⟩ : ∃ c, m[1].toNat = c := ⟨_, rfl⟩
 rw [hc] at n1
 have c1 : ((c : Int) == 0) = false := by simp; omega
 clear h0 h1 n1
 go_enter Try.func79, Try.ntmps79
 go_wp2_with fail
 refine (nmust_no _ _).mono ?_
 rintro e w1 ⟨rfl, rfl⟩
 exact ⟨rfl, rfl, .int .i64 2 :: (u8v fr ++ (u8v to ++ (u8v ab ++ (u8v mac ++ (.bool false :: u8v fl))))), by simp, Below.refl _ _⟩
end
end Go.Proofs.Ytckckabedgpbiaa
