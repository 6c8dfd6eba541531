/- Contracts of the reference of chapter 1: the bits of a root. -/
import Derived.Test.YtakkicppgkmokaaJ48
import Derived.Test.YtakkicppgkmokaaJ13
set_option linter.unusedSimpArgs false
set_option linter.unusedVariables false
set_option maxRecDepth 4000
namespace Go.Proofs.Ytakkicppgkmokaa
open Go.RowKit
theorem two_wrap (k c : Nat) (hk : k < c) (hc : c ≤ 37) : IntKind.i64.wrap (2 * ((2 ^ k : Nat) : Int)) = ((2 ^ (k + 1) : Nat) : Int) ∧ wrap64 (2 * ((2 ^ k : Nat) : Int)) = ((2 ^ (k + 1) : Nat) : Int) := by
  have h : 2 ^ k ≤ 2 ^ 37 := Nat.pow_le_pow_right (by decide) (by omega)
  rw [show (2 : Nat) ^ 37 = 137438953472 from rfl] at h
  rw [Nat.pow_succ]
  exact ⟨wrapN _ _ (by omega) (by omega), by unfold wrap64; omega⟩
theorem sum_wrap (x c : Nat) (h : x + 2 ^ c * 2 ≤ 274877906944) : IntKind.i64.wrap (((2 ^ c : Nat) : Int) + (x : Int)) = ((x + 2 ^ c : Nat) : Int) ∧ wrap64 (((2 ^ c : Nat) : Int) + (x : Int)) = ((x + 2 ^ c : Nat) : Int) ∧ x + 2 ^ c < 549755813888 ∧ x < 140737488355328 := by
  have := Nat.two_pow_pos c
  exact ⟨wrapN _ _ (by omega) (by omega), by unfold wrap64; omega, by omega, by omega⟩
set_option maxRecDepth 20000 in
set_option maxHeartbeats 4000000 in
theorem root01_any (n q : Nat) (w : World) (hn : n ≤ 1000) (hq : q ≤ 3) :
    Calls Try.prog 41 #[.int .i64 n, .int .i64 q] w fun e w' => e = .returned (.int .u32 (rootI (fitsB q n))) ∧ Below w.heap.size w w' := by
  have jn : (n : Int) ≤ 1000 := by omega
  have jq : (q : Int) ≤ 3 := by omega
  obtain ⟨f, hf⟩ : ∃ f, fitsB q n = f := ⟨_, rfl⟩
  have HF0 := fun x w (hx : x < 549755813888) => fits01_any x n q w hx hn hq
  simp only [hf] at HF0
  have HF := Lib.hid HF0
  rw [hf]
  clear HF0 hf
  go_enter Try.func41, Try.ntmps41
  go_wp2_with fail
  go_loopw [5, 6] (fun x b wr => ∃ i : Nat, i ≤ 38 ∧ x = .int .i64 (rX f i) ∧ b = .int .i64 (37 - (i : Int)) ∧ Below w.heap.size w wr) (fun _ b _ => (intOf b + 1).toNat)
  case atStart => exact ⟨0, by omega, by rw [rX_zero]; rfl, rfl, Below.refl _ _⟩
  case round =>
    obtain ⟨i, hi, rfl, rfl, hbel⟩ := hrel
    have hsz := hbel.size
    obtain ⟨h1, h2⟩ := rX_le f i hi
    have hs := Lib.hid (rX_succ f i)
    obtain ⟨x, hx⟩ : ∃ x, rX f i = x := ⟨_, rfl⟩
    rw [hx] at h1 hs ⊢
    have HX := Lib.hid hx
    clear hx h2
    by_cases hlt : i < 38
    · obtain ⟨c, hc⟩ : ∃ c, 37 - i = c := ⟨_, rfl⟩
      have e1 : (37 : Int) - (i : Int) = (c : Int) := by omega
      rw [hc] at hs
      rw [show 38 - i = c + 1 by omega, Nat.pow_succ] at h1
      have hc1 : (c : Int) ≤ 37 := by omega
      have hc2 : c ≤ 37 := by omega
      have H1 := Lib.hid h1
      rw [e1]
      have HCI : (37 : Int) - ((i + 1 : Nat) : Int) = (c : Int) - 1 := by omega
      have HCI2 := Lib.hid HCI
      have HE1 := Lib.hid e1
      clear h1 hc e1 HCI
      go_wp2_with fail
      go_loopw [7, 8] (fun y j wq => ∃ k : Nat, k ≤ c ∧ j = .int .i64 k ∧ y = .int .i64 ((2 ^ k : Nat) : Int) ∧ wq = wr) (fun _ j _ => c - (intOf j).toNat)
      case atStart => exact ⟨0, by omega, rfl, rfl, rfl⟩
      case round =>
        obtain ⟨k, hk, rfl, rfl, rfl⟩ := hrel
        by_cases hk2 : k < c
        · have hkI : (k : Int) < (c : Int) := by omega
          obtain ⟨t1, t2⟩ := two_wrap k c hk2 hc2
          obtain ⟨P, hP⟩ : ∃ P, (2 ^ k : Nat) = P := ⟨_, rfl⟩
          obtain ⟨P2, hP2⟩ : ∃ P, (2 ^ (k + 1) : Nat) = P := ⟨_, rfl⟩
          rw [hP, hP2] at t1 t2
          rw [hP]
          have HP2 := Lib.hid hP2
          clear hP hP2
          go_wp2_with fail
          go_roundw
          case rel => exact ⟨k + 1, by omega, rfl, by rw [HP2.out], by first | rfl | trivial⟩
          case measure => simp [intOf]; omega
        · obtain rfl : k = c := by omega
          obtain ⟨t1, t2, t3, t4⟩ := sum_wrap x k H1.out
          have HC := Lib.hid (HF.out (x + 2 ^ k) wr t3)
          obtain ⟨y, hy⟩ : ∃ y, x + 2 ^ k = y := ⟨_, rfl⟩
          rw [hy] at t1 t2 HC hs
          obtain ⟨P, hP⟩ : ∃ P, (2 ^ k : Nat) = P := ⟨_, rfl⟩
          rw [hP] at t1 t2 ⊢
          obtain ⟨b, hb⟩ : ∃ b, f y = b := ⟨_, rfl⟩
          rw [hb] at HC hs
          have HS := Lib.hid hs
          clear hy hP hb hs t3 t4
          go_wp2_with fail
          (with_reducible refine (HC.out).mono ?_)
          rintro e w2 ⟨rfl, b2⟩
          have hd : IntKind.i64.wrap ((k : Int) - 1) = (k : Int) - 1 := by rw [IntKind.wrap_i64]; omega
          cases b
          · go_wp2_with fail
            go_roundw
            case rel => exact ⟨i + 1, by omega, by rw [HS.out]; rfl, by rw [HCI2.out], hbel.trans (b2.mono hsz)⟩
            case measure => simp [intOf]
          · go_wp2_with fail
            go_roundw
            case rel => exact ⟨i + 1, by omega, by rw [HS.out]; rfl, by rw [HCI2.out], hbel.trans (b2.mono hsz)⟩
            case measure => simp [intOf]
    · obtain rfl : i = 38 := by omega
      rw [show (37 : Int) - ((38 : Nat) : Int) = -1 by decide]
      obtain ⟨r, hr⟩ : ∃ r, x % 4294967296 = r := ⟨_, rfl⟩
      have HR : rootI f = (r : Int) := by rw [rootI, HX.out, hr]
      have e1 : (x : Int) % 4294967296 = (r : Int) := by omega
      have e2 : (x : Int).tmod 4294967296 = (r : Int) := by rw [Int.tmod_eq_emod_of_nonneg (by omega)]; exact e1
      have e3 : IntKind.u32.wrap (r : Int) = (r : Int) := by rw [IntKind.wrap_u32]; omega
      have HRR := Lib.hid HR
      clear h1 hs hr HR
      go_wp2_with fail
      go_ret
      exact ⟨by rw [HRR.out]; rfl, hbel⟩
end Go.Proofs.Ytakkicppgkmokaa
