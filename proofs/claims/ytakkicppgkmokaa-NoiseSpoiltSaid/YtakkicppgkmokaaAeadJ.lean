/- Contracts of package aead: numbers as bytes, nonces; mac.Same. -/
import Derived.Test.YtakkicppgkmokaaBytJ
import Derived.Test.YtakkicppgkmokaaCmpJ
import Derived.WalkSpells
import Derived.WalkLawsBesides
import Derived.Lib.Hide
set_option linter.unusedSimpArgs false
set_option linter.unusedVariables false
namespace Go.Proofs.Ytakkicppgkmokaa
open Go.RowKit
/-- a number's eight bytes, the lowest first -/
def num8 (n : Nat) : List UInt8 := (List.range 8).map fun k => byteI ((n : Int) / 2 ^ (8 * k))
theorem num8_length (n : Nat) : (num8 n).length = 8 := by simp [num8]
def numK8 (n : Nat) (m : Nat) : List UInt8 := (List.range m).map fun k => byteI ((n : Int) / 2 ^ (8 * k))
theorem numK8_succ (n m : Nat) : numK8 n (m + 1) = numK8 n m ++ [byteI ((n : Int) / 2 ^ (8 * m))] := by simp [numK8, List.range_succ]
set_option maxRecDepth 20000 in
set_option maxHeartbeats 1000000 in
theorem number8_any (n : Nat) (w : World) :
    Calls Try.prog 51 #[.int .u64 n] w fun e w' => e = .returned (.string ⟨(num8 n).toArray⟩) ∧ Below w.heap.size w w' := by
  go_enter Try.func51, Try.ntmps51
  go_wp2_with fail
  go_loopw [3, 5] (fun v i wr => ∃ k : Nat, k ≤ 8 ∧ i = .int .i64 k ∧ wr.ownsRow w.heap.size 5 1 v k (u8s (numK8 n k)) ∧ Below w.heap.size w wr) (fun _ i _ => 8 - (intOf i).toNat)
  case atStart => exact ⟨0, by omega, rfl, World.ownsRow_nil _ _ _ _, Below.refl _ _⟩
  case round =>
    obtain ⟨k, hk, rfl, hown, hbel⟩ := hrel
    by_cases hlt : k < 8
    · have h1 : (k : Int) < 8 := by omega
      obtain ⟨p, hp⟩ : ∃ p, 8 * k = p := ⟨_, rfl⟩
      have ep : (8 : Int) * (k : Int) = (p : Int) := by omega
      have hB := byteI_toNat ((n : Int) / 2 ^ p)
      have HP := Lib.hid hp
      have HB := Lib.hid hB.symm
      have hsz := hbel.size
      clear hp hB
      go_wp2_with (at_builtin; refine wpList_append_u8 rfl rfl inferInstance w.heap.size _ k _ rfl hown _ (byteI ((n : Int) / 2 ^ p)) rfl HB.out (by omega) hsz ?_)
      intro v' w2 hown' hb2
      go_wp2_with fail
      go_roundw
      case rel => exact ⟨k + 1, by omega, by simp, by rw [numK8_succ, HP.out, u8s_append]; exact hown', hbel.trans hb2⟩
      case measure => simp [intOf]; omega
    · obtain rfl : k = 8 := by omega
      rw [show ((8 : Nat) : Int) = 8 from rfl]
      have hc := convS_own (P := Try.prog) (src := 39) (dst := 9) hown
      go_wp2_with fail
      go_ret
      exact ⟨rfl, hbel⟩
def nonceL (n : Nat) : List UInt8 := [0, 0, 0, 0] ++ num8 n
theorem nonceL_length (n : Nat) : (nonceL n).length = 12 := by simp [nonceL, num8_length]
theorem nonce_any (n : Nat) (w : World) :
    Calls Try.prog 32 #[.int .u64 n] w fun e w' => e = .returned (.string ⟨(nonceL n).toArray⟩) ∧ Below w.heap.size w w' := by
  go_enter Try.func32, Try.ntmps32
  go_wp2_with fail
  refine (number8_any n _).mono ?_
  rintro e w1 ⟨rfl, b1⟩
  go_wp2_with fail
  go_ret
  exact ⟨rfl, b1⟩
/-! ### mac.Same -/
def orF (a b : List UInt8) (i : Nat) (x : UInt8) : UInt8 := x ||| (a.getD i 0 ^^^ b.getD i 0)
theorem orUp_zero (a b : List UInt8) (k : Nat) : upTo (orF a b) k 0 = 0 ↔ ∀ i, i < k → a.getD i 0 = b.getD i 0 := by
  induction k with
  | zero => simp [upTo]
  | succ k ih =>
    rw [upTo, orF, UInt8.or_eq_zero_iff, ih, UInt8.xor_eq_zero_iff]
    constructor
    · rintro ⟨h1, h2⟩ i hi
      by_cases e : i = k
      · subst e; exact h2
      · exact h1 i (by omega)
    · intro h
      exact ⟨fun i hi => h i (by omega), h k (by omega)⟩
theorem same_iff (a b : List UInt8) (h : a.length = b.length) : (upTo (orF a b) a.length 0 == 0) = (a == b) := by
  rw [Bool.eq_iff_iff, beq_iff_eq, beq_iff_eq, orUp_zero]
  constructor
  · intro hh
    apply List.ext_getElem h
    intro i h1 h2
    have := hh i h1
    simpa [List.getD_eq_getElem?_getD, h1, h2] using this
  · intro e i _
    rw [e]
theorem same_no (a b : List UInt8) (w : World) (h : a.length ≠ b.length) :
    Calls Try.prog 52 #[.string ⟨a.toArray⟩, .string ⟨b.toArray⟩] w fun e w' => e = .returned (.bool (a == b)) ∧ Below w.heap.size w w' := by
  have h1 : ((a.length : Int) != b.length) = true := by simp; omega
  have h2 : (a == b) = false := by
    cases hb : a == b with
    | false => rfl
    | true => exact absurd (congrArg List.length (by simpa using hb)) h
  rw [h2]
  clear h2
  go_enter Try.func52, Try.ntmps52
  go_wp2_with fail
  go_ret
  exact ⟨rfl, Below.refl _ _⟩
set_option maxRecDepth 20000 in
set_option maxHeartbeats 1000000 in
theorem same_yes (a b : List UInt8) (w : World) (h : a.length = b.length) (hl : a.length ≤ 100000) :
    Calls Try.prog 52 #[.string ⟨a.toArray⟩, .string ⟨b.toArray⟩] w fun e w' => e = .returned (.bool (a == b)) ∧ Below w.heap.size w w' := by
  have h1 : ((a.length : Int) != b.length) = false := by simp; omega
  rw [← same_iff a b h]
  have hl2 : (a.length : Int) ≤ 100000 := by omega
  have HH := Lib.hid h
  clear h
  go_enter Try.func52, Try.ntmps52
  go_wp2_with fail
  clear h1
  go_loopw [5, 14] (fun x i wr => ∃ (k : Nat) (v : UInt8), k ≤ a.length ∧ i = .int .i64 k ∧ upTo (orF a b) k 0 = v ∧ x = .int .u8 (v.toNat : Int) ∧ Below w.heap.size w wr) (fun _ i _ => a.length - (intOf i).toNat)
  case atStart => exact ⟨0, 0, by omega, rfl, rfl, rfl, Below.refl _ _⟩
  case round =>
    obtain ⟨k, v, hk, rfl, hv, rfl, hbel⟩ := hrel
    have HV := Lib.hid hv
    clear hv
    by_cases hlt : k < a.length
    · have g1 : (k : Int) < a.length := by omega
      have g2 : (k : Int) < b.length := by have := HH.out; omega
      have g3 : k < b.length := by have := HH.out; omega
      obtain ⟨x, hx⟩ : ∃ x, a[k] ^^^ b[k] = x := ⟨_, rfl⟩
      obtain ⟨y, hy⟩ : ∃ y, v ||| x = y := ⟨_, rfl⟩
      have e1 := xor_u8 a[k] b[k]
      have e2 := or_u8 v x
      rw [hx] at e1
      rw [hy] at e2
      have hF : orF a b k v = y := by
        rw [orF, ← hy, ← hx]
        simp [List.getD_eq_getElem?_getD, hlt, g3]
      have HF := Lib.hid hF
      clear hF hx hy
      go_wp2_with fail
      refine wp_region_beginR [] rfl trivial (fun hS => ?_)
      refine wpAnyR_take (i := 0) (v := ?_) (by simp only [List.getElem?_toArray, List.getElem?_cons_succ, List.getElem?_cons_zero]; rfl) (by kernel_rfl) (by kernel_rfl) (by kernel_rfl) (by first | exact fun _ _ _ h => h | exact fun _ _ _ h => by cases h.1) (Rws.grow _) (Or.inl ⟨by rfl, ?_⟩) hS ?_
      rotate_left
      · intro w' hS'
        simp only [Rws] at hS'
        go_simp
        refine ⟨?_, Below.refl _ _⟩
        rfl
      (try simp only [Act.put, List.setIfInBounds_toArray, List.set_cons_zero, List.set_cons_succ])
      refine wpAnyR_take (i := 1) (v := ?_) (by simp only [List.getElem?_toArray, List.getElem?_cons_succ, List.getElem?_cons_zero]; rfl) (by kernel_rfl) (by kernel_rfl) (by kernel_rfl) (by first | exact fun _ _ _ h => h | exact fun _ _ _ h => by cases h.1) (Rws.grow _) (Or.inl ⟨by rfl, ?_⟩) hS ?_
      rotate_left
      · intro w' hS'
        simp only [Rws] at hS'
        go_simp
        refine ⟨?_, Below.refl _ _⟩
        rfl
      (try simp only [Act.put, List.setIfInBounds_toArray, List.set_cons_zero, List.set_cons_succ])
      refine wpAnyR_take (i := 2) (v := ?_) (by simp only [List.getElem?_toArray, List.getElem?_cons_succ, List.getElem?_cons_zero]; rfl) (by kernel_rfl) (by kernel_rfl) (by kernel_rfl) (by first | exact fun _ _ _ h => h | exact fun _ _ _ h => by cases h.1) (Rws.grow _) (Or.inl ⟨by rfl, ?_⟩) hS ?_
      rotate_left
      · intro w' hS'
        simp only [Rws] at hS'
        go_simp
        refine ⟨?_, Below.refl _ _⟩
        rfl
      (try simp only [Act.put, List.setIfInBounds_toArray, List.set_cons_zero, List.set_cons_succ])
      refine wpAnyR_take (i := 3) (v := ?_) (by simp only [List.getElem?_toArray, List.getElem?_cons_succ, List.getElem?_cons_zero]; rfl) (by kernel_rfl) (by kernel_rfl) (by kernel_rfl) (by first | exact fun _ _ _ h => h | exact fun _ _ _ h => by cases h.1) (Rws.grow _) (Or.inl ⟨by rfl, ?_⟩) hS ?_
      rotate_left
      · intro w' hS'
        simp only [Rws] at hS'
        go_simp
        refine ⟨?_, Below.refl _ _⟩
        rfl
      (try simp only [Act.put, List.setIfInBounds_toArray, List.set_cons_zero, List.set_cons_succ])
      refine wpAnyR_take (i := 4) (v := ?_) (by simp only [List.getElem?_toArray, List.getElem?_cons_succ, List.getElem?_cons_zero]; rfl) (by kernel_rfl) (by kernel_rfl) (by kernel_rfl) (by first | exact fun _ _ _ h => h | exact fun _ _ _ h => by cases h.1) (Rws.grow _) (Or.inl ⟨by rfl, ?_⟩) hS ?_
      rotate_left
      · intro w' hS'
        simp only [Rws] at hS'
        go_simp
        refine ⟨?_, Below.refl _ _⟩
        rfl
      (try simp only [Act.put, List.setIfInBounds_toArray, List.set_cons_zero, List.set_cons_succ])
      refine wpAnyR_take (i := 5) (v := ?_) (by simp only [List.getElem?_toArray, List.getElem?_cons_succ, List.getElem?_cons_zero]; rfl) (by kernel_rfl) (by kernel_rfl) (by kernel_rfl) (by first | exact fun _ _ _ h => h | exact fun _ _ _ h => by cases h.1) (Rws.grow _) (Or.inl ⟨by rfl, ?_⟩) hS ?_
      rotate_left
      · intro w' hS'
        simp only [Rws] at hS'
        go_simp
        refine ⟨?_, Below.refl _ _⟩
        rfl
      (try simp only [Act.put, List.setIfInBounds_toArray, List.set_cons_zero, List.set_cons_succ])
      refine wpAnyR_take (i := 6) (v := ?_) (by simp only [List.getElem?_toArray, List.getElem?_cons_succ, List.getElem?_cons_zero]; rfl) (by kernel_rfl) (by kernel_rfl) (by kernel_rfl) (by first | exact fun _ _ _ h => h | exact fun _ _ _ h => by cases h.1) (Rws.grow _) (Or.inl ⟨by rfl, ?_⟩) hS ?_
      rotate_left
      · intro w' hS'
        simp only [Rws] at hS'
        go_simp
        refine ⟨?_, Below.refl _ _⟩
        rfl
      (try simp only [Act.put, List.setIfInBounds_toArray, List.set_cons_zero, List.set_cons_succ])
      refine wpAnyR_take (i := 7) (v := ?_) (by simp only [List.getElem?_toArray, List.getElem?_cons_succ, List.getElem?_cons_zero]; rfl) (by kernel_rfl) (by kernel_rfl) (by kernel_rfl) (by first | exact fun _ _ _ h => h | exact fun _ _ _ h => by cases h.1) (Rws.grow _) (Or.inl ⟨by rfl, ?_⟩) hS ?_
      rotate_left
      · intro w' hS'
        simp only [Rws] at hS'
        go_simp
        refine ⟨?_, Below.refl _ _⟩
        rfl
      (try simp only [Act.put, List.setIfInBounds_toArray, List.set_cons_zero, List.set_cons_succ])
      refine wpAnyR_take (i := 8) (v := ?_) (by simp only [List.getElem?_toArray, List.getElem?_cons_succ, List.getElem?_cons_zero]; rfl) (by kernel_rfl) (by kernel_rfl) (by kernel_rfl) (by first | exact fun _ _ _ h => h | exact fun _ _ _ h => by cases h.1) (Rws.grow _) (Or.inl ⟨by rfl, ?_⟩) hS ?_
      rotate_left
      · intro w' hS'
        simp only [Rws] at hS'
        go_simp
        refine ⟨?_, Below.refl _ _⟩
        rfl
      (try simp only [Act.put, List.setIfInBounds_toArray, List.set_cons_zero, List.set_cons_succ])
      refine wpAnyR_take (i := 9) (v := ?_) (by simp only [List.getElem?_toArray, List.getElem?_cons_succ, List.getElem?_cons_zero]; rfl) (by kernel_rfl) (by kernel_rfl) (by kernel_rfl) (by first | exact fun _ _ _ h => h | exact fun _ _ _ h => by cases h.1) (Rws.grow _) (Or.inl ⟨by rfl, ?_⟩) hS ?_
      rotate_left
      · intro w' hS'
        simp only [Rws] at hS'
        go_simp
        refine ⟨?_, Below.refl _ _⟩
        rfl
      (try simp only [Act.put, List.setIfInBounds_toArray, List.set_cons_zero, List.set_cons_succ])
      refine wpAnyR_done (by kernel_rfl) (fun wN hN => ?_) _
      replace hN : Below (wr).heap.size (wr) wN := below_step (Below.drew (Below.refl _ _)) hN
      go_wp2_with fail
      go_roundw
      case rel => exact ⟨k + 1, y, by omega, by simp, by rw [upTo, HV.out, HF.out], rfl, Below.trans hbel (hN.mono hbel.size)⟩
      case measure => simp [intOf]; omega
    · obtain rfl : k = a.length := by omega
      have e : ((v.toNat : Int) == 0) = (v == 0) := by
        rw [Bool.eq_iff_iff, beq_iff_eq, beq_iff_eq]
        constructor
        · intro h0
          exact UInt8.toNat_inj.1 (by simp; omega)
        · intro h0
          rw [h0]
          rfl
      go_wp2_with fail
      go_ret
      exact ⟨by simp [HV.out], hbel⟩
theorem same_any (a b : List UInt8) (w : World) (hl : a.length ≤ 100000) :
    Calls Try.prog 52 #[.string ⟨a.toArray⟩, .string ⟨b.toArray⟩] w fun e w' => e = .returned (.bool (a == b)) ∧ Below w.heap.size w w' := by
  by_cases h : a.length = b.length
  · exact same_yes a b w h hl
  · exact same_no a b w h
end Go.Proofs.Ytakkicppgkmokaa
