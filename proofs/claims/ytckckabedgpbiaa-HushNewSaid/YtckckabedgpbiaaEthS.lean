/- Contracts of package ether: a tag, and a body, taken. -/
import Derived.Test.YtckckabedgpbiaaEthR
set_option linter.unusedSimpArgs false
set_option linter.unusedVariables false
set_option maxRecDepth 4000
namespace Go.Proofs.Ytckckabedgpbiaa
open Go.RowKit
def xV (dst src : Vector UInt8 6) (ty : Int) (body : List UInt8) (vlan prio : Int) : List Value := u8v dst ++ (u8v src ++ [.int .i64 ty, .string ⟨body.toArray⟩, .int .i64 vlan, .int .i64 prio])
theorem and_strange (n : Nat) (h : n < 65536) : bits .and .i64 (n : Int) 4096 = if n / 4096 % 2 = 1 then 4096 else 0 := by
  have h1 := (bits_nat .i64 63 (by decide) wraps_i64 n 4096 (by omega) (by omega)).1
  have h2 : n &&& 4096 = if n / 4096 % 2 = 1 then 4096 else 0 := by
    have h3 : n &&& 4096 = n % 8192 &&& 4096 := by
      rw [show n % 8192 = n &&& 8191 from (Nat.and_two_pow_sub_one_eq_mod n 13).symm, Nat.and_assoc]
      rfl
    have h4 : n % 8192 < 8192 := Nat.mod_lt _ (by omega)
    rw [h3]
    by_cases hb : n / 4096 % 2 = 1
    · rw [if_pos hb]
      have h5 : n % 8192 = 2 ^ 12 * 1 + n % 4096 := by omega
      rw [h5, Nat.two_pow_add_eq_or_of_lt (by omega), Nat.and_or_distrib_right]
      have h6 : n % 4096 &&& 4096 = 0 := by
        rw [show n % 4096 = n &&& 4095 from (Nat.and_two_pow_sub_one_eq_mod n 12).symm, Nat.and_assoc]
        exact Nat.and_zero n
      rw [h6]
      rfl
    · rw [if_neg hb]
      have h5 : n % 8192 = n % 4096 := by omega
      rw [h5, show n % 4096 = n &&& 4095 from (Nat.and_two_pow_sub_one_eq_mod n 12).symm, Nat.and_assoc]
      exact Nat.and_zero n
  rw [show (4096 : Int) = ((4096 : Nat) : Int) from rfl, h1, h2]
  split <;> rfl
theorem and_vlan (n : Nat) (h : n < 65536) : bits .and .i64 (n : Int) 4095 = ((n % 4096 : Nat) : Int) := by
  have := bits_mask .i64 63 (by decide) wraps_i64 12 (by decide) n (by omega) (by omega)
  simpa using this
set_option maxHeartbeats 2000000 in
theorem tag_ok (X R : Nat) (dst src : Vector UInt8 6) (l : List UInt8) (w : World) (hX : row w X = (u8v dst ++ (u8v src ++ [Value.int .i64 0, .string ⟨#[]⟩, .int .i64 (-1), .int .i64 0])).toArray) (hR : row w R = #[.string ⟨l.toArray⟩]) (hXR : X ≠ R) (hn : 2 ≤ l.length) (hl : l.length ≤ 1000000) (hs : ¬ numN (l.take 2) / 4096 % 2 = 1) :
    Calls Try.prog 73 #[.pointer (some ⟨X, 0, none⟩), .pointer (some ⟨R, 0, none⟩)] w fun e w' => e = .returned (.tuple #[]) ∧
      w' = (w.setRow R #[.string ⟨(l.drop 2).toArray⟩]).setRow X (u8v dst ++ (u8v src ++ [Value.int .i64 0, .string ⟨#[]⟩, .int .i64 ((numN (l.take 2) % 4096 : Nat) : Int), .int .i64 ((numN (l.take 2) / 8192 : Nat) : Int)])).toArray := by
  have hnb : numN (l.take 2) < 65536 := numN_le (k := 2) _ (by rw [List.length_take]; omega)
  have hXR2 := row_setRow_other (w := w) R X #[.string ⟨(l.drop 2).toArray⟩] hXR
  rw [hX] at hXR2
  go_enter Try.func73, Try.ntmps73
  go_wp2_with fail
  refine (rtwo_ok R l _ hR hn hl).mono ?_
  rintro e w1 ⟨rfl, rfl⟩
  obtain ⟨n, hnn⟩ : ∃ n, numN (l.take 2) = n := ⟨_, rfl⟩
  rw [hnn] at hs hnb ⊢
  have ha := and_strange n hnb
  rw [if_neg hs] at ha
  have hv := and_vlan n hnb
  have hX1 := row_setRow_same (w := w.setRow R #[.string ⟨(l.drop 2).toArray⟩]) (g := X) (c := (u8v dst ++ (u8v src ++ [Value.int .i64 0, .string ⟨#[]⟩, .int .i64 ((n : Int) % 4096), .int .i64 0])).toArray) (by rw [hXR2]; simp) (by rw [hXR2]; simp)
  go_wp2_with fail
  refine (must_ok _ _).mono ?_
  rintro e w1 ⟨rfl, rfl⟩
  go_wp2_with fail
  go_end0
  subst hnn
  exact ⟨rfl, by simp⟩
set_option maxHeartbeats 2000000 in
theorem tag_short (X R : Nat) (l : List UInt8) (w : World) (hR : row w R = #[.string ⟨l.toArray⟩]) (hn : l.length < 2) :
    Calls Try.prog 73 #[.pointer (some ⟨X, 0, none⟩), .pointer (some ⟨R, 0, none⟩)] w fun e w' => e = .panicked (errP 2) ∧ w = w' := by
  go_enter Try.func73, Try.ntmps73
  go_wp2_with fail
  refine (rtwo_short R l _ hR hn).mono ?_
  rintro e w1 ⟨rfl, rfl⟩
  exact ⟨rfl, rfl, rfl⟩
set_option maxHeartbeats 2000000 in
theorem tag_strange (X R : Nat) (l : List UInt8) (w : World) (hR : row w R = #[.string ⟨l.toArray⟩]) (hn : 2 ≤ l.length) (hl : l.length ≤ 1000000) (hs : numN (l.take 2) / 4096 % 2 = 1) :
    Calls Try.prog 73 #[.pointer (some ⟨X, 0, none⟩), .pointer (some ⟨R, 0, none⟩)] w fun e w' => e = .panicked (errP 3) ∧ w' = w.setRow R #[.string ⟨(l.drop 2).toArray⟩] := by
  have hnb : numN (l.take 2) < 65536 := numN_le (k := 2) _ (by rw [List.length_take]; omega)
  go_enter Try.func73, Try.ntmps73
  go_wp2_with fail
  refine (rtwo_ok R l _ hR hn hl).mono ?_
  rintro e w1 ⟨rfl, rfl⟩
  obtain ⟨n, hnn⟩ : ∃ n, numN (l.take 2) = n := ⟨_, rfl⟩
  rw [hnn] at hs hnb ⊢
  have ha := and_strange n hnb
  rw [if_pos hs] at ha
  go_wp2_with fail
  refine (must_no _ _).mono ?_
  rintro e w1 ⟨rfl, rfl⟩
  exact ⟨rfl, rfl, rfl⟩
section
variable (X R : Nat) (dst src : Vector UInt8 6) (l : List UInt8) (n : Nat) (v p : Int) (w : World)
set_option maxHeartbeats 2000000 in
theorem body_len (hX : row w X = (u8v dst ++ (u8v src ++ [Value.int .i64 0, .string ⟨#[]⟩, .int .i64 v, .int .i64 p])).toArray) (hR : row w R = #[.string ⟨l.toArray⟩]) (hXR : X ≠ R) (hn : n ≤ 1500) (hnl : n ≤ l.length) (hl : l.length ≤ 1000000) :
    Calls Try.prog 75 #[.pointer (some ⟨X, 0, none⟩), .pointer (some ⟨R, 0, none⟩), .int .i64 n] w fun e w' => e = .returned (.tuple #[]) ∧
      w' = (w.setRow R #[.string ⟨(l.drop n).toArray⟩]).setRow X (u8v dst ++ (u8v src ++ [Value.int .i64 0, .string ⟨(l.take n).toArray⟩, .int .i64 v, .int .i64 p])).toArray := by
  have hXR2 := row_setRow_other (w := w) R X #[.string ⟨(l.drop n).toArray⟩] hXR
  rw [hX] at hXR2
  have hn1 : (n : Int) ≤ 1500 := by omega
  go_enter Try.func75, Try.ntmps75
  go_wp2_with fail
  refine (rtake_ok R n l _ hR hnl hl).mono ?_
  rintro e w1 ⟨rfl, rfl⟩
  go_wp2_with fail
  first | go_end0 | refine bodyPost_ret (results_none rfl _ _ _) rfl ?_
  exact ⟨rfl, by simp⟩
set_option maxHeartbeats 2000000 in
theorem body_short (hR : row w R = #[.string ⟨l.toArray⟩]) (hn : n ≤ 1500) (hnl : l.length < n) :
    Calls Try.prog 75 #[.pointer (some ⟨X, 0, none⟩), .pointer (some ⟨R, 0, none⟩), .int .i64 n] w fun e w' => e = .panicked (errP 2) ∧ w = w' := by
  have hn1 : (n : Int) ≤ 1500 := by omega
  go_enter Try.func75, Try.ntmps75
  go_wp2_with fail
  refine (rtake_short R n l _ hR hnl (by omega)).mono ?_
  rintro e w1 ⟨rfl, rfl⟩
  exact ⟨rfl, rfl, rfl⟩
set_option maxHeartbeats 2000000 in
theorem body_bad (hn : 1500 < n) (hb : n < 1536 ∨ n = 33024) :
    Calls Try.prog 75 #[.pointer (some ⟨X, 0, none⟩), .pointer (some ⟨R, 0, none⟩), .int .i64 n] w fun e w' => e = .panicked (errP 3) ∧ w = w' := by
  have hn1 : ¬ (n : Int) ≤ 1500 := by omega
  rcases hb with hb | rfl
  · have hn2 : ¬ 1536 ≤ (n : Int) := by omega
    go_enter Try.func75, Try.ntmps75
    go_wp2_with fail
    refine (must_no _ _).mono ?_
    rintro e w1 ⟨rfl, rfl⟩
    exact ⟨rfl, rfl, rfl⟩
  · go_enter Try.func75, Try.ntmps75
    go_wp2_with fail
    refine (must_no _ _).mono ?_
    rintro e w1 ⟨rfl, rfl⟩
    exact ⟨rfl, rfl, rfl⟩
set_option maxHeartbeats 2000000 in
theorem body_typed (hX : row w X = (u8v dst ++ (u8v src ++ [Value.int .i64 0, .string ⟨#[]⟩, .int .i64 v, .int .i64 p])).toArray) (hR : row w R = #[.string ⟨l.toArray⟩]) (hXR : X ≠ R) (hn : 1536 ≤ n) (hnb : n ≠ 33024) :
    Calls Try.prog 75 #[.pointer (some ⟨X, 0, none⟩), .pointer (some ⟨R, 0, none⟩), .int .i64 n] w fun e w' => e = .returned (.tuple #[]) ∧
      w' = w.setRow X (u8v dst ++ (u8v src ++ [Value.int .i64 n, .string ⟨l.toArray⟩, .int .i64 v, .int .i64 p])).toArray := by
  have hn1 : ¬ (n : Int) ≤ 1500 := by omega
  have hn2 : 1536 ≤ (n : Int) := by omega
  have hn3 : ((n : Int) != 33024) = true := by simp; omega
  have hX1 := row_setRow_same (w := w) (g := X) (c := (u8v dst ++ (u8v src ++ [Value.int .i64 n, .string ⟨#[]⟩, .int .i64 v, .int .i64 p])).toArray) (by rw [hX]; simp) (by rw [hX]; simp)
  have hR1 := row_setRow_other (w := w) X R (u8v dst ++ (u8v src ++ [Value.int .i64 n, .string ⟨#[]⟩, .int .i64 v, .int .i64 p])).toArray (Ne.symm hXR)
  rw [hR] at hR1
  go_enter Try.func75, Try.ntmps75
  go_wp2_with fail
  refine (must_ok _ _).mono ?_
  rintro e w1 ⟨rfl, rfl⟩
  go_wp2_with fail
  go_end0
  exact ⟨rfl, by simp⟩
end
end Go.Proofs.Ytckckabedgpbiaa
