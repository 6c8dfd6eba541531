/- Texts of this proof, merged: EthR, EthS. -/
import Derived.Test.YtckckabedgpbiaaEth0J
import Derived.Deep.RegionHeld3
import Derived.Recover
set_option linter.unusedSimpArgs false
set_option linter.unusedVariables false
set_option maxRecDepth 4000
namespace Go.Proofs.Ytckckabedgpbiaa
section
open Go.RowKit
def errP (n : Int) : List PanicEntry := [{ v := .iface 26 (.int .i64 n), recovered := false }]
set_option maxHeartbeats 1000000 in
theorem rtake_ok (R n : Nat) (l : List UInt8) (w : World) (hR : row w R = #[.string ⟨l.toArray⟩]) (hn : n ≤ l.length) (hl : l.length ≤ 1000000) :
  Calls Try.prog 98 #[.pointer (some ⟨R, 0, none⟩), .int .i64 n] w fun e w' => e = .returned (.string ⟨(l.take n).toArray⟩) ∧ w' = w.setRow R #[.string ⟨(l.drop n).toArray⟩] := by
 have h1 : (n : Int) ≤ l.length := by omega
 have h2 : (l.length : Int) ≤ 1000000 := by omega
 go_enter Try.func98, Try.ntmps98
 go_wp2
 go_ret
 exact ⟨by simp, by simp⟩
set_option maxHeartbeats 1000000 in
theorem rtake_short (R n : Nat) (l : List UInt8) (w : World) (hR : row w R = #[.string ⟨l.toArray⟩]) (hn : l.length < n) (hl : n ≤ 1000000) :
  Calls Try.prog 98 #[.pointer (some ⟨R, 0, none⟩), .int .i64 n] w fun e w' => e = .panicked (errP 2) ∧ w = w' := by
 have h1 : (l.length : Int) < n := by omega
 have h2 : (n : Int) ≤ 1000000 := by omega
 go_enter Try.func98, Try.ntmps98
 go_wp2
 exact ⟨rfl, rfl, rfl⟩
set_option maxHeartbeats 1000000 in
theorem must_ok (n : Int) (w : World) : Calls Try.prog 74 #[.bool true, .int .i64 n] w fun e w' => e = .returned (.tuple #[]) ∧ w = w' := by
 go_enter Try.func74, Try.ntmps74
 go_wp2
 go_end0
 exact ⟨rfl, rfl⟩
set_option maxHeartbeats 1000000 in
theorem must_no (n : Int) (w : World) : Calls Try.prog 74 #[.bool false, .int .i64 n] w fun e w' => e = .panicked (errP n) ∧ w = w' := by
 go_enter Try.func74, Try.ntmps74
 go_wp2
 exact ⟨rfl, rfl, rfl⟩
def zeroEth : List Value := zeros 12 (.int .u8 0) ++ [.int .i64 0, .string ⟨#[]⟩, .int .i64 0, .int .i64 0]
set_option maxHeartbeats 1000000 in
theorem ethCatch_panic (X E : Nat) (n m : Int) (w : World) (B : Nat) (hX : (row w X).size = 16) (hE : row w E = #[.int .i64 m]) (hXE : X ≠ E) (hBX : B ≤ X) (hBE : B ≤ E) :
  CallsD Try.prog 70 #[.pointer (some ⟨X, 0, none⟩), .pointer (some ⟨E, 0, none⟩)] (.panicking (errP n)) w fun e u' w' =>
   e = .returned (.tuple #[]) ∧ u' = .panicking [{ v := .iface 26 (.int .i64 n), recovered := true }] ∧ row w' X = zeroEth.toArray ∧ row w' E = #[.int .i64 n] ∧ Below B w w' := by
 have hE2 := row_setRow_other (w := w) X E (zeros 12 (.int .u8 0) ++ .int .i64 0 :: .string ⟨#[]⟩ :: zeros 2 (.int .i64 0)).toArray (Ne.symm hXE)
 rw [hE] at hE2
 refine callsD_of_wpS Try.func70 rfl fun c₀ cs hu => ?_
 apply wpS_seq
 apply wpS_region
 simp [wpOpsS, go_sem, recoverD, hu, errP, Try.ntmps70, Exit.thenS]
 apply wpS_seq
 apply wpS_region
 simp [wpOpsS, go_sem, Exit.thenS]
 refine wpS_cond (t := true) (by simp [Act.eval, Array.replicate]) ?_
 simp only [if_true]
 refine wpS_of_wp ?_
 rw [show (Array.replicate 7 undef : Array Value) = #[undef, undef, undef, undef, undef, undef, undef] from rfl]
 simp only [List.setIfInBounds_toArray, List.set_cons_zero, List.set_cons_succ, List.append_toArray, List.cons_append, List.nil_append]
 refine wp_region_begin rfl (fun hS => ?_)
 refine wpAnyH_take (i := 0) (v := ?_) (by simp only [List.getElem?_toArray, List.getElem?_cons_succ, List.getElem?_cons_zero]; rfl) (by kernel_rfl) (by kernel_rfl) (by kernel_rfl) (by exact fun _ _ _ h => h) (Or.inl ⟨by rfl, ?_⟩) hS ?_
 rotate_left
 ·
  intro w' hS'
  unfold Held at hS'
  go_simp
  rfl
 (try simp only [Act.put, List.setIfInBounds_toArray, List.set_cons_zero, List.set_cons_succ])
 refine wpAnyH_take (i := 1) (v := ?_) (by simp only [List.getElem?_toArray, List.getElem?_cons_succ, List.getElem?_cons_zero]; rfl) (by kernel_rfl) (by kernel_rfl) (by kernel_rfl) (by exact fun _ _ _ h => h) (Or.inl ⟨by rfl, ?_⟩) hS ?_
 rotate_left
 ·
  intro w' hS'
  unfold Held at hS'
  go_simp
  rfl
 (try simp only [Act.put, List.setIfInBounds_toArray, List.set_cons_zero, List.set_cons_succ])
 refine wpAnyH_take (i := 2) (v := ?_) (by simp only [List.getElem?_toArray, List.getElem?_cons_succ, List.getElem?_cons_zero]; rfl) (by kernel_rfl) (by kernel_rfl) (by kernel_rfl) (by exact fun _ _ _ h => h) (Or.inl ⟨by rfl, ?_⟩) hS ?_
 rotate_left
 ·
  intro w' hS'
  unfold Held at hS'
  go_simp
  rfl
 (try simp only [Act.put, List.setIfInBounds_toArray, List.set_cons_zero, List.set_cons_succ])
 refine wpAnyH_all (rs := [3]) (by kernel_rfl) (by simp) ?_
 intro i hi
 obtain rfl := List.mem_singleton.1 hi
 refine wpOp_step rfl (fun K hK => ?_)
 clear hi hS
 go_simp
 refine hK _ _ (wpAnyH_same ?_ (fun hS => ?_))
 ·
  unfold Held
  simp [go_sem]
 clear hK K
 refine wpAnyH_all (rs := [4]) (by kernel_rfl) (by simp) ?_
 intro i hi
 obtain rfl := List.mem_singleton.1 hi
 refine wpOp_step rfl (fun K hK => ?_)
 clear hi hS
 go_simp
 refine hK _ _ (wpAnyH_same ?_ (fun hS => ?_))
 ·
  unfold Held
  simp [go_sem]
 clear hK K
 refine wpAnyH_done (by kernel_rfl) ?_ _
 have r1 : row (w.setRow X zeroEth.toArray) X = zeroEth.toArray := row_setRow_same (by omega) (by simp [hX, zeroEth])
 have r2 := row_setRow_other (w := w.setRow X zeroEth.toArray) E X #[.int .i64 n] hXE
 have r3 := row_setRow_same (w := w.setRow X zeroEth.toArray) (g := E) (c := #[.int .i64 n]) (by rw [show row (w.setRow X zeroEth.toArray) E = _ from hE2]; simp) (by rw [show row (w.setRow X zeroEth.toArray) E = _ from hE2]; simp)
 refine ⟨rfl, _, rfl, .tuple #[], by simp [results, Try.results70], rfl, rfl, r2.trans r1, r3, ?_⟩
 (repeat (first | exact Below.refl _ _ | refine Below.al ?_ _ | refine Below.drew ?_ | refine Below.sr ?_ _ | refine Below.sc ?_ _))
set_option maxHeartbeats 1000000 in
theorem ethCatch_idle (X E : Nat) (w : World) :
  CallsD Try.prog 70 #[.pointer (some ⟨X, 0, none⟩), .pointer (some ⟨E, 0, none⟩)] .returning w fun e u' w' =>
   e = .returned (.tuple #[]) ∧ u' = .returning ∧ w' = w := by
 refine callsD_of_wpS Try.func70 rfl fun c₀ cs hu => ?_
 apply wpS_seq
 apply wpS_region
 simp [wpOpsS, go_sem, recoverD, hu, errP, Try.ntmps70, Exit.thenS]
 apply wpS_seq
 apply wpS_region
 simp [wpOpsS, go_sem, Exit.thenS]
 refine wpS_cond (t := false) (by simp [Act.eval, Array.replicate]) ?_
 simp only [Bool.false_eq_true, if_false]
 refine wpS_of_wp (wp_skip ?_)
 cases c₀
 simp_all [bodyPostS, results, Try.results70]
set_option maxHeartbeats 1000000 in
theorem rmac_ok (R : Nat) (l : List UInt8) (w : World) (hR : row w R = #[.string ⟨l.toArray⟩]) (hRw : R < w.heap.size) (hn : 6 ≤ l.length) (hl : l.length ≤ 1000000) :
  Calls Try.prog 71 #[.pointer (some ⟨R, 0, none⟩)] w fun e w' => e = .returned (.agg (u8v (vecAt l 0 6)).toArray) ∧ Below w.heap.size (w.setRow R #[.string ⟨(l.drop 6).toArray⟩]) w' := by
 have hlen : (l.take 6).length = 6 := by simp; omega
 go_enter Try.func71, Try.ntmps71
 go_wp2_with fail
 refine (rtake_ok R 6 l _ (by simp [go_sem, hRw, hR]) hn hl).mono ?_
 rintro e w1 ⟨rfl, rfl⟩
 go_wp2_with fail
 ((try simp only [Exit.inBlock, Exit.then]); refine bodyPost_ret (results_1 rfl (resOk_row rfl ?_)) rfl ?_; (simp [go_sem]))
 ·
  omega
 refine ⟨by rw [u8v_vecAt _ _ _ (by omega)]; simp [go_sem], ?_⟩
 (repeat (first | exact Below.refl _ _ | refine Below.al ?_ _ | refine Below.drew ?_ | refine Below.sr ?_ _ | refine Below.sc ?_ _))
set_option maxHeartbeats 1000000 in
theorem rmac_short (R : Nat) (l : List UInt8) (w : World) (hR : row w R = #[.string ⟨l.toArray⟩]) (hRw : R < w.heap.size) (hn : l.length < 6) :
  Calls Try.prog 71 #[.pointer (some ⟨R, 0, none⟩)] w fun e w' => e = .panicked (errP 2) ∧ Below w.heap.size w w' := by
 go_enter Try.func71, Try.ntmps71
 go_wp2_with fail
 refine (rtake_short R 6 l _ (by simp [go_sem, hRw, hR]) hn (by omega)).mono ?_
 rintro e w1 ⟨rfl, rfl⟩
 refine ⟨rfl, rfl, ?_⟩
 (repeat (first | exact Below.refl _ _ | refine Below.al ?_ _ | refine Below.drew ?_ | refine Below.sr ?_ _ | refine Below.sc ?_ _))
set_option maxHeartbeats 1000000 in
theorem rtwo_ok (R : Nat) (l : List UInt8) (w : World) (hR : row w R = #[.string ⟨l.toArray⟩]) (hn : 2 ≤ l.length) (hl : l.length ≤ 1000000) :
  Calls Try.prog 72 #[.pointer (some ⟨R, 0, none⟩)] w fun e w' => e = .returned (.int .i64 (numN (l.take 2))) ∧ w' = w.setRow R #[.string ⟨(l.drop 2).toArray⟩] := by
 have hlen : (l.take 2).length = 2 := by simp; omega
 go_enter Try.func72, Try.ntmps72
 go_wp2_with fail
 refine (rtake_ok R 2 l _ hR hn hl).mono ?_
 rintro e w1 ⟨rfl, rfl⟩
 go_wp2_with fail
 refine (number_any _ _ (by simp [ByteArray.size]; omega)).mono ?_
 rintro e w1 ⟨rfl, rfl⟩
 go_wp2_with fail
 go_ret
 exact ⟨rfl, rfl⟩
set_option maxHeartbeats 1000000 in
theorem rtwo_short (R : Nat) (l : List UInt8) (w : World) (hR : row w R = #[.string ⟨l.toArray⟩]) (hn : l.length < 2) :
  Calls Try.prog 72 #[.pointer (some ⟨R, 0, none⟩)] w fun e w' => e = .panicked (errP 2) ∧ w = w' := by
 go_enter Try.func72, Try.ntmps72
 go_wp2_with fail
 refine (rtake_short R 2 l _ hR hn (by omega)).mono ?_
 rintro e w1 ⟨rfl, rfl⟩
 exact ⟨rfl, rfl, rfl⟩
end
section
open Go.RowKit
theorem and_strange (n : Nat) (h : n < 65536) : bits .and .i64 (n : Int) 4096 = if n / 4096 % 2 = 1 then 4096 else 0 := by
 have h1 := (bits_nat .i64 63 (by decide) wraps_i64 n 4096 (by omega) (by omega)).1
 have h2 : n &&& 4096 = if n / 4096 % 2 = 1 then 4096 else 0 := by
  have h3 : n &&& 4096 = n % 8192 &&& 4096 := by
   rw [show n % 8192 = n &&& 8191 from (Nat.and_two_pow_sub_one_eq_mod n 13).symm, Nat.and_assoc]
   rfl
  have h4 : n % 8192 < 8192 := Nat.mod_lt _ (by omega)
  rw [h3]
  by_cases hb : n / 4096 % 2 = 1
  ·
   rw [if_pos hb]
   have h5 : n % 8192 = 2 ^ 12 * 1 + n % 4096 := by omega
   rw [h5, Nat.two_pow_add_eq_or_of_lt (by omega), Nat.and_or_distrib_right]
   have h6 : n % 4096 &&& 4096 = 0 := by
    rw [show n % 4096 = n &&& 4095 from (Nat.and_two_pow_sub_one_eq_mod n 12).symm, Nat.and_assoc]
    exact Nat.and_zero n
   rw [h6]
   rfl
  ·
   rw [if_neg hb]
   have h5 : n % 8192 = n % 4096 := by omega
   rw [h5, show n % 4096 = n &&& 4095 from (Nat.and_two_pow_sub_one_eq_mod n 12).symm, Nat.and_assoc]
   exact Nat.and_zero n
 rw [show (4096 : Int) = ((4096 : Nat) : Int) from rfl, h1, h2]
 split <;> rfl
theorem and_vlan (n : Nat) (h : n < 65536) : bits .and .i64 (n : Int) 4095 = ((n % 4096 : Nat) : Int) := by
 have := bits_mask .i64 63 (by decide) wraps_i64 12 (by decide) n (by omega) (by omega)
 simpa using this
set_option maxHeartbeats 2000000 in
theorem tag_ok (X R : Nat) (dst src : Vector UInt8 6) (l : List UInt8) (w : World) (hX : row w X = (u8v dst ++ (u8v src ++ [Value.int .i64 0, .string ⟨#[]⟩, .int .i64 (-1), .int .i64 0])).toArray) (hR : row w R = #[.string ⟨l.toArray⟩]) (hXR : X ≠ R) (hn : 2 ≤ l.length) (hl : l.length ≤ 1000000) (hs : ¬ numN (l.take 2) / 4096 % 2 = 1) :
  Calls Try.prog 73 #[.pointer (some ⟨X, 0, none⟩), .pointer (some ⟨R, 0, none⟩)] w fun e w' => e = .returned (.tuple #[]) ∧
   w' = (w.setRow R #[.string ⟨(l.drop 2).toArray⟩]).setRow X (u8v dst ++ (u8v src ++ [Value.int .i64 0, .string ⟨#[]⟩, .int .i64 ((numN (l.take 2) % 4096 : Nat) : Int), .int .i64 ((numN (l.take 2) / 8192 : Nat) : Int)])).toArray := by
 have hnb : numN (l.take 2) < 65536 := numN_le (k := 2) _ (by rw [List.length_take]; omega)
 have hXR2 := row_setRow_other (w := w) R X #[.string ⟨(l.drop 2).toArray⟩] hXR
 rw [hX] at hXR2
 go_enter Try.func73, Try.ntmps73
 go_wp2_with fail
 refine (rtwo_ok R l _ hR hn hl).mono ?_
 rintro e w1 ⟨rfl, rfl⟩
 obtain ⟨n, hnn⟩ : ∃ n, numN (l.take 2) = n := ⟨_, rfl⟩
 rw [hnn] at hs hnb ⊢
 have ha := and_strange n hnb
 rw [if_neg hs] at ha
 have hv := and_vlan n hnb
 have hX1 := row_setRow_same (w := w.setRow R #[.string ⟨(l.drop 2).toArray⟩]) (g := X) (c := (u8v dst ++ (u8v src ++ [Value.int .i64 0, .string ⟨#[]⟩, .int .i64 ((n : Int) % 4096), .int .i64 0])).toArray) (by rw [hXR2]; simp) (by rw [hXR2]; simp)
 go_wp2_with fail
 refine (must_ok _ _).mono ?_
 rintro e w1 ⟨rfl, rfl⟩
 go_wp2_with fail
 go_end0
 subst hnn
 exact ⟨rfl, by simp⟩
set_option maxHeartbeats 2000000 in
theorem tag_short (X R : Nat) (l : List UInt8) (w : World) (hR : row w R = #[.string ⟨l.toArray⟩]) (hn : l.length < 2) :
  Calls Try.prog 73 #[.pointer (some ⟨X, 0, none⟩), .pointer (some ⟨R, 0, none⟩)] w fun e w' => e = .panicked (errP 2) ∧ w = w' := by
 go_enter Try.func73, Try.ntmps73
 go_wp2_with fail
 refine (rtwo_short R l _ hR hn).mono ?_
 rintro e w1 ⟨rfl, rfl⟩
 exact ⟨rfl, rfl, rfl⟩
set_option maxHeartbeats 2000000 in
theorem tag_strange (X R : Nat) (l : List UInt8) (w : World) (hR : row w R = #[.string ⟨l.toArray⟩]) (hn : 2 ≤ l.length) (hl : l.length ≤ 1000000) (hs : numN (l.take 2) / 4096 % 2 = 1) :
  Calls Try.prog 73 #[.pointer (some ⟨X, 0, none⟩), .pointer (some ⟨R, 0, none⟩)] w fun e w' => e = .panicked (errP 3) ∧ w' = w.setRow R #[.string ⟨(l.drop 2).toArray⟩] := by
 have hnb : numN (l.take 2) < 65536 := numN_le (k := 2) _ (by rw [List.length_take]; omega)
 go_enter Try.func73, Try.ntmps73
 go_wp2_with fail
 refine (rtwo_ok R l _ hR hn hl).mono ?_
 rintro e w1 ⟨rfl, rfl⟩
 obtain ⟨n, hnn⟩ : ∃ n, numN (l.take 2) = n := ⟨_, rfl⟩
 rw [hnn] at hs hnb ⊢
 have ha := and_strange n hnb
 rw [if_pos hs] at ha
 go_wp2_with fail
 refine (must_no _ _).mono ?_
 rintro e w1 ⟨rfl, rfl⟩
 exact ⟨rfl, rfl, rfl⟩
section
variable (X R : Nat) (dst src : Vector UInt8 6) (l : List UInt8) (n : Nat) (v p : Int) (w : World)
set_option maxHeartbeats 2000000 in
theorem body_len (hX : row w X = (u8v dst ++ (u8v src ++ [Value.int .i64 0, .string ⟨#[]⟩, .int .i64 v, .int .i64 p])).toArray) (hR : row w R = #[.string ⟨l.toArray⟩]) (hXR : X ≠ R) (hn : n ≤ 1500) (hnl : n ≤ l.length) (hl : l.length ≤ 1000000) :
  Calls Try.prog 75 #[.pointer (some ⟨X, 0, none⟩), .pointer (some ⟨R, 0, none⟩), .int .i64 n] w fun e w' => e = .returned (.tuple #[]) ∧
   w' = (w.setRow R #[.string ⟨(l.drop n).toArray⟩]).setRow X (u8v dst ++ (u8v src ++ [Value.int .i64 0, .string ⟨(l.take n).toArray⟩, .int .i64 v, .int .i64 p])).toArray := by
 have hXR2 := row_setRow_other (w := w) R X #[.string ⟨(l.drop n).toArray⟩] hXR
 rw [hX] at hXR2
 have hn1 : (n : Int) ≤ 1500 := by omega
 go_enter Try.func75, Try.ntmps75
 go_wp2_with fail
 refine (rtake_ok R n l _ hR hnl hl).mono ?_
 rintro e w1 ⟨rfl, rfl⟩
 go_wp2_with fail
 first | go_end0 | refine bodyPost_ret (results_none rfl _ _ _) rfl ?_
 exact ⟨rfl, by simp⟩
set_option maxHeartbeats 2000000 in
theorem body_short (hR : row w R = #[.string ⟨l.toArray⟩]) (hn : n ≤ 1500) (hnl : l.length < n) :
  Calls Try.prog 75 #[.pointer (some ⟨X, 0, none⟩), .pointer (some ⟨R, 0, none⟩), .int .i64 n] w fun e w' => e = .panicked (errP 2) ∧ w = w' := by
 have hn1 : (n : Int) ≤ 1500 := by omega
 go_enter Try.func75, Try.ntmps75
 go_wp2_with fail
 refine (rtake_short R n l _ hR hnl (by omega)).mono ?_
 rintro e w1 ⟨rfl, rfl⟩
 exact ⟨rfl, rfl, rfl⟩
set_option maxHeartbeats 2000000 in
theorem body_bad (hn : 1500 < n) (hb : n < 1536 ∨ n = 33024) :
  Calls Try.prog 75 #[.pointer (some ⟨X, 0, none⟩), .pointer (some ⟨R, 0, none⟩), .int .i64 n] w fun e w' => e = .panicked (errP 3) ∧ w = w' := by
 have hn1 : ¬ (n : Int) ≤ 1500 := by omega
 rcases hb with hb | rfl
 ·
  have hn2 : ¬ 1536 ≤ (n : Int) := by omega
  go_enter Try.func75, Try.ntmps75
  go_wp2_with fail
  refine (must_no _ _).mono ?_
  rintro e w1 ⟨rfl, rfl⟩
  exact ⟨rfl, rfl, rfl⟩
 ·
  go_enter Try.func75, Try.ntmps75
  go_wp2_with fail
  refine (must_no _ _).mono ?_
  rintro e w1 ⟨rfl, rfl⟩
  exact ⟨rfl, rfl, rfl⟩
set_option maxHeartbeats 2000000 in
theorem body_typed (hX : row w X = (u8v dst ++ (u8v src ++ [Value.int .i64 0, .string ⟨#[]⟩, .int .i64 v, .int .i64 p])).toArray) (hR : row w R = #[.string ⟨l.toArray⟩]) (hXR : X ≠ R) (hn : 1536 ≤ n) (hnb : n ≠ 33024) :
  Calls Try.prog 75 #[.pointer (some ⟨X, 0, none⟩), .pointer (some ⟨R, 0, none⟩), .int .i64 n] w fun e w' => e = .returned (.tuple #[]) ∧
   w' = w.setRow X (u8v dst ++ (u8v src ++ [Value.int .i64 n, .string ⟨l.toArray⟩, .int .i64 v, .int .i64 p])).toArray := by
 have hn1 : ¬ (n : Int) ≤ 1500 := by omega
 have hn2 : 1536 ≤ (n : Int) := by omega
 have hn3 : ((n : Int) != 33024) = true := by simp; omega
 have hX1 := row_setRow_same (w := w) (g := X) (c := (u8v dst ++ (u8v src ++ [Value.int .i64 n, .string ⟨#[]⟩, .int .i64 v, .int .i64 p])).toArray) (by rw [hX]; simp) (by rw [hX]; simp)
 have hR1 := row_setRow_other (w := w) X R (u8v dst ++ (u8v src ++ [Value.int .i64 n, .string ⟨#[]⟩, .int .i64 v, .int .i64 p])).toArray (Ne.symm hXR)
 rw [hR] at hR1
 go_enter Try.func75, Try.ntmps75
 go_wp2_with fail
 refine (must_ok _ _).mono ?_
 rintro e w1 ⟨rfl, rfl⟩
 go_wp2_with fail
 go_end0
 exact ⟨rfl, by simp⟩
end
end
end Go.Proofs.Ytckckabedgpbiaa
