/- Contracts of oct.Sum16, and of package nd: the message and its sum. -/
import Derived.Test.YtckckabedgpbiaaGreatJ15
set_option linter.unusedSimpArgs false
set_option linter.unusedVariables false
set_option maxRecDepth 4000
namespace Go.Proofs.YtckckabedgpbiaaGreat
open Go.RowKit
def sumStep (n b i : Nat) : Nat := (n + b * (if i % 2 = 0 then 256 else 1)) % 65536 + (n + b * (if i % 2 = 0 then 256 else 1)) / 65536
def sumUp (l : List UInt8) : Nat → Nat
 | 0 => 0
 | k + 1 => sumStep (sumUp l k) (l.getD k 0).toNat k
def sum16 (l : List UInt8) : Nat := 65535 - sumUp l l.length
theorem sumStep_le (n b i : Nat) (hn : n ≤ 65535) (hb : b < 256) : sumStep n b i ≤ 65535 := by
 unfold sumStep
 split <;> omega
theorem sumUp_le (l : List UInt8) (k : Nat) : sumUp l k ≤ 65535 := by
 induction k with
 | zero => simp [sumUp]
 | succ k ih => exact sumStep_le _ _ _ ih (l.getD k 0).toNat_lt
theorem mask16 (n : Int) (h0 : 0 ≤ n) (h1 : n < 4294967296) : bits .and .i64 n 65535 = n % 65536 := by
 have := bits_mask .i64 63 (by decide) wraps_i64 16 (by decide) n h0 (by omega)
 simpa using this
set_option maxHeartbeats 600000 in
theorem sum16_any (l : List UInt8) (w : World) (hl : l.length ≤ 100000) :
  Calls Tryz.prog 109 #[.string ⟨l.toArray⟩] w fun e w' => e = .returned (.int .i64 (sum16 l)) ∧ w = w' := by
 go_enter Tryz.func109, Tryz.ntmps109
 go_wp2
 go_loop [3, 7] (fun n i => ∃ k : Nat, k ≤ l.length ∧ i = .int .i64 k ∧ n = .int .i64 (sumUp l k)) (fun _ i => l.length - (intOf i).toNat)
 case atStart => exact ⟨0, Nat.zero_le _, rfl, rfl⟩
 case round =>
  obtain ⟨k, hk, rfl, rfl⟩ := hrel
  have hle := sumUp_le l k
  obtain ⟨n, hn⟩ : ∃ n, sumUp l k = n := ⟨_, rfl⟩
  rw [hn] at hle ⊢
  have HN := Lib.hid hn
  clear hn
  by_cases hlt : k < l.length
  ·
   have h1 : (k : Int) < l.length := by omega
   have hb := (l[k]).toNat_lt
   have hg : l.getD k 0 = l[k] := by simp [List.getD_eq_getElem?_getD, hlt]
   by_cases hp : k % 2 = 0
   ·
    have hp1 : (k : Int) % 2 = 0 := by omega
    have hm := mask16 ((n : Int) + (l[k].toNat : Int) * 256) (by omega) (by omega)
    go_wp2
    go_round
    case rel => exact ⟨k + 1, by omega, by simp, congrArg (Value.int .i64) (by rw [sumUp, HN.out, hg, sumStep, if_pos hp]; omega)⟩
    case measure => simp [intOf]; omega
   ·
    have hp1 : (k : Int) % 2 = 1 := by omega
    have hm := mask16 ((n : Int) + (l[k].toNat : Int)) (by omega) (by omega)
    go_wp2
    go_round
    case rel => exact ⟨k + 1, by omega, by simp, congrArg (Value.int .i64) (by rw [sumUp, HN.out, hg, sumStep, if_neg hp]; omega)⟩
    case measure => simp [intOf]; omega
  ·
   obtain rfl : k = l.length := by omega
   go_wp2
   go_ret
   exact ⟨ret_int (by rw [sum16, HN.out]; omega), rfl⟩
def ndV (op : Int) (fr to ab : Vector UInt8 16) (mac : Vector UInt8 6) (has : Bool) (fl : Vector UInt8 4) : List Value :=
 .int .i64 op :: (u8v fr ++ (u8v to ++ (u8v ab ++ (u8v mac ++ (.bool has :: u8v fl)))))
def msgS (op : Nat) (s : List UInt8) (ab : Vector UInt8 16) (mac : Vector UInt8 6) (has : Bool) (fl : Vector UInt8 4) : List UInt8 :=
 [UInt8.ofNat (134 + op), 0] ++ (s ++ (fl.toList ++ (ab.toList ++ (if has then [UInt8.ofNat op, 1] ++ mac.toList else []))))
theorem msgS_length (op : Nat) (s : List UInt8) (ab : Vector UInt8 16) (mac : Vector UInt8 6) (has : Bool) (fl : Vector UInt8 4) : (msgS op s ab mac has fl).length = s.length + (if has then 30 else 22) := by
 unfold msgS
 cases has <;> simp <;> omega
def sumS (op : Nat) (fr to ab : Vector UInt8 16) (mac : Vector UInt8 6) (has : Bool) (fl : Vector UInt8 4) : List UInt8 :=
 fr.toList ++ (to.toList ++ (bytesN (if has then 32 else 24) 4 ++ ([0, 0, 0, 58] ++ msgS op [0, 0] ab mac has fl)))
def sumN (op : Nat) (fr to ab : Vector UInt8 16) (mac : Vector UInt8 6) (has : Bool) (fl : Vector UInt8 4) : Nat := sum16 (sumS op fr to ab mac has fl)
set_option maxRecDepth 20000 in
set_option maxHeartbeats 2000000 in
theorem message_op1 (fr to ab : Vector UInt8 16) (mac : Vector UInt8 6) (has : Bool) (fl : Vector UInt8 4) (w : World) :
  Calls Tryz.prog 108 #[.agg (ndV 1 fr to ab mac has fl).toArray] w fun e w' => e = .returned (.string ⟨(msgS 1 [0, 0] ab mac has fl).toArray⟩) ∧ Below w.heap.size w w' := by
 unfold ndV
 go_enter Tryz.func108, Tryz.ntmps108
 go_wp2_with fail
 refine wp_region_beginS (S := Held (fun w' => row w' w.heap.size = (.int .i64 1 :: (u8v fr ++ (u8v to ++ (u8v ab ++ (u8v mac ++ (.bool has :: u8v fl)))))).toArray)) rfl ?_ (fun hS => ?_)
 ·
  unfold Held
  simp [go_sem, *]
 refine rp 0 hS ?_
 refine rp 1 hS ?_
 refine rp 2 hS ?_
 refine rp 3 hS ?_
 refine rp 6 hS ?_
 refine rp 7 hS ?_
 refine rp 8 hS ?_
 refine rp 10 hS ?_
 refine rp 11 hS ?_
 refine rp 12 hS ?_
 refine wpAnyH_all (rs := [4]) (by kernel_rfl) (by simp) ?_
 intro i hi
 obtain rfl := List.mem_singleton.1 hi
 refine wpOp_step rfl (fun K hK => ?_)
 clear hi hS
 go_simp
 rw [show IntKind.u8.wrap (IntKind.i64.wrap 135) = 135 by decide]
 rw [show (#[Value.int .u8 135, Value.int .u8 0, Value.int .u8 0, Value.int .u8 0] : Array Value) = (u8s [135, 0, 0, 0]).toArray from rfl]
 refine hK _ _ (wpAnyH_next (S2 := Held (fun w' => row w' w.heap.size = (.int .i64 1 :: (u8v fr ++ (u8v to ++ (u8v ab ++ (u8v mac ++ (.bool has :: u8v fl)))))).toArray ∧ row w' (w.heap.size + 1) = (u8s [135, 0, 0, 0]).toArray)) ?_ ?_ (fun hS => ?_))
 ·
  unfold Held
  simp [go_sem]
 ·
  intro w' hS'
  unfold Held at *
  simp at hS'
  simp [hS']
 clear hK K
 refine rp 5 hS ?_
 refine rp 9 hS ?_
 refine rp 13 hS ?_
 refine rp 14 hS ?_
 refine wpAnyH_done (by kernel_rfl) ?_ _
 cases has with
 | false =>
  go_wp2_with fail
  go_ret
  refine ⟨by simp [msgS], ?_⟩
  (repeat (first | exact Below.refl _ _ | refine Below.al ?_ _ | refine Below.drew ?_ | refine Below.sr ?_ _ | refine Below.sc ?_ _))
 | true =>
  go_wp2_with fail
  refine wp_region_beginS (S := Held (fun w' => row w' w.heap.size = (.int .i64 1 :: (u8v fr ++ (u8v to ++ (u8v ab ++ (u8v mac ++ (.bool true :: u8v fl)))))).toArray)) rfl ?_ (fun hS => ?_)
  ·
   unfold Held
   simp [go_sem, *]
  refine rp 0 hS ?_
  refine rp 1 hS ?_
  refine rp 2 hS ?_
  refine rp 3 hS ?_
  refine rp 6 hS ?_
  refine rp 7 hS ?_
  refine rp 8 hS ?_
  refine wpAnyH_all (rs := [4]) (by kernel_rfl) (by simp) ?_
  intro i hi
  obtain rfl := List.mem_singleton.1 hi
  refine wpOp_step rfl (fun K hK => ?_)
  clear hi hS
  go_simp
  rw [show IntKind.u8.wrap 1 = 1 by decide]
  rw [show (#[Value.int .u8 1, Value.int .u8 1] : Array Value) = (u8s [1, 1]).toArray from rfl]
  refine hK _ _ (wpAnyH_next (S2 := Held (fun w' => row w' w.heap.size = (.int .i64 1 :: (u8v fr ++ (u8v to ++ (u8v ab ++ (u8v mac ++ (.bool true :: u8v fl)))))).toArray ∧ row w' (w.heap.size + 1 + 1) = (u8s [1, 1]).toArray)) ?_ ?_ (fun hS => ?_))
  ·
   unfold Held
   simp [go_sem]
  ·
   intro w' hS'
   unfold Held at *
   simp at hS'
   simp [hS']
  clear hK K
  refine rp 5 hS ?_
  refine rp 9 hS ?_
  refine rp 10 hS ?_
  refine rp 11 hS ?_
  refine wpAnyH_done (by kernel_rfl) ?_ _
  go_wp2_with fail
  go_ret
  refine ⟨by simp [msgS], ?_⟩
  (repeat (first | exact Below.refl _ _ | refine Below.al ?_ _ | refine Below.drew ?_ | refine Below.sr ?_ _ | refine Below.sc ?_ _))
set_option maxRecDepth 20000 in
set_option maxHeartbeats 2000000 in
theorem message_op2 (fr to ab : Vector UInt8 16) (mac : Vector UInt8 6) (has : Bool) (fl : Vector UInt8 4) (w : World) :
  Calls Tryz.prog 108 #[.agg (ndV 2 fr to ab mac has fl).toArray] w fun e w' => e = .returned (.string ⟨(msgS 2 [0, 0] ab mac has fl).toArray⟩) ∧ Below w.heap.size w w' := by
 unfold ndV
 go_enter Tryz.func108, Tryz.ntmps108
 go_wp2_with fail
 refine wp_region_beginS (S := Held (fun w' => row w' w.heap.size = (.int .i64 2 :: (u8v fr ++ (u8v to ++ (u8v ab ++ (u8v mac ++ (.bool has :: u8v fl)))))).toArray)) rfl ?_ (fun hS => ?_)
 ·
  unfold Held
  simp [go_sem, *]
 refine rp 0 hS ?_
 refine rp 1 hS ?_
 refine rp 2 hS ?_
 refine rp 3 hS ?_
 refine rp 6 hS ?_
 refine rp 7 hS ?_
 refine rp 8 hS ?_
 refine rp 10 hS ?_
 refine rp 11 hS ?_
 refine rp 12 hS ?_
 refine wpAnyH_all (rs := [4]) (by kernel_rfl) (by simp) ?_
 intro i hi
 obtain rfl := List.mem_singleton.1 hi
 refine wpOp_step rfl (fun K hK => ?_)
 clear hi hS
 go_simp
 rw [show IntKind.u8.wrap (IntKind.i64.wrap 136) = 136 by decide]
 rw [show (#[Value.int .u8 136, Value.int .u8 0, Value.int .u8 0, Value.int .u8 0] : Array Value) = (u8s [136, 0, 0, 0]).toArray from rfl]
 refine hK _ _ (wpAnyH_next (S2 := Held (fun w' => row w' w.heap.size = (.int .i64 2 :: (u8v fr ++ (u8v to ++ (u8v ab ++ (u8v mac ++ (.bool has :: u8v fl)))))).toArray ∧ row w' (w.heap.size + 1) = (u8s [136, 0, 0, 0]).toArray)) ?_ ?_ (fun hS => ?_))
 ·
  unfold Held
  simp [go_sem]
 ·
  intro w' hS'
  unfold Held at *
  simp at hS'
  simp [hS']
 clear hK K
 refine rp 5 hS ?_
 refine rp 9 hS ?_
 refine rp 13 hS ?_
 refine rp 14 hS ?_
 refine wpAnyH_done (by kernel_rfl) ?_ _
 cases has with
 | false =>
  go_wp2_with fail
  go_ret
  refine ⟨by simp [msgS], ?_⟩
  (repeat (first | exact Below.refl _ _ | refine Below.al ?_ _ | refine Below.drew ?_ | refine Below.sr ?_ _ | refine Below.sc ?_ _))
 | true =>
  go_wp2_with fail
  refine wp_region_beginS (S := Held (fun w' => row w' w.heap.size = (.int .i64 2 :: (u8v fr ++ (u8v to ++ (u8v ab ++ (u8v mac ++ (.bool true :: u8v fl)))))).toArray)) rfl ?_ (fun hS => ?_)
  ·
   unfold Held
   simp [go_sem, *]
  refine rp 0 hS ?_
  refine rp 1 hS ?_
  refine rp 2 hS ?_
  refine rp 3 hS ?_
  refine rp 6 hS ?_
  refine rp 7 hS ?_
  refine rp 8 hS ?_
  refine wpAnyH_all (rs := [4]) (by kernel_rfl) (by simp) ?_
  intro i hi
  obtain rfl := List.mem_singleton.1 hi
  refine wpOp_step rfl (fun K hK => ?_)
  clear hi hS
  go_simp
  rw [show IntKind.u8.wrap 2 = 2 by decide]
  rw [show (#[Value.int .u8 2, Value.int .u8 1] : Array Value) = (u8s [2, 1]).toArray from rfl]
  refine hK _ _ (wpAnyH_next (S2 := Held (fun w' => row w' w.heap.size = (.int .i64 2 :: (u8v fr ++ (u8v to ++ (u8v ab ++ (u8v mac ++ (.bool true :: u8v fl)))))).toArray ∧ row w' (w.heap.size + 1 + 1) = (u8s [2, 1]).toArray)) ?_ ?_ (fun hS => ?_))
  ·
   unfold Held
   simp [go_sem]
  ·
   intro w' hS'
   unfold Held at *
   simp at hS'
   simp [hS']
  clear hK K
  refine rp 5 hS ?_
  refine rp 9 hS ?_
  refine rp 10 hS ?_
  refine rp 11 hS ?_
  refine wpAnyH_done (by kernel_rfl) ?_ _
  go_wp2_with fail
  go_ret
  refine ⟨by simp [msgS], ?_⟩
  (repeat (first | exact Below.refl _ _ | refine Below.al ?_ _ | refine Below.drew ?_ | refine Below.sr ?_ _ | refine Below.sc ?_ _))
set_option maxRecDepth 20000 in
set_option maxHeartbeats 2000000 in
theorem ndsum_op1 (fr to ab : Vector UInt8 16) (mac : Vector UInt8 6) (has : Bool) (fl : Vector UInt8 4) (w : World) :
  Calls Tryz.prog 107 #[.agg (ndV 1 fr to ab mac has fl).toArray] w fun e w' => e = .returned (.int .i64 (sumN 1 fr to ab mac has fl)) ∧ Below w.heap.size w w' := by
 have Hm := message_op1 fr to ab mac has fl
 obtain ⟨m, hm⟩ : ∃ m, msgS 1 [0, 0] ab mac has fl = m := ⟨_, rfl⟩
 have hml : m.length = if has then 32 else 24 := by rw [← hm, msgS_length]; cases has <;> rfl
 have hS : sumN 1 fr to ab mac has fl = sum16 (fr.toList ++ (to.toList ++ (bytesN m.length 4 ++ ([0, 0, 0, 58] ++ m)))) := by rw [sumN, sumS, hm, hml]
 rw [hm] at Hm
 have HM := Lib.hid Hm
 have hml1 : m.length ≤ 32 := by rw [hml]; cases has <;> decide
 have hml2 : (m.length : Int) ≤ 32 := by omega
 rw [hS]
 clear hm Hm hml hS
 unfold ndV at HM
 unfold ndV
 go_enter Tryz.func107, Tryz.ntmps107
 go_wp2_with fail
 refine (HM.out _).mono ?_
 rintro e w1 ⟨rfl, hb1⟩
 have z1 := (hb1).size
 try simp at z1
 have ra : row w1 (w.heap.size) = (.int .i64 1 :: (u8v fr ++ (u8v to ++ (u8v ab ++ (u8v mac ++ (.bool has :: u8v fl)))))).toArray := by rw [row_below hb1 (by first | (simp; done) | (simp; omega) | omega)]; simp [go_sem]; (try rfl)
 replace hb1 := below_of hb1 (show Below (w).heap.size w _ from by (repeat (first | exact Below.refl _ _ | refine Below.al ?_ _ | refine Below.drew ?_ | refine Below.sr ?_ _ | refine Below.sc ?_ _))) (by first | (simp; done) | (simp; omega) | omega)
 go_wp2_with fail
 refine wp_region_beginS (S := Held (fun w' => row w' w.heap.size = (.int .i64 1 :: (u8v fr ++ (u8v to ++ (u8v ab ++ (u8v mac ++ (.bool has :: u8v fl)))))).toArray)) rfl ?_ (fun hS => ?_)
 ·
  unfold Held
  simp [go_sem, *]
 refine rp 0 hS ?_
 refine rp 1 hS ?_
 refine rp 2 hS ?_
 refine rp 3 hS ?_
 refine rp 4 hS ?_
 refine rp 5 hS ?_
 refine rp 6 hS ?_
 refine rp 7 hS ?_
 refine rp 8 hS ?_
 refine rp 12 hS ?_
 refine wpAnyH_all (rs := [9]) (by kernel_rfl) (by simp) ?_
 intro i hi
 obtain rfl := List.mem_singleton.1 hi
 refine wpOp_step rfl (fun K hK => ?_)
 clear hi hS
 go_simp
 refine (four_any _ _ (by omega) (by omega)).mono ?_
 rintro e w2 ⟨rfl, hb2⟩
 have z2 := (hb2).size
 try simp at z2
 refine hK _ _ (wpAnyH_same ?_ (fun hS => ?_))
 ·
  unfold Held
  show row _ _ = _
  rw [row_below hb2 (by first | (simp; done) | (simp; omega) | omega)]
  (first | done | simp [go_sem, *])
 clear hK K
 have ra2 := hS
 unfold Held at ra2
 refine rp 10 hS ?_
 refine rp 11 hS ?_
 refine wpAnyH_take (i := 13) (v := ?_) (by simp only [List.getElem?_toArray, List.getElem?_cons_succ, List.getElem?_cons_zero]; rfl) (by kernel_rfl) (by kernel_rfl) (by kernel_rfl) (by exact fun _ _ _ h => h) (Or.inl ⟨by rfl, ?_⟩) hS ?_
 rotate_left
 ·
  intro w' hS'
  unfold Held at hS'
  go_simp
  rw [if_neg (by omega)]
  (first | done | rfl)
 (try simp only [Act.put, List.setIfInBounds_toArray, List.set_cons_zero, List.set_cons_succ])
 refine wpAnyH_all (rs := [14]) (by kernel_rfl) (by simp) ?_
 intro i hi
 obtain rfl := List.mem_singleton.1 hi
 refine wpOp_step rfl (fun K hK => ?_)
 clear hi hS
 go_simp
 refine (sum16_any _ _ (by simp; omega)).mono ?_
 rintro e w3 ⟨rfl, rfl⟩
 refine hK _ _ (wpAnyH_same ?_ (fun hS => ?_))
 ·
  unfold Held
  exact ra2
 clear hK K
 refine rp 15 hS ?_
 refine wpAnyH_done (by kernel_rfl) ?_ _
 go_wp2_with fail
 go_ret
 refine ⟨by simp, ?_⟩
 refine Below.trans ?_ (Below.mono hb2 (by first | (simp; done) | (simp; omega) | omega))
 (repeat (first | refine Below.al ?_ _ | refine Below.drew ?_ | refine Below.sr ?_ _ | refine Below.sc ?_ _))
 exact hb1
set_option maxRecDepth 20000 in
set_option maxHeartbeats 2000000 in
theorem ndsum_op2 (fr to ab : Vector UInt8 16) (mac : Vector UInt8 6) (has : Bool) (fl : Vector UInt8 4) (w : World) :
  Calls Tryz.prog 107 #[.agg (ndV 2 fr to ab mac has fl).toArray] w fun e w' => e = .returned (.int .i64 (sumN 2 fr to ab mac has fl)) ∧ Below w.heap.size w w' := by
 have Hm := message_op2 fr to ab mac has fl
 obtain ⟨m, hm⟩ : ∃ m, msgS 2 [0, 0] ab mac has fl = m := ⟨_, rfl⟩
 have hml : m.length = if has then 32 else 24 := by rw [← hm, msgS_length]; cases has <;> rfl
 have hS : sumN 2 fr to ab mac has fl = sum16 (fr.toList ++ (to.toList ++ (bytesN m.length 4 ++ ([0, 0, 0, 58] ++ m)))) := by rw [sumN, sumS, hm, hml]
 rw [hm] at Hm
 have HM := Lib.hid Hm
 have hml1 : m.length ≤ 32 := by rw [hml]; cases has <;> decide
 have hml2 : (m.length : Int) ≤ 32 := by omega
 rw [hS]
 clear hm Hm hml hS
 unfold ndV at HM
 unfold ndV
 go_enter Tryz.func107, Tryz.ntmps107
 go_wp2_with fail
 refine (HM.out _).mono ?_
 rintro e w1 ⟨rfl, hb1⟩
 have z1 := (hb1).size
 try simp at z1
 have ra : row w1 (w.heap.size) = (.int .i64 2 :: (u8v fr ++ (u8v to ++ (u8v ab ++ (u8v mac ++ (.bool has :: u8v fl)))))).toArray := by rw [row_below hb1 (by first | (simp; done) | (simp; omega) | omega)]; simp [go_sem]; (try rfl)
 replace hb1 := below_of hb1 (show Below (w).heap.size w _ from by (repeat (first | exact Below.refl _ _ | refine Below.al ?_ _ | refine Below.drew ?_ | refine Below.sr ?_ _ | refine Below.sc ?_ _))) (by first | (simp; done) | (simp; omega) | omega)
 go_wp2_with fail
 refine wp_region_beginS (S := Held (fun w' => row w' w.heap.size = (.int .i64 2 :: (u8v fr ++ (u8v to ++ (u8v ab ++ (u8v mac ++ (.bool has :: u8v fl)))))).toArray)) rfl ?_ (fun hS => ?_)
 ·
  unfold Held
  simp [go_sem, *]
 refine rp 0 hS ?_
 refine rp 1 hS ?_
 refine rp 2 hS ?_
 refine rp 3 hS ?_
 refine rp 4 hS ?_
 refine rp 5 hS ?_
 refine rp 6 hS ?_
 refine rp 7 hS ?_
 refine rp 8 hS ?_
 refine rp 12 hS ?_
 refine wpAnyH_all (rs := [9]) (by kernel_rfl) (by simp) ?_
 intro i hi
 obtain rfl := List.mem_singleton.1 hi
 refine wpOp_step rfl (fun K hK => ?_)
 clear hi hS
 go_simp
 refine (four_any _ _ (by omega) (by omega)).mono ?_
 rintro e w2 ⟨rfl, hb2⟩
 have z2 := (hb2).size
 try simp at z2
 refine hK _ _ (wpAnyH_same ?_ (fun hS => ?_))
 ·
  unfold Held
  show row _ _ = _
  rw [row_below hb2 (by first | (simp; done) | (simp; omega) | omega)]
  (first | done | simp [go_sem, *])
 clear hK K
 have ra2 := hS
 unfold Held at ra2
 refine rp 10 hS ?_
 refine rp 11 hS ?_
 refine wpAnyH_take (i := 13) (v := ?_) (by simp only [List.getElem?_toArray, List.getElem?_cons_succ, List.getElem?_cons_zero]; rfl) (by kernel_rfl) (by kernel_rfl) (by kernel_rfl) (by exact fun _ _ _ h => h) (Or.inl ⟨by rfl, ?_⟩) hS ?_
 rotate_left
 ·
  intro w' hS'
  unfold Held at hS'
  go_simp
  rw [if_neg (by omega)]
  (first | done | rfl)
 (try simp only [Act.put, List.setIfInBounds_toArray, List.set_cons_zero, List.set_cons_succ])
 refine wpAnyH_all (rs := [14]) (by kernel_rfl) (by simp) ?_
 intro i hi
 obtain rfl := List.mem_singleton.1 hi
 refine wpOp_step rfl (fun K hK => ?_)
 clear hi hS
 go_simp
 refine (sum16_any _ _ (by simp; omega)).mono ?_
 rintro e w3 ⟨rfl, rfl⟩
 refine hK _ _ (wpAnyH_same ?_ (fun hS => ?_))
 ·
  unfold Held
  exact ra2
 clear hK K
 refine rp 15 hS ?_
 refine wpAnyH_done (by kernel_rfl) ?_ _
 go_wp2_with fail
 go_ret
 refine ⟨by simp, ?_⟩
 refine Below.trans ?_ (Below.mono hb2 (by first | (simp; done) | (simp; omega) | omega))
 (repeat (first | refine Below.al ?_ _ | refine Below.drew ?_ | refine Below.sr ?_ _ | refine Below.sc ?_ _))
 exact hb1
end Go.Proofs.YtckckabedgpbiaaGreat
