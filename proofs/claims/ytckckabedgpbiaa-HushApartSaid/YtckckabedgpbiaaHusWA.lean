/- The walk of the law HushApart. -/
import Derived.Test.YtckckabedgpbiaaHusW
import Derived.Test.YtckckabedgpbiaaArgs
set_option linter.unusedSimpArgs false
set_option linter.unusedVariables false
set_option maxRecDepth 4000
namespace Go.Proofs.Ytckckabedgpbiaa
open Go.ChangeShapes Go.WideShapes Go.ChangeAt Go.RowKit
theorem and_254 (b : UInt8) : bits .and .u8 (b.toNat : Int) 254 = ((b &&& 254).toNat : Int) := by
  have h : ∀ n : Fin 256, bits .and .u8 (n.val : Int) 254 = ((UInt8.ofNat n.val &&& 254).toNat : Int) := by decide +kernel
  have := h ⟨b.toNat, b.toNat_lt⟩
  simpa using this
def evenM (mac : Vector UInt8 6) : Vector UInt8 6 := mac.set 0 (mac[0] &&& 254)
theorem evenM_grp (mac : Vector UInt8 6) : grp (evenM mac) = false := by
  have h : ∀ n : Fin 256, ((UInt8.ofNat n.val &&& 254).toNat % 2 == 1) = false := by decide +kernel
  have h2 := h ⟨mac[0].toNat, mac[0].toNat_lt⟩
  have h3 : UInt8.ofNat mac[0].toNat = mac[0] := UInt8.ofNat_toNat
  simp only [h3] at h2
  simp only [grp, evenM, Vector.getElem_set_self]
  exact h2
theorem evenM_cells (mac : Vector UInt8 6) : (u8v mac).set 0 (Value.int .u8 ((mac[0] &&& 254).toNat : Int)) = u8v (evenM mac) := by
  simp only [u8v, u8s, evenM, Vector.toList_set, List.map_set]
theorem arr4_zero : zeros 4 (Value.int .u8 0) = u8v (Vector.replicate 4 0) := rfl
/-- a table with one binding -/
def tabA (v : Int) (ip : List UInt8) (mac : Vector UInt8 6) (n k : Nat) : List HB := if k < n then [⟨v, ip, mac, (k : Int)⟩] else []
theorem tabA_tick (v : Int) (ip : List UInt8) (mac : Vector UInt8 6) (n k : Nat) (h : k < n) : tickH (n : Int) (tabA v ip mac n k) = tabA v ip mac n (k + 1) := by
  unfold tabA
  rw [if_pos h]
  by_cases h2 : k + 1 < n
  · rw [if_pos h2]
    simp only [tickH, List.filterMap_cons, List.filterMap_nil, stepH]
    rw [if_neg (by omega)]
    simp
  · rw [if_neg h2]
    simp only [tickH, List.filterMap_cons, List.filterMap_nil, stepH]
    rw [if_pos (by omega)]
theorem tabA_found (v v' : Int) (ip : List UInt8) (mac : Vector UInt8 6) (n k : Nat) (h : k < n) : foundH v' ip (tabA v ip mac n k) = if v' = v then (mac, true) else (mac0, false) := by
  unfold tabA foundH
  rw [if_pos h]
  simp only [findH, HB.is, beq_self_eq_true, Bool.and_true, beq_iff_eq]
  by_cases e : v' = v
  · rw [if_pos e, if_pos e]
  · rw [if_neg e, if_neg e]
    rfl
theorem tabA_dist (v : Int) (ip : List UInt8) (mac : Vector UInt8 6) (n k : Nat) : DistH (tabA v ip mac n k) := by
  unfold tabA DistH
  split
  · exact List.pairwise_singleton _ _
  · exact List.Pairwise.nil
theorem tabA_age (v : Int) (ip : List UInt8) (mac : Vector UInt8 6) (n k : Nat) (hn : n ≤ 1000000) : ∀ b ∈ tabA v ip mac n k, 0 ≤ b.age ∧ b.age ≤ 1000000 := by
  unfold tabA
  split
  · intro b hb
    rw [List.mem_singleton] at hb
    subst hb
    exact ⟨by simp, by simp; omega⟩
  · intro b hb
    cases hb
attribute [local irreducible] askB
set_option maxRecDepth 20000 in
set_option maxHeartbeats 4000000 in
theorem hushApart_any (mac other : Vector UInt8 6) (ip mine : Vector UInt8 4) (v v' : Int) (tm : Nat) (htm : tm < 256) (w : World) :
    Calls Try.prog 7 #[.agg (u8v mac).toArray, .agg (u8v other).toArray, .agg (u8v ip).toArray, .agg (u8v mine).toArray, .int .i64 v, .int .i64 v', .int .u8 tm] w fun e w' => e = .returned (.bool true) ∧ Below w.heap.size w w' := by
  go_enter Try.func7, Try.ntmps7
  go_wp2_with fail
  (with_reducible refine (awake21_any _).mono ?_)
  rintro e w1 ⟨rfl, b1⟩
  have z1 := b1.size
  simp at z1
  have rA : row w1 w.heap.size = (u8v mac).toArray := by rw [row_below b1 (by simp; try omega)]; simp [go_sem]
  have rO : row w1 (w.heap.size + 1) = (u8v other).toArray := by rw [row_below b1 (by simp; try omega)]; simp [go_sem]
  have rI : row w1 (w.heap.size + 1 + 1) = (u8v ip).toArray := by rw [row_below b1 (by simp; try omega)]; simp [go_sem]
  have rN : row w1 (w.heap.size + 1 + 1 + 1) = (u8v mine).toArray := by rw [row_below b1 (by simp; try omega)]; simp [go_sem]
  have B1 : Below w.heap.size w w1 := Below.trans (by (repeat (first | exact Below.refl _ _ | refine Below.alloc ?_ (by first | (simp; done) | (simp; omega) | omega) _ | refine Below.drew ?_ | refine Below.setRow ?_ (by first | (simp; done) | (simp; omega) | omega) _ | refine Below.setCell ?_ (by first | (simp; done) | (simp; omega) | omega) _))) (b1.mono (by simp; try omega))
  clear b1
  by_cases h1 : (ip == mine) = true
  · go_wp2_with fail
    (with_reducible refine (awake21_any _).mono ?_)
    rintro e w2 ⟨rfl, b2⟩
    go_wp2_with fail
    go_ret
    exact ⟨rfl, B1.trans (b2.mono (by omega))⟩
  have h1f : (ip == mine) = false := by simpa using h1
  by_cases h2 : (ip == Vector.replicate 4 0) = true
  · go_wp2_with fail
    (with_reducible refine (awake21_any _).mono ?_)
    rintro e w2 ⟨rfl, b2⟩
    go_wp2_with fail
    go_ret
    exact ⟨rfl, B1.trans (b2.mono (by omega))⟩
  have h2f : (ip == Vector.replicate 4 0) = false := by simpa using h2
  have hx := and_254 mac[0]
  obtain ⟨m0, hm0⟩ : ∃ x : UInt8, mac[0] &&& 254 = x := ⟨_, rfl⟩
  have hec := evenM_cells mac
  have heg := evenM_grp mac
  rw [hm0] at hx hec
  obtain ⟨me, hme⟩ : ∃ x, evenM mac = x := ⟨_, rfl⟩
  rw [hme] at hec heg
  have e0 : (u8v mac)[0]'(by simp) = Value.int .u8 (mac[0].toNat : Int) := by simp [u8v, u8s]
  obtain ⟨n, hn⟩ : ∃ n, 1 + tm % 20 = n := ⟨_, rfl⟩
  have hnI : (1 : Int) + (tm : Int) % 20 = (n : Int) := by omega
  have hnI2 : (1 : Int) + (tm : Int).tmod 20 = (n : Int) := by rw [Int.tmod_eq_emod_of_nonneg (by omega)]; exact hnI
  have hn1 : 1 ≤ n := by omega
  have hn2 : n ≤ 20 := by omega
  clear hm0 hme hn h1 h2
  have q1 : w.heap.size < w1.heap.size := by omega
  have q2 : w.heap.size + 1 < w1.heap.size := by omega
  have q3 : w.heap.size + 1 + 1 < w1.heap.size := by omega
  have q4 : w.heap.size + 1 + 1 + 1 < w1.heap.size := by omega
  obtain ⟨v0, hv0⟩ : ∃ x, w1.setRow w.heap.size (u8v me).toArray = x := ⟨_, rfl⟩
  go_wp2_with fail
  replace rO : row v0 (w.heap.size + 1) = (u8v other).toArray := by rw [← hv0, row_setRow_other _ _ _ (by omega), rO]
  replace rI : row v0 (w.heap.size + 1 + 1) = (u8v ip).toArray := by rw [← hv0, row_setRow_other _ _ _ (by omega), rI]
  replace rN : row v0 (w.heap.size + 1 + 1 + 1) = (u8v mine).toArray := by rw [← hv0, row_setRow_other _ _ _ (by omega), rN]
  have rE : row v0 w.heap.size = (u8v me).toArray := by rw [← hv0]; exact row_setRow_same (by simp [rA]) (by simp [rA])
  have z0 : v0.heap.size = w1.heap.size := by rw [← hv0, setRow_size]
  have B0 : Below w.heap.size w v0 := by rw [← hv0]; exact Below.setRow B1 (Nat.le_refl _) _
  have HQ := Lib.hid (fun w => question_b other mine ip w)
  have HL := Lib.hid (fun w => question_b me ip mine w)
  have hipz : (ip != Vector.replicate 4 0) = true := by rw [bne, h2f]; rfl
  have HA := ask_ann me ip mine hipz heg
  obtain ⟨bq, hbq⟩ : ∃ x, askB other mine ip = x := ⟨_, rfl⟩
  obtain ⟨bl, hbl⟩ : ∃ x, askB me ip mine = x := ⟨_, rfl⟩
  have HS := Lib.hid (fun (w : World) (A M k : Nat) (h : HushT w A M n (tabA v ip.toList me n k)) (hk : k < n) => ask_some v other mine ip w h h1f me (by rw [tabA_found _ _ _ _ _ _ hk, if_pos rfl]))
  have HZ := Lib.hid (fun (w : World) (A M : Nat) (h : HushT w A M n (tabA v ip.toList me n n)) => ask_none v other mine ip w h h1f (by unfold tabA; rw [if_neg (Nat.lt_irrefl n)]; rfl))
  have hW : ∃ (d1 s1 : Vector UInt8 6) (t1 : Int) (b1 : List UInt8), ∀ (w : World) (A M : Nat), HushT w A M n (tabA v ip.toList me n 0) → AnsC (some ⟨A, 0, none⟩) v' allOnes other 2054 (askB other mine ip) w (frameV d1 s1 t1 b1) (v == v') := by
    by_cases e : v' = v
    · subst e
      refine ⟨other, me, 2054, arpS 2 me other ip mine, fun w A M h => ?_⟩
      rw [beq_self_eq_true]
      exact ask_some v' other mine ip w h h1f me (by rw [tabA_found _ _ _ _ _ _ (by omega), if_pos rfl])
    · refine ⟨mac0, mac0, 0, [], fun w A M h => ?_⟩
      rw [beq_eq_false_iff_ne.2 (Ne.symm e), ← zeroFr_eq]
      exact ask_none v' other mine ip w h h1f (by rw [tabA_found _ _ _ _ _ _ (by omega), if_neg e])
  obtain ⟨d1, s1, t1, c1, hW⟩ := hW
  rw [hbq] at HQ HS HZ hW
  rw [hbl] at HL HA
  have HW := Lib.hid hW
  have HL2 := Lib.hid (fun (w : World) (A M : Nat) (h : HushT w A M n []) (hn : A ≠ M) => hLearn_kept allOnes me 2054 bl ip.toList me w v h hn HA (.inr (by simp)))
  have hput : putH ⟨v, ip.toList, me, 0⟩ [] = tabA v ip.toList me n 0 := by unfold tabA putH; rw [if_pos (by omega)]; rfl
  rw [hput] at HL2
  obtain ⟨br, hbr⟩ : ∃ x, arpS 2 me other ip mine = x := ⟨_, rfl⟩
  rw [hbr] at HS
  obtain ⟨vv, hvv⟩ : ∃ x, (v == v') = x := ⟨_, rfl⟩
  rw [hvv] at HW
  clear hbq hbl HA hbr hW hput rA B1 q1 q2 q3 q4
  have hvv2 : (vv != (v == v')) = false := by rw [hvv]; simp
  have hvv3 : (vv ^^ (v == v')) = false := by rw [hvv]; simp
  have hvv4 : (vv == (v == v')) = true := by rw [hvv]; simp
  clear hvv
  unfold AnsC zeroFr at HZ
  unfold AnsC at HS HW
  unfold frameV at HQ HL HS HZ HW HL2
  clear hv0 hec e0 hx
  (with_reducible refine (hNew_ok n _ (by omega) (by omega)).mono ?_)
  rintro e x0 ⟨rfl, b, hT, zx0⟩
  replace rO := (row_below b (by omega)).trans rO
  replace rI := (row_below b (by omega)).trans rI
  replace rN := (row_below b (by omega)).trans rN
  replace rE := (row_below b (by omega)).trans rE
  replace B0 := B0.trans (b.mono (by omega))
  clear b
  obtain ⟨A, hA⟩ : ∃ x, v0.heap.size + 1 = x := ⟨_, rfl⟩
  obtain ⟨M, hM⟩ : ∃ x, v0.heap.size = x := ⟨_, rfl⟩
  rw [hA, hM] at hT
  rw [hA]
  have hAM : A ≠ M := by omega
  go_wp2_with fail
  (with_reducible refine (HQ.out _).mono ?_)
  rintro e v1 ⟨rfl, b⟩
  have zv1 := b.size
  replace rO := (row_below b (by omega)).trans rO
  replace rI := (row_below b (by omega)).trans rI
  replace rN := (row_below b (by omega)).trans rN
  replace rE := (row_below b (by omega)).trans rE
  replace hT := hT.below b (by omega) (by omega)
  replace B0 := B0.trans (b.mono (by omega))
  clear b
  obtain ⟨v2, hv2⟩ : ∃ x, v1.alloc (.cells (u8v allOnes ++ (u8v other ++ [Value.int .i64 2054, Value.string ⟨bq.toArray⟩])).toArray 32) = x := ⟨_, rfl⟩
  have rQ : row v2 v1.heap.size = (u8v allOnes ++ (u8v other ++ [Value.int .i64 2054, Value.string ⟨bq.toArray⟩])).toArray := by rw [← hv2]; exact row_alloc_at _ _ _ rfl
  have zv2 : v2.heap.size = v1.heap.size + 1 := by rw [← hv2]; exact alloc_sizeW _ _
  have b : Below v1.heap.size v1 v2 := by rw [← hv2]; exact Below.alloc (Below.refl _ _) (Nat.le_refl _) _
  replace rO := (row_below b (by omega)).trans rO
  replace rI := (row_below b (by omega)).trans rI
  replace rN := (row_below b (by omega)).trans rN
  replace rE := (row_below b (by omega)).trans rE
  replace hT := hT.below b (by omega) (by omega)
  replace B0 := B0.trans (b.mono (by omega))
  clear b
  go_wp2_with fail
  clear hv2
  obtain ⟨Q, hQ⟩ : ∃ x, v1.heap.size = x := ⟨_, rfl⟩
  rw [hQ] at rQ ⊢
  (with_reducible refine (HL.out _).mono ?_)
  rintro e v3 ⟨rfl, b⟩
  have zv3 := b.size
  replace rO := (row_below b (by omega)).trans rO
  replace rI := (row_below b (by omega)).trans rI
  replace rN := (row_below b (by omega)).trans rN
  replace rE := (row_below b (by omega)).trans rE
  replace rQ := (row_below b (by omega)).trans rQ
  replace hT := hT.below b (by omega) (by omega)
  replace B0 := B0.trans (b.mono (by omega))
  clear b
  go_wp2_with fail
  (with_reducible refine (HL2.out _ _ _ hT hAM).mono ?_)
  rintro e v4 ⟨rfl, b, hTn⟩
  have zv4 := b.size
  replace rO := (b.row (by omega) (by omega)).trans rO
  replace rI := (b.row (by omega) (by omega)).trans rI
  replace rN := (b.row (by omega) (by omega)).trans rN
  replace rE := (b.row (by omega) (by omega)).trans rE
  replace rQ := (b.row (by omega) (by omega)).trans rQ
  replace B0 := B0.trans ((b.mono (by omega)).below (by omega))
  clear b
  replace hT := hTn
  go_wp2_with fail
  (with_reducible refine (HW.out _ _ _ hT).mono ?_)
  rintro e v5 ⟨rfl, b⟩
  have zv5 := b.size
  replace rO := (row_below b (by omega)).trans rO
  replace rI := (row_below b (by omega)).trans rI
  replace rN := (row_below b (by omega)).trans rN
  replace rE := (row_below b (by omega)).trans rE
  replace rQ := (row_below b (by omega)).trans rQ
  replace hT := hT.below b (by omega) (by omega)
  replace B0 := B0.trans (b.mono (by omega))
  clear b
  obtain ⟨v6, hv6⟩ : ∃ x, v5.alloc (.cells (u8v d1 ++ (u8v s1 ++ [Value.int .i64 t1, Value.string ⟨c1.toArray⟩])).toArray 32) = x := ⟨_, rfl⟩
  have rX : row v6 v5.heap.size = (u8v d1 ++ (u8v s1 ++ [Value.int .i64 t1, Value.string ⟨c1.toArray⟩])).toArray := by rw [← hv6]; exact row_alloc_at _ _ _ rfl
  have zv6 : v6.heap.size = v5.heap.size + 1 := by rw [← hv6]; exact alloc_sizeW _ _
  have b : Below v5.heap.size v5 v6 := by rw [← hv6]; exact Below.alloc (Below.refl _ _) (Nat.le_refl _) _
  replace rO := (row_below b (by omega)).trans rO
  replace rI := (row_below b (by omega)).trans rI
  replace rN := (row_below b (by omega)).trans rN
  replace rE := (row_below b (by omega)).trans rE
  replace rQ := (row_below b (by omega)).trans rQ
  replace hT := hT.below b (by omega) (by omega)
  replace B0 := B0.trans (b.mono (by omega))
  clear b
  go_wp2_with fail
  clear hv6
  go_loopw [21] (fun i wr => ∃ k : Nat, k ≤ n ∧ i = .int .i64 k ∧ row wr (w.heap.size + 1) = (u8v other).toArray ∧ row wr w.heap.size = (u8v me).toArray ∧ row wr Q = (u8v allOnes ++ (u8v other ++ [Value.int .i64 2054, Value.string ⟨bq.toArray⟩])).toArray ∧ HushT wr A M n (tabA v ip.toList me n k) ∧ Below w.heap.size w wr ∧ v6.heap.size ≤ wr.heap.size) (fun i _ => n - (intOf i).toNat)
  case atStart => exact ⟨0, by omega, rfl, rO, rE, rQ, hT, B0, Nat.le_refl _⟩
  case round =>
    clear rO rE rQ hT B0 rI rN
    obtain ⟨k, hk, rfl, rO, rE, rQ, hT, B0, zr⟩ := hrel
    by_cases hkn : k < n
    · have hkI : (k : Int) < (n : Int) := by omega
      have hTr := (row_below (Below.refl _ wr) hT.lt).trans hT.row
      go_wp2_with fail
      (with_reducible refine (HS.out _ _ _ _ hT hkn).mono ?_)
      rintro e v21 ⟨rfl, b⟩
      have zv21 := b.size
      replace rO := (row_below b (by omega)).trans rO
      replace rE := (row_below b (by omega)).trans rE
      replace rQ := (row_below b (by omega)).trans rQ
      replace hT := hT.below b (by omega) (by omega)
      replace B0 := B0.trans (b.mono (by omega))
      clear b
      obtain ⟨v22, hv22⟩ : ∃ x, v21.alloc (.cells (u8v other ++ (u8v me ++ [Value.int .i64 2054, Value.string ⟨br.toArray⟩])).toArray 32) = x := ⟨_, rfl⟩
      have rX : row v22 v21.heap.size = (u8v other ++ (u8v me ++ [Value.int .i64 2054, Value.string ⟨br.toArray⟩])).toArray := by rw [← hv22]; exact row_alloc_at _ _ _ rfl
      have zv22 : v22.heap.size = v21.heap.size + 1 := by rw [← hv22]; exact alloc_sizeW _ _
      have b : Below v21.heap.size v21 v22 := by rw [← hv22]; exact Below.alloc (Below.refl _ _) (Nat.le_refl _) _
      replace rO := (row_below b (by omega)).trans rO
      replace rE := (row_below b (by omega)).trans rE
      replace rQ := (row_below b (by omega)).trans rQ
      replace hT := hT.below b (by omega) (by omega)
      replace B0 := B0.trans (b.mono (by omega))
      clear b
      go_wp2_with fail
      clear hv22
      have HT := Lib.hid (hTick_any _ hT hAM (tabA_dist _ _ _ _ _) (tabA_age _ _ _ _ _ (by omega)))
      rw [tabA_tick _ _ _ _ _ hkn] at HT
      (with_reducible refine (HT.out).mono ?_)
      rintro e v23 ⟨rfl, b, hTn⟩
      have zv23 := b.size
      replace rO := (b.row (by omega) (by omega)).trans rO
      replace rE := (b.row (by omega) (by omega)).trans rE
      replace rQ := (b.row (by omega) (by omega)).trans rQ
      replace B0 := B0.trans ((b.mono (by omega)).below (by omega))
      clear b
      replace hT := hTn
      go_wp2_with fail
      go_roundw
      case rel => exact ⟨k + 1, by omega, rfl, rO, rE, rQ, hTn, B0, by omega⟩
      case measure => simp [intOf]; omega
    · obtain rfl : k = n := by omega
      have hkI : ¬ (k : Int) < (k : Int) := by omega
      go_wp2_with fail
      (with_reducible refine (HZ.out _ _ _ hT).mono ?_)
      rintro e v41 ⟨rfl, b⟩
      have zv41 := b.size
      replace rO := (row_below b (by omega)).trans rO
      replace rE := (row_below b (by omega)).trans rE
      replace rQ := (row_below b (by omega)).trans rQ
      replace hT := hT.below b (by omega) (by omega)
      replace B0 := B0.trans (b.mono (by omega))
      clear b
      go_wp2_with fail
      obtain ⟨v42, hv42⟩ : ∃ x, v41.alloc (.cells (zeros 12 (Value.int .u8 0) ++ [Value.int .i64 0, Value.string ⟨#[]⟩]).toArray 32) = x := ⟨_, rfl⟩
      have rX : row v42 v41.heap.size = (zeros 12 (Value.int .u8 0) ++ [Value.int .i64 0, Value.string ⟨#[]⟩]).toArray := by rw [← hv42]; exact row_alloc_at _ _ _ rfl
      have zv42 : v42.heap.size = v41.heap.size + 1 := by rw [← hv42]; exact alloc_sizeW _ _
      have b : Below v41.heap.size v41 v42 := by rw [← hv42]; exact Below.alloc (Below.refl _ _) (Nat.le_refl _) _
      replace rO := (row_below b (by omega)).trans rO
      replace rE := (row_below b (by omega)).trans rE
      replace rQ := (row_below b (by omega)).trans rQ
      replace hT := hT.below b (by omega) (by omega)
      replace B0 := B0.trans (b.mono (by omega))
      clear b
      rw [hv42]
      clear hv42
      (with_reducible refine (hCount_any _ hT).mono ?_)
      rintro e v43 ⟨rfl, b⟩
      have zv43 := b.size
      replace rO := (row_below b (by omega)).trans rO
      replace rE := (row_below b (by omega)).trans rE
      replace rQ := (row_below b (by omega)).trans rQ
      replace hT := hT.below b (by omega) (by omega)
      replace B0 := B0.trans (b.mono (by omega))
      clear b
      have hc : (tabA v ip.toList me k k).length = 0 := by unfold tabA; rw [if_neg (Nat.lt_irrefl k)]; rfl
      rw [hc]
      go_wp2_with fail
      go_ret
      exact ⟨by simp, B0⟩
theorem hushApart_walk (W : World) (base : Nat) (args : Array Value) (hlen : args.size = Try.f7.params.size) (hval : ∀ (j : Nat) t v, Try.f7.params[j]? = some t → args[j]? = some v → Value.okWide Try.prog W .any base t v) :
    Calls Try.prog 7 args W fun e W' => e = .returned (.bool true) ∧ Below W.heap.size W W' := by
  obtain ⟨l⟩ := args
  match l, hlen with
  | [v0, v1, v2, v3, v4, v5, v6], _ =>
  obtain ⟨mac, rfl⟩ := open_mac (hval 0 30 v0 rfl rfl)
  obtain ⟨other, rfl⟩ := open_mac (hval 1 30 v1 rfl rfl)
  obtain ⟨ip, rfl⟩ := open_four (hval 2 46 v2 rfl rfl)
  obtain ⟨mine, rfl⟩ := open_four (hval 3 46 v3 rfl rfl)
  obtain ⟨v, rfl, _⟩ := open_intW Try.underlying3 (hval 4 3 v4 rfl rfl)
  obtain ⟨v', rfl, _⟩ := open_intW Try.underlying3 (hval 5 3 v5 rfl rfl)
  obtain ⟨tm, rfl, htm⟩ := open_u8W Try.underlying5 (hval 6 5 v6 rfl rfl)
  exact hushApart_any mac other ip mine v v' tm htm W
end Go.Proofs.Ytckckabedgpbiaa
