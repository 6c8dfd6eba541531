/- Contracts of package poly: Clamp, Sum. -/
import Derived.Test.YtakkicppgkmokaaGreatJ22
import Derived.Test.YtakkicppgkmokaaGreatPolRJ
set_option linter.unusedSimpArgs false
set_option linter.unusedVariables false
namespace Go.Proofs.YtakkicppgkmokaaGreat
open Go.RowKit
def pclF (i : Nat) (l : List UInt8) : List UInt8 := if i % 4 = 3 then l.set i (l.getD i 0 &&& 15) else if i % 4 = 0 ∧ 0 < i then l.set i (l.getD i 0 &&& 252) else l
def pclL (l : List UInt8) : List UInt8 := upTo pclF 16 l
theorem pclF_length (i : Nat) (l : List UInt8) : (pclF i l).length = l.length := by unfold pclF; split; simp; split <;> simp
theorem pclL_length (l : List UInt8) : (pclL l).length = l.length := upTo_len8 pclF_length 16 l
theorem getD_elem8 (l : List UInt8) (i : Nat) (h : i < l.length) : l.getD i 0 = l[i] := by simp [List.getD_eq_getElem?_getD, h]
set_option maxRecDepth 20000 in
set_option maxHeartbeats 1000000 in
theorem pclamp_any (k : List UInt8) (w : World) (hk : k.length = 32) :
  Calls Tryz.prog 136 #[.agg (u8s k).toArray] w fun e w' => e = .returned (.agg (u8s (pclL k)).toArray) ∧ Below w.heap.size w w' := by
 go_enter Tryz.func136, Tryz.ntmps136
 go_wp2_with fail
 go_loopw [4] (fun i wr => ∃ (m : Nat) (L : List UInt8), m ≤ 16 ∧ i = .int .i64 m ∧ upTo pclF m k = L ∧ row wr w.heap.size = (u8s L).toArray ∧ row wr (w.heap.size + 1) = (zeros 32 (Value.int .u8 0)).toArray ∧ w.heap.size + 1 < wr.heap.size ∧ Below w.heap.size w wr) (fun i _ => 16 - (intOf i).toNat)
 case atStart => exact ⟨0, k, by omega, rfl, rfl, by simp [go_sem], by simp [go_sem], by simp, (by (repeat (first | exact Below.refl _ _ | refine Below.al ?_ _ | refine Below.drew ?_ | refine Below.sr ?_ _ | refine Below.sc ?_ _)))⟩
 case round =>
  obtain ⟨m, L, hm, rfl, hL, rV, rR, hz, hbel⟩ := hrel
  have hLl : L.length = 32 := by rw [← hL, upTo_len8 pclF_length, hk]
  have HL := Lib.hid hL
  clear hL
  by_cases hlt : m < 16
  ·
   have g1 : (m : Int) < 16 := by omega
   have km : m < L.length := by omega
   have km2 : m < 32 := by omega
   have km3 : (m : Int) < 32 := by omega
   obtain ⟨r, hr⟩ : ∃ r, m % 4 = r := ⟨_, rfl⟩
   have er : (m : Int) % 4 = (r : Int) := by omega
   have HR := Lib.hid hr
   clear hr
   by_cases h3 : r = 3
   ·
    have e3 : ((r : Int) == 3) = true := by simp [h3]
    have e0 : ((r : Int) == 0) = false := by simp [h3]
    obtain ⟨v, hv⟩ : ∃ v, L[m] &&& 15 = v := ⟨_, rfl⟩
    have hand : bits .and .u8 (L[m].toNat : Int) 15 = (v.toNat : Int) := by rw [← hv]; exact and_u8 L[m] 15
    have hset := u8s_setB L m v
    have hF : pclF m L = L.set m v := by rw [pclF, HR.out, if_pos h3, getD_elem8 _ _ km, hv]
    have HF := Lib.hid hF
    clear hF hv h3
    go_wp2_with fail
    go_roundw
    case rel =>
     refine ⟨m + 1, _, by omega, rfl, rfl, ?_, by (try show row (World.setRow _ _ _) _ = _); rw [row_setRow_other _ _ _ (by omega)]; exact rR, by simp; omega, Below.setRow hbel (by omega) _⟩
     rw [upTo, HL.out, HF.out]
     exact row_setRow_same (by rw [rV]; simp; omega) (by rw [rV]; simp)
    case measure => simp [intOf]; omega
   ·
    have e3 : ((r : Int) == 3) = false := by simp; omega
    by_cases h0 : r = 0 ∧ 0 < m
    ·
     have e0 : ((r : Int) == 0) = true := by simp [h0.1]
     have g2 : (0 : Int) < (m : Int) := by omega
     obtain ⟨v, hv⟩ : ∃ v, L[m] &&& 252 = v := ⟨_, rfl⟩
     have hand : bits .and .u8 (L[m].toNat : Int) 252 = (v.toNat : Int) := by rw [← hv]; exact and_u8 L[m] 252
     have hset := u8s_setB L m v
     have hF : pclF m L = L.set m v := by rw [pclF, HR.out, if_neg h3, if_pos h0, getD_elem8 _ _ km, hv]
     have HF := Lib.hid hF
     clear hF hv h3 h0
     go_wp2_with fail
     go_roundw
     case rel =>
      refine ⟨m + 1, _, by omega, rfl, rfl, ?_, by (try show row (World.setRow _ _ _) _ = _); rw [row_setRow_other _ _ _ (by omega)]; exact rR, by simp; omega, Below.setRow hbel (by omega) _⟩
      rw [upTo, HL.out, HF.out]
      exact row_setRow_same (by rw [rV]; simp; omega) (by rw [rV]; simp)
     case measure => simp [intOf]; omega
    ·
     have hF : pclF m L = L := by rw [pclF, HR.out, if_neg h3, if_neg h0]
     have HF := Lib.hid hF
     clear hF
     by_cases hr0 : r = 0
     ·
      have e0 : ((r : Int) == 0) = true := by simp [hr0]
      have g2 : ¬ (0 : Int) < (m : Int) := by omega
      clear h3 h0 hr0
      go_wp2_with fail
      go_roundw
      case rel => exact ⟨m + 1, _, by omega, rfl, rfl, by rw [upTo, HL.out, HF.out]; exact rV, rR, hz, hbel⟩
      case measure => simp [intOf]; omega
     ·
      have e0 : ((r : Int) == 0) = false := by simp; omega
      clear h3 h0 hr0
      go_wp2_with fail
      go_roundw
      case rel => exact ⟨m + 1, _, by omega, rfl, rfl, by rw [upTo, HL.out, HF.out]; exact rV, rR, hz, hbel⟩
      case measure => simp [intOf]; omega
  ·
   obtain rfl : m = 16 := by omega
   rw [show ((16 : Nat) : Int) = 16 from rfl]
   go_wp2_with fail
   have e : L = pclL k := HL.out.symm
   rw [e] at rV hLl ⊢
   have hfin := row_setRow_same (w := wr) (g := w.heap.size + 1) (c := (u8s (pclL k)).toArray) (by rw [rR]; simp) (by rw [rR]; simp [hLl])
   (try simp only [Exit.inBlock, Exit.then])
   refine bodyPost_ret (results_1 rfl (resOk_row rfl ?_)) rfl ?_
   ·
    rw [hfin]
    simp [hLl]
   refine ⟨by rw [hfin], ?_⟩
   exact Below.setRow hbel (by omega) _
def pr0 (k : List UInt8) : Nat := leN ((pclL k).take 8)
def pr1 (k : List UInt8) : Nat := leN (((pclL k).drop 8).take 8)
def pblk (s : List UInt8) (j : Nat) : List UInt8 := (s.drop (16 * j)).take 16
def psF (k s : List UInt8) (j : Nat) (a : Num) : Num := ((a.plus (ofN (pblk s j))).times (pr0 k) (pr1 k)).rest
def pend (k : List UInt8) : Num := ⟨leN ((k.drop 16).take 8), leN (k.drop 24), 0⟩
def polyN (k s : List UInt8) : Num := (upTo (psF k s) ((s.length + 15) / 16) ⟨0, 0, 0⟩).plus (pend k)
def poutF (x : List Nat) (i : Nat) (b : List UInt8) : List UInt8 := b.set i (byteI ((x.getD (i / 8) 0 : Nat) / 2 ^ (8 * (i % 8))))
def polyL (k s : List UInt8) : List UInt8 := upTo (poutF (polyN k s).list) 16 (List.replicate 16 0)
theorem poutF_length (x : List Nat) (i : Nat) (b : List UInt8) : (poutF x i b).length = b.length := by simp [poutF]
theorem polyL_length (k s : List UInt8) : (polyL k s).length = 16 := by rw [polyL, upTo_len8 (poutF_length _)]; simp
theorem zero_lt : (Num.mk 0 0 0).lt := ⟨by show (0 : Nat) < 18446744073709551616; decide, by show (0 : Nat) < 18446744073709551616; decide, by show (0 : Nat) < 18446744073709551616; decide⟩
theorem psUp_lt (k s : List UInt8) (m : Nat) : (upTo (psF k s) m ⟨0, 0, 0⟩).lt := by
 cases m with
 | zero => exact zero_lt
 | succ m =>
  rw [upTo, psF]
  exact Num.rest_lt _
theorem u8s_zeros' (n : Nat) : u8s (List.replicate n 0) = zeros n (.int .u8 0) := by simp [u8s, zeros]
attribute [local irreducible] upTo pclL
set_option maxRecDepth 20000 in
set_option maxHeartbeats 2000000 in
theorem psum_any (k s : List UInt8) (w : World) (hk : k.length = 32) (hs : s.length ≤ 100000) :
  Calls Tryz.prog 108 #[.agg (u8s k).toArray, .string ⟨s.toArray⟩] w fun e w' => e = .returned (.agg (u8s (polyL k s)).toArray) ∧ Below w.heap.size w w' := by
 have hs2 : (s.length : Int) ≤ 100000 := by omega
 have hcl := pclL_length k
 have KC := Lib.hid (fun w => pclamp_any k w hk)
 have h0 : lt64 (pr0 k) := leN_lt64 _ (by simp; omega)
 have h1 : lt64 (pr1 k) := leN_lt64 _ (by simp; omega)
 have hW0 := fun w => pword_any ((pclL k).take 8) w (by simp; omega)
 have hW1 := fun w => pword_any (((pclL k).drop 8).take 8) w (by simp; omega)
 have hpsF : ∀ j a, psF k s j a = ((a.plus (ofN (pblk s j))).times (pr0 k) (pr1 k)).rest := fun _ _ => rfl
 have hpol : polyN k s = (upTo (psF k s) ((s.length + 15) / 16) ⟨0, 0, 0⟩).plus (pend k) := rfl
 obtain ⟨c, hc⟩ : ∃ c, pclL k = c := ⟨_, rfl⟩
 rw [show leN ((pclL k).take 8) = pr0 k from rfl] at hW0
 rw [show leN (((pclL k).drop 8).take 8) = pr1 k from rfl] at hW1
 obtain ⟨r0, hr0⟩ : ∃ r, pr0 k = r := ⟨_, rfl⟩
 obtain ⟨r1, hr1⟩ : ∃ r, pr1 k = r := ⟨_, rfl⟩
 simp only [hr0, hr1, hc] at KC h0 h1 hW0 hW1 hpsF hcl
 have K0 := Lib.hid hW0
 have K1 := Lib.hid hW1
 have KF := Lib.hid hpsF
 have KP := Lib.hid hpol
 clear hr0 hr1 hc hW0 hW1 hpsF hpol
 rw [hk] at hcl
 go_enter Tryz.func108, Tryz.ntmps108
 go_wp2_with fail
 (with_reducible refine (KC.out _).mono ?_)
 rintro e w1 ⟨rfl, b1⟩
 have rK : row w1 w.heap.size = (u8s k).toArray := by rw [row_below b1 (by simp; omega)]; simp [go_sem]
 have rR : row w1 (w.heap.size + 1) = (zeros 16 (Value.int .u8 0)).toArray := by rw [row_below b1 (by simp)]; simp [go_sem]
 have z1 := (b1).size
 try simp at z1
 replace b1 := below_of b1 (show Below (w).heap.size w _ from by (repeat (first | exact Below.refl _ _ | refine Below.al ?_ _ | refine Below.drew ?_ | refine Below.sr ?_ _ | refine Below.sc ?_ _))) (by first | (simp; done) | (simp; omega) | omega)
 clear KC
 go_wp2_with fail
 obtain ⟨w2, hw2⟩ : ∃ W, w1.alloc (.cells (u8s c).toArray 23) = W := ⟨_, rfl⟩
 obtain ⟨C, hC⟩ : ∃ n, w1.heap.size = n := ⟨_, rfl⟩
 have rC : row w2 C = (u8s c).toArray := by rw [← hw2, ← hC]; exact row_alloc_at _ _ _ rfl
 have z2 : w2.heap.size = C + 1 := by rw [← hw2, ← hC]; simp
 have b2 : Below w1.heap.size w1 w2 := by rw [← hw2]; exact Below.alloc (Below.refl _ _) (Nat.le_refl _) _
 rw [hw2, hC]
 clear hw2
 replace rK := (row_below b2 (by omega)).trans rK
 replace rR := (row_below b2 (by omega)).trans rR
 replace b1 := Below.trans b1 (b2.mono (by omega))
 clear b2
 refine wp_region_beginR [(C, (u8s c).toArray)] rfl (by simp only [Rws]; (repeat (first | exact trivial | refine ⟨(by first | assumption | (simp [go_sem, *]; done)), (by first | omega | (simp; done) | (simp; omega)), ?_⟩))) (fun hS => ?_)
 refine qp 0 hS ?_
 refine qp 1 hS ?_
 refine qp 3 hS ?_
 refine qp 4 hS ?_
 refine qc 2 (v := ?_) hS ?_ ?_
 rotate_left
 ·
  intro w' hS'
  simp only [Rws] at hS'
  go_simp
  with_reducible refine (K0.out _).mono ?_
  rintro e w'' ⟨rfl, hb⟩
  exact ⟨_, rfl, by rfl, hb⟩
 refine qc 5 (v := ?_) hS ?_ ?_
 rotate_left
 ·
  intro w' hS'
  simp only [Rws] at hS'
  go_simp
  with_reducible refine (K1.out _).mono ?_
  rintro e w'' ⟨rfl, hb⟩
  exact ⟨_, rfl, by rfl, hb⟩
 refine qp 6 hS ?_
 refine wpAnyR_single (i := 7) (k := 8) (zi := (zeros 2 (Value.int .u64 0)).toArray) (cA := (u64s [r0, r1]).toArray) (by simp only [List.getElem?_toArray, List.getElem?_cons_succ, List.getElem?_cons_zero]; rfl) (by simp only [List.getElem?_toArray, List.getElem?_cons_succ, List.getElem?_cons_zero]; rfl) ⟨rfl, rfl, fun a w => by go_simp; (refine ⟨?_, ?_⟩ <;> rfl)⟩ (by kernel_rfl) (by kernel_rfl) (by kernel_rfl) rfl rfl (by simp [*]) (by simp) (by simp; (try omega)) (fun A w1 hr => by
  simp only [Act.put, List.setIfInBounds_toArray, List.set_cons_zero, List.set_cons_succ, ptr]
  go_simp
  try rfl) hS (fun D w3 gD zD b3 rD => ?_)
 (try simp only [Act.put, List.setIfInBounds_toArray, List.set_cons_zero, List.set_cons_succ])
 replace gD : (w2).heap.size ≤ D := gD
 replace b3 : Below (w2).heap.size w2 w3 := Below.trans (Below.drew (Below.refl _ _)) b3
 have zw3 := (b3).size
 simp only [ptr]
 clear hS
 replace rK := (row_below b3 (by omega)).trans rK
 replace rR := (row_below b3 (by omega)).trans rR
 replace b1 := Below.trans b1 (b3.mono (by omega))
 clear rC b3
 go_wp2_with fail
 have zC : C < w3.heap.size := by omega
 go_loopw [8] (fun i wr => ∃ (m : Nat) (a : Num), i = .int .i64 (16 * (m : Int)) ∧ 16 * m ≤ s.length + 15 ∧ upTo (psF k s) m ⟨0, 0, 0⟩ = a ∧ row wr w3.heap.size = #[.int .u64 a.a, .int .u64 a.b, .int .u64 a.c] ∧ row wr D = (u64s [r0, r1]).toArray ∧ row wr w.heap.size = (u8s k).toArray ∧ row wr (w.heap.size + 1) = (zeros 16 (Value.int .u8 0)).toArray ∧ w3.heap.size < wr.heap.size ∧ Below w.heap.size w wr) (fun i _ => s.length + 16 - (intOf i).toNat)
 case atStart =>
  refine ⟨0, _, by simp, by omega, rfl, ?_, ?_, ?_, ?_, by simp, Below.alloc b1 (by omega) _⟩
  ·
   rw [upTo, row_alloc_at _ _ _ rfl]
   rfl
  ·
   rw [row_alloc_past _ _ zD]
   exact rD
  ·
   rw [row_alloc_past _ _ (by omega)]
   exact rK
  ·
   rw [row_alloc_past _ _ (by omega)]
   exact rR
 case round =>
  clear rD rK rR b1
  obtain ⟨m, a, rfl, hm, ha, rN, rD, rK, rR, hz, hbel⟩ := hrel
  have hal : a.lt := by rw [← ha]; exact psUp_lt k s m
  have HA := Lib.hid ha
  clear ha
  by_cases hlt : 16 * m < s.length
  ·
   have g1 : (16 : Int) * (m : Int) < s.length := by omega
   obtain ⟨p, hp⟩ : ∃ p, 16 * m = p := ⟨_, rfl⟩
   have ep : (16 : Int) * (m : Int) = (p : Int) := by omega
   have g2 : (p : Int) < s.length := by omega
   have hw1 : IntKind.i64.wrap ((p : Int) + 16) = (p : Int) + 16 := wraps_i64 _ (by omega) (by omega)
   have hof := fun w => pof_any (pblk s m) w (by simp [pblk]; omega)
   have hplus := fun w => nplus_any a (ofN (pblk s m)) w hal (ofN_lt _)
   have htimes := fun w => ptimes_any (a.plus (ofN (pblk s m))) r0 r1 w (Num.plus_lt _ _) h0 h1
   have hrest := fun w => rest_any ((a.plus (ofN (pblk s m))).times r0 r1) w (Num.times_lt _ _ _ (Num.plus_lt _ _) h0 h1)
   rw [← KF.out m a] at hrest
   obtain ⟨n1, hn1⟩ : ∃ n, ofN (pblk s m) = n := ⟨_, rfl⟩
   rw [hn1] at hof hplus htimes hrest
   obtain ⟨n2, hn2⟩ : ∃ n, a.plus n1 = n := ⟨_, rfl⟩
   rw [hn2] at hplus htimes hrest
   obtain ⟨n3, hn3⟩ : ∃ n, n2.times r0 r1 = n := ⟨_, rfl⟩
   rw [hn3] at htimes hrest
   obtain ⟨n4, hn4⟩ : ∃ n, psF k s m a = n := ⟨_, rfl⟩
   rw [hn4] at hrest
   obtain ⟨q, hq⟩ : ∃ q, min (p + 16) s.length = q := ⟨_, rfl⟩
   have hmin : min ((p : Int) + 16) (s.length : Int) = (q : Int) := by omega
   have q1 : q ≤ s.length := by omega
   have q2 : p ≤ q := by omega
   have q3 : (q : Int) ≤ s.length := by omega
   have q4 : (p : Int) ≤ q := by omega
   have hblk : pblk s m = (s.drop p).take (q - p) := by rw [pblk, hp, List.take_eq_take_iff]; simp; omega
   rw [hblk] at hof
   have H1 := Lib.hid hof
   have H2 := Lib.hid hplus
   have H3 := Lib.hid htimes
   have H4 := Lib.hid hrest
   have H5 := Lib.hid hn4
   clear hof hplus htimes hrest hn1 hn2 hn3 hn4
   unfold Num.cells at H1 H2 H3 H4
   have HP := Lib.hid hp
   clear hp hq hblk
   go_wp2_with fail
   refine wp_region_beginK 14 [(w3.heap.size, #[.int .u64 a.a, .int .u64 a.b, .int .u64 a.c]), (D, (u64s [r0, r1]).toArray)] [] rfl (by simp only [Rws]; (repeat (first | exact trivial | refine ⟨(by first | assumption | (simp [go_sem, *]; done)), (by first | omega | (simp; done) | (simp; omega)), ?_⟩))) (fun hS => ?_)
   refine kp 0 hS ?_
   refine kp 1 hS ?_
   refine kp 2 hS ?_
   refine kp 3 hS ?_
   refine kp 4 hS ?_
   refine kp 5 hS ?_
   refine kp 6 hS ?_
   refine kp 11 hS ?_
   refine kp 7 hS ?_
   refine kp 8 hS ?_
   refine wpAnyK_take (i := 9) (v := ?_) (by simp only [List.getElem?_toArray, List.getElem?_cons_succ, List.getElem?_cons_zero]; rfl) (by kernel_rfl) (by kernel_rfl) (by kernel_rfl) (by kernel_rfl) (by first | exact fun _ _ _ h => h | exact fun _ _ _ h => by cases h.1) (Rws.grow _) (Or.inl ⟨by rfl, ?_⟩) hS ?_
   rotate_left
   ·
    intro w' hS'
    simp only [Rws] at hS'
    go_simp
    with_reducible refine (H1.out _).mono ?_
    rintro e w'' ⟨rfl, hb⟩
    refine ⟨_, rfl, ?_, hb⟩
    rfl
   (try simp only [Act.put, List.setIfInBounds_toArray, List.set_cons_zero, List.set_cons_succ])
   refine wpAnyK_take (i := 10) (v := ?_) (by simp only [List.getElem?_toArray, List.getElem?_cons_succ, List.getElem?_cons_zero]; rfl) (by kernel_rfl) (by kernel_rfl) (by kernel_rfl) (by kernel_rfl) (by first | exact fun _ _ _ h => h | exact fun _ _ _ h => by cases h.1) (Rws.grow _) (Or.inl ⟨by rfl, ?_⟩) hS ?_
   rotate_left
   ·
    intro w' hS'
    simp only [Rws] at hS'
    go_simp
    with_reducible refine (H2.out _).mono ?_
    rintro e w'' ⟨rfl, hb⟩
    refine ⟨_, rfl, ?_, hb⟩
    rfl
   (try simp only [Act.put, List.setIfInBounds_toArray, List.set_cons_zero, List.set_cons_succ])
   refine wpAnyK_take (i := 12) (v := ?_) (by simp only [List.getElem?_toArray, List.getElem?_cons_succ, List.getElem?_cons_zero]; rfl) (by kernel_rfl) (by kernel_rfl) (by kernel_rfl) (by kernel_rfl) (by first | exact fun _ _ _ h => h | exact fun _ _ _ h => by cases h.1) (Rws.grow _) (Or.inl ⟨by rfl, ?_⟩) hS ?_
   rotate_left
   ·
    intro w' hS'
    simp only [Rws] at hS'
    go_simp
    with_reducible refine (H3.out _).mono ?_
    rintro e w'' ⟨rfl, hb⟩
    refine ⟨_, rfl, ?_, hb⟩
    rfl
   (try simp only [Act.put, List.setIfInBounds_toArray, List.set_cons_zero, List.set_cons_succ])
   refine wpAnyK_take (i := 13) (v := ?_) (by simp only [List.getElem?_toArray, List.getElem?_cons_succ, List.getElem?_cons_zero]; rfl) (by kernel_rfl) (by kernel_rfl) (by kernel_rfl) (by kernel_rfl) (by first | exact fun _ _ _ h => h | exact fun _ _ _ h => by cases h.1) (Rws.grow _) (Or.inl ⟨by rfl, ?_⟩) hS ?_
   rotate_left
   ·
    intro w' hS'
    simp only [Rws] at hS'
    go_simp
    with_reducible refine (H4.out _).mono ?_
    rintro e w'' ⟨rfl, hb⟩
    refine ⟨_, rfl, ?_, hb⟩
    rfl
   (try simp only [Act.put, List.setIfInBounds_toArray, List.set_cons_zero, List.set_cons_succ])
   refine wpAnyK_store (k := 14) (by simp only [List.getElem?_toArray, List.getElem?_cons_succ, List.getElem?_cons_zero]; rfl) rfl rfl (by kernel_rfl) (fun u1 hu1 => ?_)
   have zu : wr.heap.size ≤ u1.heap.size := hu1.size
   have rN1 := (row_below hu1 (show _ < wr.heap.size from hz)).trans rN
   have rD1 := (row_below hu1 (show D < wr.heap.size by omega)).trans rD
   have rK1 := (row_below hu1 (show w.heap.size < wr.heap.size by omega)).trans rK
   have rR1 := (row_below hu1 (show w.heap.size + 1 < wr.heap.size by omega)).trans rR
   have hb1 : Below w.heap.size w u1 := Below.trans hbel (Below.trans (Below.drew (Below.refl _ _)) (hu1.mono (by simp; omega)))
   clear hS hu1 H1 H2 H3 H4
   refine ⟨u1.setRow w3.heap.size #[.int .u64 n4.a, .int .u64 n4.b, .int .u64 n4.c], by go_simp, trivial, fun hS => ?_⟩
   refine wpAnyR_done (by kernel_rfl) (fun w4 h4 => ?_) _
   have zb4 := h4.size
   rw [setRow_size] at zb4
   go_wp2_with fail
   go_roundw
   case rel =>
    refine ⟨m + 1, n4, ?_, by omega, ?_, ?_, ?_, ?_, ?_, by omega, Below.trans (Below.setRow hb1 (by omega) _) (h4.mono (by simp; omega))⟩
    ·
     congr 1
     omega
    ·
     rw [upTo, HA.out, H5.out]
    ·
     rw [row_below h4 (by simp; omega)]
     exact row_setRow_same (by rw [rN1]; simp) (by rw [rN1]; simp)
    ·
     rw [row_below h4 (by simp; omega), row_setRow_other _ _ _ (by omega)]
     exact rD1
    ·
     rw [row_below h4 (by simp; omega), row_setRow_other _ _ _ (by omega)]
     exact rK1
    ·
     rw [row_below h4 (by simp; omega), row_setRow_other _ _ _ (by omega)]
     exact rR1
   case measure => have := HP.out; simp [intOf]; omega
  ·
   have g1 : ¬ (16 : Int) * (m : Int) < s.length := by omega
   have hmd : m = (s.length + 15) / 16 := by omega
   have hpe := fun w => nplus_any a (pend k) w hal ⟨leN_lt64 _ (by simp; omega), leN_lt64 _ (by simp; omega), by show (0 : Nat) < 18446744073709551616; decide⟩
   have hpol : polyN k s = a.plus (pend k) := by rw [KP.out, ← hmd, HA.out]
   obtain ⟨n1, hn1⟩ : ∃ n, a.plus (pend k) = n := ⟨_, rfl⟩
   rw [hn1] at hpe hpol
   have H1 := fun w => pword_any ((k.drop 16).take 8) w (by simp; omega)
   have H2 := fun w => pword_any (k.drop 24) w (by simp; omega)
   unfold pend Num.cells at hpe
   simp only at hpe
   obtain ⟨e0, he0⟩ : ∃ n, leN ((k.drop 16).take 8) = n := ⟨_, rfl⟩
   obtain ⟨e1, he1⟩ : ∃ n, leN (k.drop 24) = n := ⟨_, rfl⟩
   rw [he0, he1] at hpe
   rw [he0] at H1
   rw [he1] at H2
   have hpe' : ∀ w, Calls Tryz.prog 139 #[.agg #[.int .u64 a.a, .int .u64 a.b, .int .u64 a.c], .agg #[.int .u64 e0, .int .u64 e1, .int .u64 0]] w fun e w' => e = .returned (.agg #[.int .u64 n1.a, .int .u64 n1.b, .int .u64 n1.c]) ∧ Below w.heap.size w w' := hpe
   have G1 := Lib.hid H1
   have G2 := Lib.hid H2
   have G3 := Lib.hid hpe'
   have G4 := Lib.hid hpol
   clear H1 H2 hpe hpe' he0 he1 hn1 hpol hmd
   go_wp2_with fail
   refine wp_region_beginK 9 [(w3.heap.size, #[.int .u64 a.a, .int .u64 a.b, .int .u64 a.c]), (w.heap.size, (u8s k).toArray)] [] rfl (by simp only [Rws]; (repeat (first | exact trivial | refine ⟨(by first | assumption | (simp [go_sem, *]; done)), (by first | omega | (simp; done) | (simp; omega)), ?_⟩))) (fun hS => ?_)
   refine kp 0 hS ?_
   refine kp 1 hS ?_
   refine kp 2 hS ?_
   refine kp 4 hS ?_
   refine kp 5 hS ?_
   refine wpAnyK_take (i := 3) (v := ?_) (by simp only [List.getElem?_toArray, List.getElem?_cons_succ, List.getElem?_cons_zero]; rfl) (by kernel_rfl) (by kernel_rfl) (by kernel_rfl) (by kernel_rfl) (by first | exact fun _ _ _ h => h | exact fun _ _ _ h => by cases h.1) (Rws.grow _) (Or.inl ⟨by rfl, ?_⟩) hS ?_
   rotate_left
   ·
    intro w' hS'
    simp only [Rws] at hS'
    go_simp
    with_reducible refine (G1.out _).mono ?_
    rintro e w'' ⟨rfl, hb⟩
    refine ⟨_, rfl, ?_, hb⟩
    rfl
   (try simp only [Act.put, List.setIfInBounds_toArray, List.set_cons_zero, List.set_cons_succ])
   refine wpAnyK_take (i := 6) (v := ?_) (by simp only [List.getElem?_toArray, List.getElem?_cons_succ, List.getElem?_cons_zero]; rfl) (by kernel_rfl) (by kernel_rfl) (by kernel_rfl) (by kernel_rfl) (by first | exact fun _ _ _ h => h | exact fun _ _ _ h => by cases h.1) (Rws.grow _) (Or.inl ⟨by rfl, ?_⟩) hS ?_
   rotate_left
   ·
    intro w' hS'
    simp only [Rws] at hS'
    go_simp
    with_reducible refine (G2.out _).mono ?_
    rintro e w'' ⟨rfl, hb⟩
    refine ⟨_, rfl, ?_, hb⟩
    rfl
   (try simp only [Act.put, List.setIfInBounds_toArray, List.set_cons_zero, List.set_cons_succ])
   refine kp 7 hS ?_
   refine wpAnyK_take (i := 8) (v := ?_) (by simp only [List.getElem?_toArray, List.getElem?_cons_succ, List.getElem?_cons_zero]; rfl) (by kernel_rfl) (by kernel_rfl) (by kernel_rfl) (by kernel_rfl) (by first | exact fun _ _ _ h => h | exact fun _ _ _ h => by cases h.1) (Rws.grow _) (Or.inl ⟨by rfl, ?_⟩) hS ?_
   rotate_left
   ·
    intro w' hS'
    simp only [Rws] at hS'
    go_simp
    with_reducible refine (G3.out _).mono ?_
    rintro e w'' ⟨rfl, hb⟩
    refine ⟨_, rfl, ?_, hb⟩
    rfl
   (try simp only [Act.put, List.setIfInBounds_toArray, List.set_cons_zero, List.set_cons_succ])
   refine wpAnyK_store (k := 9) (by simp only [List.getElem?_toArray, List.getElem?_cons_succ, List.getElem?_cons_zero]; rfl) rfl rfl (by kernel_rfl) (fun u1 hu1 => ?_)
   have zu : wr.heap.size ≤ u1.heap.size := hu1.size
   have rN1 := (row_below hu1 (show _ < wr.heap.size from hz)).trans rN
   have rR1 := (row_below hu1 (show w.heap.size + 1 < wr.heap.size by omega)).trans rR
   have hb1 : Below w.heap.size w u1 := Below.trans hbel (Below.trans (Below.drew (Below.refl _ _)) (hu1.mono (by simp; omega)))
   clear hS hu1 G1 G2 G3
   refine ⟨u1.setRow w3.heap.size #[.int .u64 n1.a, .int .u64 n1.b, .int .u64 n1.c], by go_simp, trivial, fun hS => ?_⟩
   refine wpAnyR_done (by kernel_rfl) (fun w4 h4 => ?_) _
   have zb4 := h4.size
   rw [setRow_size] at zb4
   have rN4 : row w4 w3.heap.size = (u64s n1.list).toArray := by
    rw [row_below h4 (by simp; omega)]
    exact row_setRow_same (by rw [rN1]; simp) (by rw [rN1]; simp)
   have rR4 : row w4 (w.heap.size + 1) = (zeros 16 (Value.int .u8 0)).toArray := by
    rw [row_below h4 (by simp; omega), row_setRow_other _ _ _ (by omega)]
    exact rR1
   have hb4 : Below w.heap.size w w4 := Below.trans (Below.setRow hb1 (by omega) _) (h4.mono (by simp; omega))
   clear hS h4 hb1 rN1 rR1 rN rD rK rR hbel
   have hn1l : n1.list.length = 3 := rfl
   obtain ⟨X, hX⟩ : ∃ X, n1.list = X := ⟨_, rfl⟩
   rw [hX] at rN4 hn1l
   have HX := Lib.hid hX
   clear hX
   have zN4 : w3.heap.size < w4.heap.size := by omega
   clear zb4 zu
   go_wp2_with fail
   go_loopw [49] (fun i wq => ∃ (m : Nat) (B : List UInt8), m ≤ 16 ∧ i = .int .i64 m ∧ upTo (poutF X) m (List.replicate 16 0) = B ∧ row wq w4.heap.size = (u8s B).toArray ∧ row wq w3.heap.size = (u64s X).toArray ∧ row wq (w.heap.size + 1) = (zeros 16 (Value.int .u8 0)).toArray ∧ w4.heap.size < wq.heap.size ∧ Below w.heap.size w wq) (fun i _ => 16 - (intOf i).toNat)
   case atStart =>
    refine ⟨0, _, by omega, rfl, rfl, ?_, ?_, ?_, by simp, Below.alloc hb4 (by omega) _⟩
    ·
     rw [upTo, row_alloc_at _ _ _ rfl, u8s_zeros']
    ·
     rw [row_alloc_past _ _ (by omega)]
     exact rN4
    ·
     rw [row_alloc_past _ _ (by omega)]
     exact rR4
   case round =>
    clear rN4 rR4 hb4
    obtain ⟨m, B, hm, rfl, hB, rB, rN, rR, hz2, hbel⟩ := hrel
    have hBl : B.length = 16 := by rw [← hB, upTo_len8 (poutF_length X)]; simp
    have HB := Lib.hid hB
    clear hB
    by_cases hlt : m < 16
    ·
     have f1 : (m : Int) < 16 := by omega
     have f2 : m < B.length := by omega
     obtain ⟨q, hq⟩ : ∃ q, m / 8 = q := ⟨_, rfl⟩
     obtain ⟨r, hr⟩ : ∃ r, m % 8 = r := ⟨_, rfl⟩
     have e1' : (m : Int) / 8 = (q : Int) := by omega
     have e2' : (m : Int) % 8 = (r : Int) := by omega
     obtain ⟨p, hp⟩ : ∃ p, 8 * r = p := ⟨_, rfl⟩
     have e3' : (8 : Int) * (r : Int) = (p : Int) := by omega
     have f3 : q < X.length := by omega
     have f4 : (q : Int) < 3 := by omega
     have f5 : q < 3 := by omega
     have f6 : p < 64 := by omega
     have HQ := Lib.hid hq
     have HR := Lib.hid hr
     have HPP := Lib.hid hp
     clear hq hr hp
     go_wp2_with fail
     go_roundw
     case rel =>
      have e : u8s (poutF X m B) = (u8s B).set m (.int .u8 ((X[q] : Int) / 2 ^ p % 256)) := by
       rw [u8s_set]
       unfold poutF
       rw [HQ.out, HR.out, HPP.out, getD_elemN _ _ f3]
      refine ⟨m + 1, _, by omega, rfl, rfl, ?_, by (try show row (World.setRow _ _ _) _ = _); rw [row_setRow_other _ _ _ (by omega)]; exact rN, by (try show row (World.setRow _ _ _) _ = _); rw [row_setRow_other _ _ _ (by omega)]; exact rR, by simp; omega, Below.setRow hbel (by omega) _⟩
      rw [upTo, HB.out, e]
      exact row_setRow_same (by rw [rB]; simp; omega) (by rw [rB]; simp)
     case measure => simp [intOf]; omega
    ·
     obtain rfl : m = 16 := by omega
     rw [show ((16 : Nat) : Int) = 16 from rfl]
     go_wp2_with fail
     have hfin := row_setRow_same (w := wr) (g := w.heap.size + 1) (c := (u8s B).toArray) (by rw [rR]; simp) (by rw [rR]; simp [hBl])
     (try simp only [Exit.inBlock, Exit.then])
     refine bodyPost_ret (results_1 rfl (resOk_row rfl ?_)) rfl ?_
     ·
      rw [hfin]
      simp [hBl]
     have hfi : polyL k s = B := by rw [polyL, G4.out, HX.out, HB.out]
     refine ⟨by rw [hfin, hfi], ?_⟩
     exact Below.setRow hbel (by omega) _
end Go.Proofs.YtakkicppgkmokaaGreat
