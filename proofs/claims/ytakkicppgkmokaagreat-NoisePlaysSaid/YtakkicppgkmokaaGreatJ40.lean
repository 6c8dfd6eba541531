/- Texts of this proof, merged: GrA, GrL. -/
import Derived.Test.YtakkicppgkmokaaGreatJ26
set_option linter.unusedSimpArgs false
set_option linter.unusedVariables false
namespace Go.Proofs.YtakkicppgkmokaaGreat
section
open Go.RowKit
theorem getD_setG (M : List Nat) (i j v : Nat) (h : i < M.length) : (M.set i v).getD j 0 = if i = j then v else M.getD j 0 := by
 by_cases hij : i = j
 ·
  subst hij
  simp [List.getD_eq_getElem?_getD, h]
 ·
  simp [List.getD_eq_getElem?_getD, hij]
theorem plus_stepG (l : List Nat) (n O x y s q d : Nat) (h : n + 1 < l.length) (hO : l[n] = O) (h1 : l[n + 1] = 0) (hs : O + x + y = s) (hq : s / 256 = q) (hd : s % 256 = d) :
  valB (((l.set n s).set (n + 1) q).set n d) = valB l + 256 ^ n * x + 256 ^ n * y := by
 have e1 := valB_set l n s (by omega)
 rw [hO] at e1
 have e2 := valB_set (l.set n s) (n + 1) q (by simpa using h)
 rw [List.getElem_set_ne (by omega), h1] at e2
 have e3 := valB_set ((l.set n s).set (n + 1) q) n d (by simp; omega)
 rw [List.getElem_set_ne (by omega), List.getElem_set_self] at e3
 have e4 : 256 ^ n * s = 256 ^ n * O + 256 ^ n * x + 256 ^ n * y := by rw [← hs, Nat.mul_add, Nat.mul_add]
 have e5 : 256 ^ n * s = 256 ^ n * d + 256 ^ (n + 1) * q := by rw [← hd, ← hq, Nat.pow_succ, Nat.mul_assoc, ← Nat.mul_add, Nat.mod_add_div]
 omega
set_option maxRecDepth 20000 in
set_option maxHeartbeats 4000000 in
theorem plusG_any (u v : Nat) (w : World) (hu : u < 256 ^ 32) (hv : v < 256 ^ 32) :
  Calls Tryz.prog 66 #[.agg (n64s (digB u)).toArray, .agg (n64s (digB v)).toArray] w fun e w' => e = .returned (.agg (n64s (digB ((u + v) % pB))).toArray) ∧ Below w.heap.size w w' := by
 have hau := valB_digB u hu
 have hbv := valB_digB v hv
 have la := digB_length u
 have lb := digB_length v
 have da := digB_dig u
 have db := digB_dig v
 obtain ⟨a, ea⟩ : ∃ a, digB u = a := ⟨_, rfl⟩
 obtain ⟨b, eb⟩ : ∃ a, digB v = a := ⟨_, rfl⟩
 rw [ea] at hau la da ⊢
 rw [eb] at hbv lb db ⊢
 have HAU := Lib.hid hau
 have HBV := Lib.hid hbv
 have LA := Lib.hid la
 have LB := Lib.hid lb
 have la32 : 32 ≤ a.length := by omega
 have lb32 : 32 ≤ b.length := by omega
 have ta32 : a.take 32 = a := List.take_of_length_le (by omega)
 have tb32 : b.take 32 = b := List.take_of_length_le (by omega)
 have TA := Lib.hid ta32
 have TB := Lib.hid tb32
 clear ea eb hau hbv ta32 tb32
 obtain ⟨w0, hw0⟩ : ∃ v, ((w.alloc (.cells (n64s a).toArray 120)).alloc (.cells (n64s b).toArray 120)).alloc (.cells (zeros 32 (Value.int .i64 0)).toArray 120) = v := ⟨_, rfl⟩
 obtain ⟨X, hX⟩ : ∃ X, w.heap.size + 1 + 1 + 1 = X := ⟨_, rfl⟩
 have z0 : w0.heap.size = X := by rw [← hw0, ← hX]; simp
 have ra0 : row w0 w.heap.size = (n64s a).toArray := by rw [← hw0]; simp [go_sem]
 have rb0 : row w0 (w.heap.size + 1) = (n64s b).toArray := by rw [← hw0]; simp [go_sem]
 have rR0 : row w0 (w.heap.size + 1 + 1) = (zeros 32 (Value.int .i64 0)).toArray := by rw [← hw0]; simp [go_sem]
 have b0 : Below w.heap.size w w0 := by
  rw [← hw0]
  (repeat (first | exact Below.refl _ _ | refine Below.al ?_ _ | refine Below.drew ?_ | refine Below.sr ?_ _ | refine Below.sc ?_ _))
 obtain ⟨w1, hmk0, o1, b1⟩ := make_own (P := Tryz.prog) (w := w0) (t := 103) inferInstance .i64 .i64 33 (by omega)
 rw [z0] at hmk0 o1 b1
 have hmk : (Instr.makeSlice 103 (.int .i64 33) (.int .i64 33)).run Tryz.prog w0 = .ok (.slice (some ⟨X, 0, none⟩) 33 33) w1 := hmk0
 have o1 : Own w1 X 3 (.slice (some ⟨X, 0, none⟩) 33 33) (n64s (List.replicate 33 0)) := by
  have e : List.replicate 33 (Value.int .i64 0) = n64s (List.replicate 33 0) := by simp [n64s]
  rw [e] at o1
  exact o1
 have zX : w.heap.size + 3 ≤ X := by omega
 have ra1 := (row_below b1 (by omega)).trans ra0
 have rb1 := (row_below b1 (by omega)).trans rb0
 have rR1 := (row_below b1 (by omega)).trans rR0
 have z1 : X ≤ w1.heap.size := by have := b1.size; omega
 have bw1 : Below w.heap.size w w1 := b0.trans (b1.mono (by omega))
 clear hX hmk0 z0 ra0 rb0 rR0 b0 b1 la lb
 go_enter Tryz.func66, Tryz.ntmps66
 go_wp2_with fail
 go_loopw [6] (fun i wr => ∃ (n : Nat) (l : List Nat), n ≤ 32 ∧ i = .int .i64 n ∧ l.length = 33 ∧ (∀ i, n < i → l.getD i 0 = 0) ∧ l.getD n 0 ≤ 1 ∧ (∀ i, i < n → l.getD i 0 < 256) ∧ valB l = valB (a.take n) + valB (b.take n) ∧ Own wr X 3 (.slice (some ⟨X, 0, none⟩) 33 33) (n64s l) ∧ Below X w1 wr) (fun i _ => 32 - (intOf i).toNat)
 case atStart => exact ⟨0, List.replicate 33 0, by omega, rfl, by simp, fun i _ => getD_zerosG _ _, by rw [getD_zerosG]; omega, fun i hi => by omega, by rw [valB_zeros]; simp [valB], o1, by skip; exact Below.refl _ _⟩
 case round =>
  clear o1
  obtain ⟨n, l, hn, rfl, hll, hb1, hb2, hb3, hval, hown, hbel⟩ := hrel
  have hsz := hbel.size
  by_cases hlt : n < 32
  ·
   have jn : (n : Int) < 32 := by omega
   have jn3 : (n : Int) < 33 := by omega
   have ra := (row_below hbel (by omega)).trans ra1
   have rb := (row_below hbel (by omega)).trans rb1
   have za2 : w.heap.size < wr.heap.size := by omega
   have zb2 : w.heap.size + 1 < wr.heap.size := by omega
   obtain ⟨rX, zX2, _⟩ := hown.full
   have hna : n < a.length := by omega
   have hnb : n < b.length := by omega
   have hnl : n < l.length := by omega
   obtain ⟨x, hx⟩ : ∃ v, a[n] = v := ⟨_, rfl⟩
   obtain ⟨y, hy⟩ : ∃ v, b[n] = v := ⟨_, rfl⟩
   have vx : x < 256 := by rw [← hx]; exact da.get n hna
   have vy : y < 256 := by rw [← hy]; exact db.get n hnb
   have hT := valB_take_succ a n
   rw [getD_at _ _ hna, hx] at hT
   have hT2 := valB_take_succ b n
   rw [getD_at _ _ hnb, hy] at hT2
   obtain ⟨O, hO⟩ : ∃ v, l[n] = v := ⟨_, rfl⟩
   have vO : O ≤ 1 := by rw [← hO, ← getD_at _ _ hnl]; exact hb2
   obtain ⟨n1, hn1⟩ : ∃ v, n + 1 = v := ⟨_, rfl⟩
   have fn1 : IntKind.i64.wrap ((n : Int) + 1) = (n1 : Int) := wrapN _ _ (by omega) (by omega)
   have jn1 : (n1 : Int) < 33 := by omega
   have hnl1 : n1 < l.length := by omega
   have hn133 : n1 < 33 := by omega
   have hn33 : n < 33 := by omega
   have h10 : l[n1] = 0 := by rw [← getD_at _ _ hnl1]; exact hb1 n1 (by omega)
   obtain ⟨s0, hs0⟩ : ∃ v, O + x = v := ⟨_, rfl⟩
   obtain ⟨s, hs⟩ : ∃ v, s0 + y = v := ⟨_, rfl⟩
   have f1 : IntKind.i64.wrap ((O : Int) + (x : Int)) = (s0 : Int) := wrapN _ _ (by omega) (by omega)
   have f2 : IntKind.i64.wrap ((s0 : Int) + (y : Int)) = (s : Int) := wrapN _ _ (by omega) (by omega)
   obtain ⟨q, hq⟩ : ∃ v, s / 256 = v := ⟨_, rfl⟩
   obtain ⟨d, hd⟩ : ∃ v, s % 256 = v := ⟨_, rfl⟩
   obtain ⟨m1, m2⟩ := modt _ _ hd
   obtain ⟨m3, m4⟩ := divt _ _ hq
   have vq : q ≤ 1 := by omega
   have vd : d < 256 := by omega
   have fqq : IntKind.i64.wrap (q : Int) = (q : Int) := wrapN _ _ rfl (by omega)
   obtain ⟨L1, hL1⟩ : ∃ v, l.set n s = v := ⟨_, rfl⟩
   obtain ⟨L2, hL2⟩ : ∃ v, L1.set n1 q = v := ⟨_, rfl⟩
   obtain ⟨L3, hL3⟩ : ∃ v, L2.set n d = v := ⟨_, rfl⟩
   have l1l : L1.length = 33 := by rw [← hL1, List.length_set]; exact hll
   have l2l : L2.length = 33 := by rw [← hL2, List.length_set]; exact l1l
   have l3l : L3.length = 33 := by rw [← hL3, List.length_set]; exact l2l
   have g3 : ∀ i, L3.getD i 0 = if n = i then d else if n1 = i then q else l.getD i 0 := by
    intro i
    rw [← hL3, getD_setG L2 n i d (by omega)]
    split
    ·
     rfl
    ·
     rw [← hL2, getD_setG L1 n1 i q (by omega)]
     split
     ·
      rfl
     ·
      rw [← hL1, getD_setG l n i s hnl, if_neg (by assumption)]
   have hv3 : valB L3 = valB (a.take (n + 1)) + valB (b.take (n + 1)) := by
    rw [hT, hT2, ← hL3, ← hL2, ← hL1, ← hn1]
    have hnn := hn1
    subst hnn
    rw [plus_stepG l n O x y s q d hnl1 hO h10 (by omega) hq hd, hval]
    omega
   have c1 : ∀ i, n1 < i → L3.getD i 0 = 0 := fun i hi => by rw [g3, if_neg (by omega), if_neg (by omega)]; exact hb1 i (by omega)
   have c2 : L3.getD n1 0 ≤ 1 := by rw [g3, if_neg (by omega), if_pos rfl]; exact vq
   have c3 : ∀ i, i < n1 → L3.getD i 0 < 256 := fun i hi => by
    rw [g3]
    split
    ·
     exact vd
    ·
     rw [if_neg (by omega)]
     exact hb3 i (by omega)
   rw [hn1] at hv3
   have C1 := Lib.hid c1
   have C2 := Lib.hid c2
   have C3 := Lib.hid c3
   have V3 := Lib.hid hv3
   have LL3 := Lib.hid l3l
   have HN1 := Lib.hid hn1
   have h11 : n < L1.length := by omega
   have h12 : n1 < L1.length := by omega
   have h21 : n < L2.length := by omega
   have e1s : L1[n]'h11 = s := by simp only [← hL1]; rw [List.getElem_set_self]
   have e2s : L2[n]'h21 = s := by simp only [← hL2]; rw [List.getElem_set_ne (by omega)]; exact e1s
   have hset1 : (n64s l).set n (.int .i64 (s : Int)) = n64s L1 := by rw [n64s_set, hL1]
   have hset2 : (n64s L1).set n1 (.int .i64 (q : Int)) = n64s L2 := by rw [n64s_set, hL2]
   have hset3 : (n64s L2).set n (.int .i64 (d : Int)) = n64s L3 := by rw [n64s_set, hL3]
   have hl0 : 0 < l.length := by omega
   have hL10 : 0 < L1.length := by omega
   have hL20 : 0 < L2.length := by omega
   have HL1 := Lib.hid hL1
   have HL2 := Lib.hid hL2
   have HL3 := Lib.hid hL3
   clear hq hd hs hs0 hL1 hL2 hL3 c1 c2 c3 hv3 l1l l2l l3l hn1 g3 hll hb1 hb2 hb3 hval hT hT2 h10
   go_wp2_with fail
   refine wp_region_beginK 15 [(w.heap.size, (n64s a).toArray), (w.heap.size + 1, (n64s b).toArray), (X, (n64s l).toArray)] [] rfl (by simp only [Rws]; (repeat (first | exact trivial | refine ⟨(by first | assumption | (simp [go_sem, *]; done)), (by first | omega | (simp; done) | (simp; omega)), ?_⟩))) (fun hS => ?_)
   refine kp 0 hS ?_
   refine kp 1 hS ?_
   refine kp 2 hS ?_
   refine kp 3 hS ?_
   refine kp 4 hS ?_
   refine kp 5 hS ?_
   refine kp 6 hS ?_
   refine kp 7 hS ?_
   refine kp 8 hS ?_
   refine kp 9 hS ?_
   refine kp 10 hS ?_
   refine kp 11 hS ?_
   refine kp 12 hS ?_
   refine kp 13 hS ?_
   refine kp 14 hS ?_
   refine wpAnyK_store (k := 15) (by simp only [List.getElem?_toArray, List.getElem?_cons_succ, List.getElem?_cons_zero]; rfl) rfl rfl (by kernel_rfl) (fun u1 hu1 => ?_)
   have zu1 : wr.heap.size ≤ u1.heap.size := hu1.size
   have hu2 := below_step (Below.drew (Below.refl _ _)) hu1
   have ou := hown.below hu2
   obtain ⟨rXu, _, _⟩ := ou.full
   have o3 := ou.setFull (u := .int .i64 (s : Int)) (j := n) (by simpa using hnl)
   have b3 : Below X w1 (u1.setRow X ((n64s l).set n (.int .i64 (s : Int))).toArray) := Below.setRow (hbel.trans (hu2.mono (by omega))) (Nat.le_refl _) _
   rw [hset1] at o3 b3
   obtain ⟨w5, hw5⟩ : ∃ v, u1.setRow X (n64s L1).toArray = v := ⟨_, rfl⟩
   rw [hw5] at o3 b3
   have z5 : X < w5.heap.size := by rw [← hw5]; simp; omega
   refine ⟨w5, by go_simp; (try rw [HL1.out, hw5]), trivial, fun hS2 => ?_⟩
   clear hw5
   (try simp only [Act.put, List.setIfInBounds_toArray, List.set_cons_zero, List.set_cons_succ])
   refine wpAnyR_done (by kernel_rfl) (fun w6 h6 => ?_) _
   have o6 := o3.below h6
   have b6 := b3.trans (h6.mono (by omega))
   obtain ⟨rX6, zX6, _⟩ := o6.full
   have o7 := o6.setFull (u := .int .i64 (q : Int)) (j := n1) (by simpa using h12)
   have b7 : Below X w1 (w6.setRow X ((n64s L1).set n1 (.int .i64 (q : Int))).toArray) := Below.setRow b6 (Nat.le_refl _) _
   rw [hset2] at o7 b7
   obtain ⟨w7, hw7⟩ : ∃ v, w6.setRow X (n64s L2).toArray = v := ⟨_, rfl⟩
   rw [hw7] at o7 b7
   obtain ⟨rX7, zX7, _⟩ := o7.full
   have o8 := o7.setFull (u := .int .i64 (d : Int)) (j := n) (by simpa using h21)
   have b8 : Below X w1 (w7.setRow X ((n64s L2).set n (.int .i64 (d : Int))).toArray) := Below.setRow b7 (Nat.le_refl _) _
   rw [hset3] at o8 b8
   clear o3 b3 ou hu1 hu2 hown hbel rX rXu hS hS2 h6 o6 b6 hset1 ra rb o7 b7
   go_wp2_with fail
   go_roundw
   case rel => exact ⟨n1, L3, by omega, by first | rfl | (rw [← HN1.out]; rfl), LL3.out, C1.out, C2.out, C3.out, V3.out, o8, b8⟩
   case measure => have := HN1.out; simp [intOf]; omega
  ·
   obtain rfl : n = 32 := by omega
   rw [show ((32 : Nat) : Int) = 32 from rfl]
   rw [TA.out, TB.out, HAU.out, HBV.out] at hval
   have HVV := Lib.hid hval
   clear hval
   have hdl : Dig l := dig_getD l fun i hi => by
    rcases Nat.lt_or_ge i 32 with h | h
    ·
     exact hb3 i h
    ·
     obtain rfl : i = 32 := by omega
     omega
   have hlp : 0 < l.length := by omega
   have hl65 : l.length ≤ 65 := by omega
   obtain ⟨rX, zX2, _⟩ := hown.full
   have rR := (row_below hbel (by omega)).trans rR1
   have rX' : row wr X = (n64s l ++ []).toArray := by rw [List.append_nil]; exact rX
   have hrest := fun W' => rest_fun l X 33 [] W'
   rw [hll] at hrest
   have HRE := Lib.hid (hrest wr rX' zX2 (by decide) (by decide) hdl)
   rw [HVV.out] at HRE
   have hrl := digB_length ((u + v) % pB)
   obtain ⟨r, hr⟩ : ∃ r, digB ((u + v) % pB) = r := ⟨_, rfl⟩
   rw [hr] at HRE hrl
   have HR := Lib.hid hr
   have bwr : Below w.heap.size w wr := bw1.trans (hbel.mono (by omega))
   clear hr hrest hll hown
   clear hb1 hb2 hb3
   go_wp2_with fail
   (with_reducible refine HRE.out.mono ?_)
   rintro e w8 ⟨rfl, b8⟩
   have rR8 := (row_below b8 (by omega)).trans rR
   have hfin := row_setRow_same (w := w8) (g := w.heap.size + 1 + 1) (c := (n64s r).toArray) (by rw [rR8]; simp) (by rw [rR8]; simp [hrl])
   have bw8 := bwr.trans (b8.mono (by omega))
   go_wp2_with fail
   (try simp only [Exit.inBlock, Exit.then])
   refine bodyPost_ret (results_1 rfl (resOk_row rfl ?_)) rfl ?_
   ·
    rw [hfin]
    simp [hrl]
   refine ⟨by rw [hfin, HR.out], ?_⟩
   exact Below.setRow bw8 (by omega) _
end
section
open Go.RowKit
def pDig (n : Nat) : Nat := if n = 0 then 237 else if n = 31 then 127 else 255
def pSum : Nat → Nat
 | 0 => 0
 | n + 1 => pSum n + 256 ^ n * pDig n
theorem wrapZ (x : Int) (h0 : -4611686018427387904 ≤ x) (h1 : x < 4611686018427387904) : IntKind.i64.wrap x = x := by
 simp [IntKind.wrap, IntKind.bits, IntKind.signed]
 omega
theorem less_step (P vl Bn An Pn bo r y x p c : Int) (h : vl + Bn = An + Pn + P * bo) (he : bo + r + y = x + p + 256 * c) :
  (vl + P * r) + (Bn + P * y) = (An + P * x) + (Pn + P * p) + P * 256 * c := by
 have h1 : P * (bo + r + y) = P * (x + p + 256 * c) := by rw [he]
 rw [Int.mul_add, Int.mul_add, Int.mul_add, Int.mul_add, ← Int.mul_assoc] at h1
 omega
theorem less_fin (n vl Bn An Pn r x y p : Nat) (bo c : Int) (h : (vl : Int) + (Bn : Int) = (An : Int) + (Pn : Int) + ((256 ^ n : Nat) : Int) * bo) (he : bo + (r : Int) + (y : Int) = (x : Int) + (p : Int) + 256 * c) :
  ((vl + 256 ^ n * r : Nat) : Int) + ((Bn + 256 ^ n * y : Nat) : Int) = ((An + 256 ^ n * x : Nat) : Int) + ((Pn + 256 ^ n * p : Nat) : Int) + ((256 ^ (n + 1) : Nat) : Int) * c := by
 have hs := less_step ((256 ^ n : Nat) : Int) _ _ _ _ _ _ _ _ _ _ h he
 rw [Nat.pow_succ]
 generalize 256 ^ n = P at *
 simp only [Int.natCast_add, Int.natCast_mul] at *
 exact hs
theorem pSum_all : pSum 32 = pB := by decide +kernel
set_option maxRecDepth 20000 in
set_option maxHeartbeats 8000000 in
theorem lessG_any (u v : Nat) (w : World) (hu : u < 256 ^ 32) (hv : v < 256 ^ 32) (hvp : v < pB) (hup : u < pB) :
  Calls Tryz.prog 68 #[.agg (n64s (digB u)).toArray, .agg (n64s (digB v)).toArray] w fun e w' => e = .returned (.agg (n64s (digB ((u + pB - v) % pB))).toArray) ∧ Below w.heap.size w w' := by
 have hau := valB_digB u hu
 have hbv := valB_digB v hv
 have la := digB_length u
 have lb := digB_length v
 have da := digB_dig u
 have db := digB_dig v
 obtain ⟨a, ea⟩ : ∃ a, digB u = a := ⟨_, rfl⟩
 obtain ⟨b, eb⟩ : ∃ a, digB v = a := ⟨_, rfl⟩
 rw [ea] at hau la da ⊢
 rw [eb] at hbv lb db ⊢
 have HAU := Lib.hid hau
 have HBV := Lib.hid hbv
 have LA := Lib.hid la
 have LB := Lib.hid lb
 have la32 : 32 ≤ a.length := by omega
 have lb32 : 32 ≤ b.length := by omega
 have ta32 : a.take 32 = a := List.take_of_length_le (by omega)
 have tb32 : b.take 32 = b := List.take_of_length_le (by omega)
 have TA := Lib.hid ta32
 have TB := Lib.hid tb32
 clear ea eb hau hbv ta32 tb32
 obtain ⟨w0, hw0⟩ : ∃ v, ((w.alloc (.cells (n64s a).toArray 120)).alloc (.cells (n64s b).toArray 120)).alloc (.cells (zeros 32 (Value.int .i64 0)).toArray 120) = v := ⟨_, rfl⟩
 obtain ⟨X, hX⟩ : ∃ X, w.heap.size + 1 + 1 + 1 = X := ⟨_, rfl⟩
 have z0 : w0.heap.size = X := by rw [← hw0, ← hX]; simp
 have ra0 : row w0 w.heap.size = (n64s a).toArray := by rw [← hw0]; simp [go_sem]
 have rb0 : row w0 (w.heap.size + 1) = (n64s b).toArray := by rw [← hw0]; simp [go_sem]
 have rR0 : row w0 (w.heap.size + 1 + 1) = (zeros 32 (Value.int .i64 0)).toArray := by rw [← hw0]; simp [go_sem]
 have b0 : Below w.heap.size w w0 := by
  rw [← hw0]
  (repeat (first | exact Below.refl _ _ | refine Below.al ?_ _ | refine Below.drew ?_ | refine Below.sr ?_ _ | refine Below.sc ?_ _))
 obtain ⟨w1, hmk0, o1, b1⟩ := make_own (P := Tryz.prog) (w := w0) (t := 103) inferInstance .i64 .i64 33 (by omega)
 rw [z0] at hmk0 o1 b1
 have hmk : (Instr.makeSlice 103 (.int .i64 33) (.int .i64 33)).run Tryz.prog w0 = .ok (.slice (some ⟨X, 0, none⟩) 33 33) w1 := hmk0
 have o1 : Own w1 X 3 (.slice (some ⟨X, 0, none⟩) 33 33) (n64s (List.replicate 33 0)) := by
  have e : List.replicate 33 (Value.int .i64 0) = n64s (List.replicate 33 0) := by simp [n64s]
  rw [e] at o1
  exact o1
 have zX : w.heap.size + 3 ≤ X := by omega
 have ra1 := (row_below b1 (by omega)).trans ra0
 have rb1 := (row_below b1 (by omega)).trans rb0
 have rR1 := (row_below b1 (by omega)).trans rR0
 have z1 : X ≤ w1.heap.size := by have := b1.size; omega
 have bw1 : Below w.heap.size w w1 := b0.trans (b1.mono (by omega))
 clear hX hmk0 z0 ra0 rb0 rR0 b0 b1 la lb
 go_enter Tryz.func68, Tryz.ntmps68
 go_wp2_with fail
 go_loopw [6, 7] (fun bv i wr => ∃ (n : Nat) (bo : Int) (l : List Nat), n ≤ 32 ∧ i = .int .i64 n ∧ bv = .int .i64 bo ∧ -1 ≤ bo ∧ bo ≤ 1 ∧ l.length = 33 ∧ (∀ i, n ≤ i → l.getD i 0 = 0) ∧ (∀ i, l.getD i 0 < 256) ∧ (valB l : Int) + (valB (b.take n) : Int) = (valB (a.take n) : Int) + (pSum n : Int) + ((256 ^ n : Nat) : Int) * bo ∧ Own wr X 3 (.slice (some ⟨X, 0, none⟩) 33 33) (n64s l) ∧ Below X w1 wr) (fun _ i _ => 32 - (intOf i).toNat)
 case atStart => exact ⟨0, 0, List.replicate 33 0, by omega, rfl, rfl, by omega, by omega, by simp, fun i _ => getD_zerosG _ _, fun i => by rw [getD_zerosG]; omega, by rw [valB_zeros]; simp [valB, pSum], o1, by skip; exact Below.refl _ _⟩
 case round =>
  clear o1
  obtain ⟨n, bo, l, hn, rfl, rfl, hbo1, hbo2, hll, hb1, hb3, hval, hown, hbel⟩ := hrel
  have hsz := hbel.size
  by_cases hlt : n < 32
  ·
   have jn : (n : Int) < 32 := by omega
   have jn3 : (n : Int) < 33 := by omega
   have ra := (row_below hbel (by omega)).trans ra1
   have rb := (row_below hbel (by omega)).trans rb1
   have za2 : w.heap.size < wr.heap.size := by omega
   have zb2 : w.heap.size + 1 < wr.heap.size := by omega
   have hna : n < a.length := by omega
   have hnb : n < b.length := by omega
   have hnl : n < l.length := by omega
   have hn33 : n < 33 := by omega
   obtain ⟨x, hx⟩ : ∃ v, a[n] = v := ⟨_, rfl⟩
   obtain ⟨y, hy⟩ : ∃ v, b[n] = v := ⟨_, rfl⟩
   have vx : x < 256 := by rw [← hx]; exact da.get n hna
   have vy : y < 256 := by rw [← hy]; exact db.get n hnb
   have hT := valB_take_succ a n
   rw [getD_at _ _ hna, hx] at hT
   have hT2 := valB_take_succ b n
   rw [getD_at _ _ hnb, hy] at hT2
   have h0 : l[n] = 0 := by rw [← getD_at _ _ hnl]; exact hb1 n (by omega)
   have HV := Lib.hid hval
   have HB1 := Lib.hid hb1
   have HB3 := Lib.hid hb3
   have HTa := Lib.hid hT
   have HTb := Lib.hid hT2
   have H0 := Lib.hid h0
   have LL := Lib.hid hll
   clear hval hb1 hb3 hT hT2 h0 hll
   obtain ⟨p, hp⟩ : ∃ p, pDig n = p := ⟨_, rfl⟩
   have vp : p ≤ 255 := by rw [← hp]; unfold pDig; split <;> (try split) <;> omega
   have HPd := Lib.hid hp
   obtain ⟨s0, hs0⟩ : ∃ v, x + p = v := ⟨_, rfl⟩
   have f1 : IntKind.i64.wrap ((x : Int) + (p : Int)) = (s0 : Int) := wrapN _ _ (by omega) (by omega)
   obtain ⟨d1, hd1⟩ : ∃ v : Int, (s0 : Int) - (y : Int) = v := ⟨_, rfl⟩
   obtain ⟨d2, hd2⟩ : ∃ v : Int, d1 - bo = v := ⟨_, rfl⟩
   have f2 : IntKind.i64.wrap ((s0 : Int) - (y : Int)) = d1 := by rw [wrapZ _ (by omega) (by omega)]; exact hd1
   have f3 : IntKind.i64.wrap (d1 - bo) = d2 := by rw [wrapZ _ (by omega) (by omega)]; exact hd2
   have vd1 : -256 ≤ d2 ∧ d2 ≤ 511 := by omega
   have hd2v : d2 = (x : Int) + (p : Int) - (y : Int) - bo := by omega
   have HD2 := Lib.hid hd2v
   clear hd1 hd2 hd2v
   have hset0 : True := trivial
   by_cases hn0 : n = 0
   ·
    subst hn0
    have hp2 : p = 237 := by rw [← hp]; rfl
    subst hp2
    have fP : IntKind.i64.wrap ((x : Int) + 237) = (s0 : Int) := by rw [wrapZ _ (by omega) (by omega)]; omega
    go_wp2_with fail
    refine wp_region_beginR [(w.heap.size, (n64s a).toArray), (w.heap.size + 1, (n64s b).toArray)] rfl (by simp only [Rws]; (repeat (first | exact trivial | refine ⟨(by first | assumption | (simp [go_sem, *]; done)), (by first | omega | (simp; done) | (simp; omega)), ?_⟩))) (fun hS => ?_)
    refine qp 0 hS ?_
    refine qp 1 hS ?_
    refine qp 2 hS ?_
    refine qp 3 hS ?_
    refine qp 4 hS ?_
    refine qp 5 hS ?_
    refine qp 6 hS ?_
    refine qp 7 hS ?_
    refine qp 8 hS ?_
    refine qp 9 hS ?_
    refine qp 10 hS ?_
    refine qp 11 hS ?_
    refine wpAnyR_done (by kernel_rfl) (fun w2 h2 => ?_) _
    replace h2 : Below (wr).heap.size (wr) w2 := below_step (Below.drew (Below.refl _ _)) h2
    have own2 := hown.below (below_step (Below.refl _ _) h2)
    have bel2 := hbel.trans (h2.mono (by omega))
    have hsz2 := bel2.size
    clear h2 hown hbel ra rb
    go_wp2_with fail
    go_loopw [6, 9] (fun bv xv wq => ∃ (c e : Int), bv = .int .i64 c ∧ xv = .int .i64 e ∧ (e = d2 ∧ c = 0 ∨ e = d2 + 256 ∧ c = 1 ∧ d2 < 0) ∧ w2 = wq) (fun _ xv _ => (0 - intOf xv).toNat)
    case atStart => exact ⟨0, d2, rfl, rfl, .inl ⟨rfl, rfl⟩, rfl⟩
    case round =>
     obtain ⟨c, e, rfl, rfl, hce, rfl⟩ := hrel
     have HCE := Lib.hid hce
     have eb : -256 ≤ e ∧ e ≤ 600 := by omega
     have cb : 0 ≤ c ∧ c ≤ 1 := by omega
     by_cases he : e < 0
     ·
      obtain ⟨e1, he1⟩ : ∃ v : Int, e + 256 = v := ⟨_, rfl⟩
      obtain ⟨c1, hc1⟩ : ∃ v : Int, c + 1 = v := ⟨_, rfl⟩
      have g1 : IntKind.i64.wrap (e + 256) = e1 := by rw [wrapZ _ (by omega) (by omega)]; exact he1
      have g2 : IntKind.i64.wrap (c + 1) = c1 := by rw [wrapZ _ (by omega) (by omega)]; exact hc1
      have HE1 := Lib.hid he1
      have HC1 := Lib.hid hc1
      clear he1 hc1 hce
      go_wp2_with fail
      go_roundw
      case rel => exact ⟨c1, e1, rfl, rfl, by have := HCE.out; have := HE1.out; have := HC1.out; omega, trivial⟩
      case measure => have := HE1.out; simp [intOf]; omega
     ·
      have he0 : ¬ e < 0 := he
      clear hce
      go_wp2_with fail
      go_loopw [6, 9] (fun bv xv wq => ∃ (c' e' : Int), bv = .int .i64 c' ∧ xv = .int .i64 e' ∧ (e' = e ∧ c' = c ∨ e' = e - 256 ∧ c' = c - 1 ∧ 255 < e) ∧ w2 = wq) (fun _ xv _ => (intOf xv).toNat)
      case atStart => exact ⟨c, e, rfl, rfl, .inl ⟨rfl, rfl⟩, rfl⟩
      case round =>
       obtain ⟨c', e', rfl, rfl, hce', rfl⟩ := hrel
       have HCE' := Lib.hid hce'
       have eb' : 0 ≤ e' ∧ e' ≤ 600 := by omega
       have cb' : -1 ≤ c' ∧ c' ≤ 1 := by omega
       by_cases hg : 255 < e'
       ·
        obtain ⟨e1, he1⟩ : ∃ v : Int, e' - 256 = v := ⟨_, rfl⟩
        obtain ⟨c1, hc1⟩ : ∃ v : Int, c' - 1 = v := ⟨_, rfl⟩
        have g1 : IntKind.i64.wrap (e' - 256) = e1 := by rw [wrapZ _ (by omega) (by omega)]; exact he1
        have g2 : IntKind.i64.wrap (c' - 1) = c1 := by rw [wrapZ _ (by omega) (by omega)]; exact hc1
        have HE1 := Lib.hid he1
        have HC1 := Lib.hid hc1
        clear he1 hc1 hce'
        go_wp2_with fail
        go_roundw
        case rel => exact ⟨c1, e1, rfl, rfl, by have := HCE'.out; have := HCE.out; have := HE1.out; have := HC1.out; omega, trivial⟩
        case measure => have := HE1.out; have := HCE'.out; have := HCE.out; simp [intOf]; omega
       ·
        have hg0 : ¬ 255 < e' := hg
        have hec : e' = d2 + 256 * c' := by have := HCE.out; omega
        obtain ⟨r, hr⟩ : ∃ r : Nat, e' = (r : Int) := ⟨e'.toNat, by omega⟩
        subst hr
        have vr : r < 256 := by omega
        have hbr : bo + (r : Int) + (y : Int) = (x : Int) + 237 + 256 * c' := by have := HD2.out; omega
        have hvl : valB (l.set 0 r) = valB l + 256 ^ 0 * r := by
         have := valB_set l 0 r hnl
         rw [H0.out] at this
         omega
        have hfin : (valB (l.set 0 r) : Int) + (valB (b.take (0 + 1)) : Int) = (valB (a.take (0 + 1)) : Int) + (pSum (0 + 1) : Int) + ((256 ^ (0 + 1) : Nat) : Int) * c' := by
         rw [hvl, HTb.out, HTa.out, pSum, HPd.out]
         exact less_fin 0 _ _ _ _ _ _ _ _ _ _ HV.out (by omega)
        have HF := Lib.hid hfin
        have g3 : ∀ i, (l.set 0 r).getD i 0 = if 0 = i then r else l.getD i 0 := fun i => getD_setG l 0 i r hnl
        have c1 : ∀ i, 0 + 1 ≤ i → (l.set 0 r).getD i 0 = 0 := fun i hi => by rw [g3, if_neg (by omega)]; exact HB1.out i (by omega)
        have c3 : ∀ i, (l.set 0 r).getD i 0 < 256 := fun i => by
         rw [g3]
         split
         ·
          exact vr
         ·
          exact HB3.out i
        have C1 := Lib.hid c1
        have C3 := Lib.hid c3
        have l3l : (l.set 0 r).length = 33 := by rw [List.length_set]; exact LL.out
        have LL3 := Lib.hid l3l
        obtain ⟨rX, zX2, _⟩ := own2.full
        have o3 := own2.setFull (u := .int .i64 (r : Int)) (j := 0) (by simpa using hnl)
        have b3 : Below X w1 (w2.setRow X ((n64s l).set 0 (.int .i64 (r : Int))).toArray) := Below.setRow bel2 (Nat.le_refl _) _
        rw [n64s_set] at o3 b3
        have hl0 : 0 < l.length := by omega
        clear hec hbr hvl hfin g3 c1 c3 l3l hce' own2 bel2
        go_wp2_with fail
        go_roundw
        case rel => exact ⟨0 + 1, c', l.set 0 r, by omega, by rfl, rfl, by omega, by omega, LL3.out, C1.out, C3.out, HF.out, o3, b3⟩
        case measure => simp [intOf]; (try omega)
   ·
    by_cases hn31 : n = 31
    ·
     subst hn31
     have hp2 : p = 127 := by rw [← hp]; rfl
     subst hp2
     have fP : IntKind.i64.wrap ((x : Int) + 127) = (s0 : Int) := by rw [wrapZ _ (by omega) (by omega)]; omega
     go_wp2_with fail
     refine wp_region_beginR [(w.heap.size, (n64s a).toArray), (w.heap.size + 1, (n64s b).toArray)] rfl (by simp only [Rws]; (repeat (first | exact trivial | refine ⟨(by first | assumption | (simp [go_sem, *]; done)), (by first | omega | (simp; done) | (simp; omega)), ?_⟩))) (fun hS => ?_)
     refine qp 0 hS ?_
     refine qp 1 hS ?_
     refine qp 2 hS ?_
     refine qp 3 hS ?_
     refine qp 4 hS ?_
     refine qp 5 hS ?_
     refine qp 6 hS ?_
     refine qp 7 hS ?_
     refine qp 8 hS ?_
     refine qp 9 hS ?_
     refine qp 10 hS ?_
     refine qp 11 hS ?_
     refine wpAnyR_done (by kernel_rfl) (fun w2 h2 => ?_) _
     replace h2 : Below (wr).heap.size (wr) w2 := below_step (Below.drew (Below.refl _ _)) h2
     have own2 := hown.below (below_step (Below.refl _ _) h2)
     have bel2 := hbel.trans (h2.mono (by omega))
     have hsz2 := bel2.size
     clear h2 hown hbel ra rb
     go_wp2_with fail
     go_loopw [6, 9] (fun bv xv wq => ∃ (c e : Int), bv = .int .i64 c ∧ xv = .int .i64 e ∧ (e = d2 ∧ c = 0 ∨ e = d2 + 256 ∧ c = 1 ∧ d2 < 0) ∧ w2 = wq) (fun _ xv _ => (0 - intOf xv).toNat)
     case atStart => exact ⟨0, d2, rfl, rfl, .inl ⟨rfl, rfl⟩, rfl⟩
     case round =>
      obtain ⟨c, e, rfl, rfl, hce, rfl⟩ := hrel
      have HCE := Lib.hid hce
      have eb : -256 ≤ e ∧ e ≤ 600 := by omega
      have cb : 0 ≤ c ∧ c ≤ 1 := by omega
      by_cases he : e < 0
      ·
       obtain ⟨e1, he1⟩ : ∃ v : Int, e + 256 = v := ⟨_, rfl⟩
       obtain ⟨c1, hc1⟩ : ∃ v : Int, c + 1 = v := ⟨_, rfl⟩
       have g1 : IntKind.i64.wrap (e + 256) = e1 := by rw [wrapZ _ (by omega) (by omega)]; exact he1
       have g2 : IntKind.i64.wrap (c + 1) = c1 := by rw [wrapZ _ (by omega) (by omega)]; exact hc1
       have HE1 := Lib.hid he1
       have HC1 := Lib.hid hc1
       clear he1 hc1 hce
       go_wp2_with fail
       go_roundw
       case rel => exact ⟨c1, e1, rfl, rfl, by have := HCE.out; have := HE1.out; have := HC1.out; omega, trivial⟩
       case measure => have := HE1.out; simp [intOf]; omega
      ·
       have he0 : ¬ e < 0 := he
       clear hce
       go_wp2_with fail
       go_loopw [6, 9] (fun bv xv wq => ∃ (c' e' : Int), bv = .int .i64 c' ∧ xv = .int .i64 e' ∧ (e' = e ∧ c' = c ∨ e' = e - 256 ∧ c' = c - 1 ∧ 255 < e) ∧ w2 = wq) (fun _ xv _ => (intOf xv).toNat)
       case atStart => exact ⟨c, e, rfl, rfl, .inl ⟨rfl, rfl⟩, rfl⟩
       case round =>
        obtain ⟨c', e', rfl, rfl, hce', rfl⟩ := hrel
        have HCE' := Lib.hid hce'
        have eb' : 0 ≤ e' ∧ e' ≤ 600 := by omega
        have cb' : -1 ≤ c' ∧ c' ≤ 1 := by omega
        by_cases hg : 255 < e'
        ·
         obtain ⟨e1, he1⟩ : ∃ v : Int, e' - 256 = v := ⟨_, rfl⟩
         obtain ⟨c1, hc1⟩ : ∃ v : Int, c' - 1 = v := ⟨_, rfl⟩
         have g1 : IntKind.i64.wrap (e' - 256) = e1 := by rw [wrapZ _ (by omega) (by omega)]; exact he1
         have g2 : IntKind.i64.wrap (c' - 1) = c1 := by rw [wrapZ _ (by omega) (by omega)]; exact hc1
         have HE1 := Lib.hid he1
         have HC1 := Lib.hid hc1
         clear he1 hc1 hce'
         go_wp2_with fail
         go_roundw
         case rel => exact ⟨c1, e1, rfl, rfl, by have := HCE'.out; have := HCE.out; have := HE1.out; have := HC1.out; omega, trivial⟩
         case measure => have := HE1.out; have := HCE'.out; have := HCE.out; simp [intOf]; omega
        ·
         have hg0 : ¬ 255 < e' := hg
         have hec : e' = d2 + 256 * c' := by have := HCE.out; omega
         obtain ⟨r, hr⟩ : ∃ r : Nat, e' = (r : Int) := ⟨e'.toNat, by omega⟩
         subst hr
         have vr : r < 256 := by omega
         have hbr : bo + (r : Int) + (y : Int) = (x : Int) + 127 + 256 * c' := by have := HD2.out; omega
         have hvl : valB (l.set 31 r) = valB l + 256 ^ 31 * r := by
          have := valB_set l 31 r hnl
          rw [H0.out] at this
          omega
         have hfin : (valB (l.set 31 r) : Int) + (valB (b.take (31 + 1)) : Int) = (valB (a.take (31 + 1)) : Int) + (pSum (31 + 1) : Int) + ((256 ^ (31 + 1) : Nat) : Int) * c' := by
          rw [hvl, HTb.out, HTa.out, pSum, HPd.out]
          exact less_fin 31 _ _ _ _ _ _ _ _ _ _ HV.out (by omega)
         have HF := Lib.hid hfin
         have g3 : ∀ i, (l.set 31 r).getD i 0 = if 31 = i then r else l.getD i 0 := fun i => getD_setG l 31 i r hnl
         have c1 : ∀ i, 31 + 1 ≤ i → (l.set 31 r).getD i 0 = 0 := fun i hi => by rw [g3, if_neg (by omega)]; exact HB1.out i (by omega)
         have c3 : ∀ i, (l.set 31 r).getD i 0 < 256 := fun i => by
          rw [g3]
          split
          ·
           exact vr
          ·
           exact HB3.out i
         have C1 := Lib.hid c1
         have C3 := Lib.hid c3
         have l3l : (l.set 31 r).length = 33 := by rw [List.length_set]; exact LL.out
         have LL3 := Lib.hid l3l
         obtain ⟨rX, zX2, _⟩ := own2.full
         have o3 := own2.setFull (u := .int .i64 (r : Int)) (j := 31) (by simpa using hnl)
         have b3 : Below X w1 (w2.setRow X ((n64s l).set 31 (.int .i64 (r : Int))).toArray) := Below.setRow bel2 (Nat.le_refl _) _
         rw [n64s_set] at o3 b3
         have hl0 : 0 < l.length := by omega
         clear hec hbr hvl hfin g3 c1 c3 l3l hce' own2 bel2
         go_wp2_with fail
         go_roundw
         case rel => exact ⟨31 + 1, c', l.set 31 r, by omega, by rfl, rfl, by omega, by omega, LL3.out, C1.out, C3.out, HF.out, o3, b3⟩
         case measure => simp [intOf]; (try omega)
    ·
     have hp2 : p = 255 := by rw [← hp]; unfold pDig; rw [if_neg hn0, if_neg hn31]
     subst hp2
     have fP : IntKind.i64.wrap ((x : Int) + 255) = (s0 : Int) := by rw [wrapZ _ (by omega) (by omega)]; omega
     have q0 : ¬ (n : Int) = 0 := by omega
     have q31 : ¬ (n : Int) = 31 := by omega
     go_wp2_with fail
     refine wp_region_beginR [(w.heap.size, (n64s a).toArray), (w.heap.size + 1, (n64s b).toArray)] rfl (by simp only [Rws]; (repeat (first | exact trivial | refine ⟨(by first | assumption | (simp [go_sem, *]; done)), (by first | omega | (simp; done) | (simp; omega)), ?_⟩))) (fun hS => ?_)
     refine qp 0 hS ?_
     refine qp 1 hS ?_
     refine qp 2 hS ?_
     refine qp 3 hS ?_
     refine qp 4 hS ?_
     refine qp 5 hS ?_
     refine qp 6 hS ?_
     refine qp 7 hS ?_
     refine qp 8 hS ?_
     refine qp 9 hS ?_
     refine qp 10 hS ?_
     refine qp 11 hS ?_
     refine wpAnyR_done (by kernel_rfl) (fun w2 h2 => ?_) _
     replace h2 : Below (wr).heap.size (wr) w2 := below_step (Below.drew (Below.refl _ _)) h2
     have own2 := hown.below (below_step (Below.refl _ _) h2)
     have bel2 := hbel.trans (h2.mono (by omega))
     have hsz2 := bel2.size
     clear h2 hown hbel ra rb
     go_wp2_with fail
     go_loopw [6, 9] (fun bv xv wq => ∃ (c e : Int), bv = .int .i64 c ∧ xv = .int .i64 e ∧ (e = d2 ∧ c = 0 ∨ e = d2 + 256 ∧ c = 1 ∧ d2 < 0) ∧ w2 = wq) (fun _ xv _ => (0 - intOf xv).toNat)
     case atStart => exact ⟨0, d2, rfl, rfl, .inl ⟨rfl, rfl⟩, rfl⟩
     case round =>
      obtain ⟨c, e, rfl, rfl, hce, rfl⟩ := hrel
      have HCE := Lib.hid hce
      have eb : -256 ≤ e ∧ e ≤ 600 := by omega
      have cb : 0 ≤ c ∧ c ≤ 1 := by omega
      by_cases he : e < 0
      ·
       obtain ⟨e1, he1⟩ : ∃ v : Int, e + 256 = v := ⟨_, rfl⟩
       obtain ⟨c1, hc1⟩ : ∃ v : Int, c + 1 = v := ⟨_, rfl⟩
       have g1 : IntKind.i64.wrap (e + 256) = e1 := by rw [wrapZ _ (by omega) (by omega)]; exact he1
       have g2 : IntKind.i64.wrap (c + 1) = c1 := by rw [wrapZ _ (by omega) (by omega)]; exact hc1
       have HE1 := Lib.hid he1
       have HC1 := Lib.hid hc1
       clear he1 hc1 hce
       go_wp2_with fail
       go_roundw
       case rel => exact ⟨c1, e1, rfl, rfl, by have := HCE.out; have := HE1.out; have := HC1.out; omega, trivial⟩
       case measure => have := HE1.out; simp [intOf]; omega
      ·
       have he0 : ¬ e < 0 := he
       clear hce
       go_wp2_with fail
       go_loopw [6, 9] (fun bv xv wq => ∃ (c' e' : Int), bv = .int .i64 c' ∧ xv = .int .i64 e' ∧ (e' = e ∧ c' = c ∨ e' = e - 256 ∧ c' = c - 1 ∧ 255 < e) ∧ w2 = wq) (fun _ xv _ => (intOf xv).toNat)
       case atStart => exact ⟨c, e, rfl, rfl, .inl ⟨rfl, rfl⟩, rfl⟩
       case round =>
        obtain ⟨c', e', rfl, rfl, hce', rfl⟩ := hrel
        have HCE' := Lib.hid hce'
        have eb' : 0 ≤ e' ∧ e' ≤ 600 := by omega
        have cb' : -1 ≤ c' ∧ c' ≤ 1 := by omega
        by_cases hg : 255 < e'
        ·
         obtain ⟨e1, he1⟩ : ∃ v : Int, e' - 256 = v := ⟨_, rfl⟩
         obtain ⟨c1, hc1⟩ : ∃ v : Int, c' - 1 = v := ⟨_, rfl⟩
         have g1 : IntKind.i64.wrap (e' - 256) = e1 := by rw [wrapZ _ (by omega) (by omega)]; exact he1
         have g2 : IntKind.i64.wrap (c' - 1) = c1 := by rw [wrapZ _ (by omega) (by omega)]; exact hc1
         have HE1 := Lib.hid he1
         have HC1 := Lib.hid hc1
         clear he1 hc1 hce'
         go_wp2_with fail
         go_roundw
         case rel => exact ⟨c1, e1, rfl, rfl, by have := HCE'.out; have := HCE.out; have := HE1.out; have := HC1.out; omega, trivial⟩
         case measure => have := HE1.out; have := HCE'.out; have := HCE.out; simp [intOf]; omega
        ·
         have hg0 : ¬ 255 < e' := hg
         have hec : e' = d2 + 256 * c' := by have := HCE.out; omega
         obtain ⟨r, hr⟩ : ∃ r : Nat, e' = (r : Int) := ⟨e'.toNat, by omega⟩
         subst hr
         have vr : r < 256 := by omega
         have hbr : bo + (r : Int) + (y : Int) = (x : Int) + 255 + 256 * c' := by have := HD2.out; omega
         have hvl : valB (l.set n r) = valB l + 256 ^ n * r := by
          have := valB_set l n r hnl
          rw [H0.out] at this
          omega
         have hfin : (valB (l.set n r) : Int) + (valB (b.take (n + 1)) : Int) = (valB (a.take (n + 1)) : Int) + (pSum (n + 1) : Int) + ((256 ^ (n + 1) : Nat) : Int) * c' := by
          rw [hvl, HTb.out, HTa.out, pSum, HPd.out]
          exact less_fin n _ _ _ _ _ _ _ _ _ _ HV.out (by omega)
         have HF := Lib.hid hfin
         have g3 : ∀ i, (l.set n r).getD i 0 = if n = i then r else l.getD i 0 := fun i => getD_setG l n i r hnl
         have c1 : ∀ i, n + 1 ≤ i → (l.set n r).getD i 0 = 0 := fun i hi => by rw [g3, if_neg (by omega)]; exact HB1.out i (by omega)
         have c3 : ∀ i, (l.set n r).getD i 0 < 256 := fun i => by
          rw [g3]
          split
          ·
           exact vr
          ·
           exact HB3.out i
         have C1 := Lib.hid c1
         have C3 := Lib.hid c3
         have l3l : (l.set n r).length = 33 := by rw [List.length_set]; exact LL.out
         have LL3 := Lib.hid l3l
         obtain ⟨rX, zX2, _⟩ := own2.full
         have o3 := own2.setFull (u := .int .i64 (r : Int)) (j := n) (by simpa using hnl)
         have b3 : Below X w1 (w2.setRow X ((n64s l).set n (.int .i64 (r : Int))).toArray) := Below.setRow bel2 (Nat.le_refl _) _
         rw [n64s_set] at o3 b3
         have hl0 : 0 < l.length := by omega
         clear hec hbr hvl hfin g3 c1 c3 l3l hce' own2 bel2
         go_wp2_with fail
         go_roundw
         case rel => exact ⟨n + 1, c', l.set n r, by omega, by rfl, rfl, by omega, by omega, LL3.out, C1.out, C3.out, HF.out, o3, b3⟩
         case measure => simp [intOf]; (try omega)
  ·
   obtain rfl : n = 32 := by omega
   rw [show ((32 : Nat) : Int) = 32 from rfl]
   have HVV := Lib.hid hval
   have h32 : l.getD 32 0 = 0 := hb1 32 (Nat.le_refl _)
   have h32l : 32 < l.length := by omega
   have hl32 : l[32] = 0 := by rw [← getD_at _ _ h32l]; exact h32
   have hlt2 : valB l < 256 ^ 32 := by
    have h1 := valB_parts l 32 (by omega)
    have h2 : l.drop 32 = [l.getD 32 0] := by
     rw [List.drop_eq_getElem_cons (by omega), List.drop_eq_nil_of_le (by omega), getD_at _ _ h32l]
    rw [h2, h32] at h1
    have h3 := valB_lt (l.take 32) (Dig.take (dig_getD l fun i _ => hb3 i) 32)
    rw [List.length_take, Nat.min_eq_left (by omega)] at h3
    simp [valB] at h1
    omega
   rw [TA.out, TB.out, HAU.out, HBV.out, pSum_all] at hval
   obtain ⟨t, ht⟩ : ∃ t : Nat, -bo = (t : Int) ∧ t ≤ 1 := by
    have : ¬ bo = 1 := by
     intro h1
     subst h1
     unfold pB at *
     omega
    exact ⟨(-bo).toNat, by omega, by omega⟩
   obtain ⟨M, hM⟩ : ∃ M, l.set 32 t = M := ⟨_, rfl⟩
   have hMl : M.length = 33 := by rw [← hM, List.length_set]; exact hll
   have hMv : valB M = u + pB - v := by
    have h1 := valB_set l 32 t h32l
    rw [hl32, hM] at h1
    have h2 : bo = -(t : Int) := by omega
    rw [h2] at hval
    have h3 := ht.2
    have h4 : t = 0 ∨ t = 1 := by omega
    rcases h4 with rfl | rfl
    ·
     unfold pB at *
     omega
    ·
     unfold pB at *
     omega
   have hMd : Dig M := by rw [← hM]; exact (dig_getD l fun i _ => hb3 i).set _ (by omega)
   have fneg : IntKind.i64.wrap (-bo) = (t : Int) := by rw [wrapZ _ (by omega) (by omega)]; exact ht.1
   obtain ⟨rX0, zX0, _⟩ := hown.full
   have hset : (n64s l).set 32 (.int .i64 (t : Int)) = n64s M := by rw [n64s_set, hM]
   have o5 := hown.setFull (u := .int .i64 (t : Int)) (j := 32) (by simpa using h32l)
   rw [hset] at o5
   have b5 : Below X w1 (wr.setRow X (n64s M).toArray) := Below.setRow hbel (Nat.le_refl _) _
   obtain ⟨w5, hw5⟩ : ∃ W, wr.setRow X (n64s M).toArray = W := ⟨_, rfl⟩
   rw [hw5] at o5 b5
   obtain ⟨rX, zX2, _⟩ := o5.full
   have z5 := b5.size
   have rR := (row_below b5 (by omega)).trans rR1
   have rX' : row w5 X = (n64s M ++ []).toArray := by rw [List.append_nil]; exact rX
   have hrest := fun W' => rest_fun M X 33 [] W'
   rw [hMl] at hrest
   have HRE := Lib.hid (hrest w5 rX' zX2 (by decide) (by decide) hMd)
   rw [hMv] at HRE
   have hrl := digB_length ((u + pB - v) % pB)
   obtain ⟨r, hr⟩ : ∃ r, digB ((u + pB - v) % pB) = r := ⟨_, rfl⟩
   rw [hr] at HRE hrl
   have HR := Lib.hid hr
   have bwr : Below w.heap.size w w5 := bw1.trans (b5.mono (by omega))
   have hl0 : 0 < l.length := by omega
   have HLL := Lib.hid hll
   have HM := Lib.hid hM
   clear hr hrest hll hown hbel hval hMv hMl hMd hM rX rX' o5 b5 hb1 hb3 h32 hl32 hlt2 ht hvp hup hu hv
   go_wp2_with fail
   (with_reducible refine HRE.out.mono ?_)
   rintro e w8 ⟨rfl, b8⟩
   have rR8 := (row_below b8 (by omega)).trans rR
   have hfin := row_setRow_same (w := w8) (g := w.heap.size + 1 + 1) (c := (n64s r).toArray) (by rw [rR8]; simp) (by rw [rR8]; simp [hrl])
   have bw8 := bwr.trans (b8.mono (by omega))
   go_wp2_with fail
   (try simp only [Exit.inBlock, Exit.then])
   refine bodyPost_ret (results_1 rfl (resOk_row rfl ?_)) rfl ?_
   ·
    rw [hfin]
    simp [hrl]
   refine ⟨by rw [hfin, HR.out], ?_⟩
   exact Below.setRow bw8 (by omega) _
end
end Go.Proofs.YtakkicppgkmokaaGreat
