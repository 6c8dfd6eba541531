/- Contracts of the reference of chapter 5: the tag, the seal. -/
import Derived.Test.YtakkicppgkmokaaGreatRfEJ
import Derived.Test.YtakkicppgkmokaaGreatRfMJ
import Derived.Test.YtakkicppgkmokaaGreatJ50
import Derived.Test.YtakkicppgkmokaaGreatJ17
set_option linter.unusedSimpArgs false
set_option linter.unusedVariables false
namespace Go.Proofs.YtakkicppgkmokaaGreat
open Go.RowKit
theorem laid_two (a b : List UInt8) : laidL [a, b] = padL a ++ padL b ++ num8 a.length ++ num8 b.length := by
 simp [laidL, padsL, lensL]
theorem padL_le (l : List UInt8) : (padL l).length ≤ l.length + 15 := by
 simp [padL, padN]
 omega
theorem blockR0 (k nonce : List UInt8) (w : World) (hk : k.length = 32) (hn : nonce.length = 12) :
  Calls Tryz.prog 102 #[.agg (u8s k).toArray, .int .u32 0, .string ⟨nonce.toArray⟩] w fun e w' => e = .returned (.string ⟨(streamL k 0 nonce).toArray⟩) ∧ Below w.heap.size w w' := blockR_any k 0 nonce w hk hn
def cpF (t : List UInt8) (i : Nat) (b : List UInt8) : List UInt8 := b.set i (t.getD i 0)
theorem cpF_length (t : List UInt8) (i : Nat) (b : List UInt8) : (cpF t i b).length = b.length := by simp [cpF]
theorem cpF_take (t : List UInt8) (n : Nat) (b : List UInt8) (hb : n ≤ b.length) (ht : n ≤ t.length) : upTo (cpF t) n b = t.take n ++ b.drop n := by
 induction n with
 | zero => rw [upTo]; simp
 | succ n ih =>
  rw [upTo, ih (by omega) (by omega), cpF]
  have h1 : (t.take n).length = n := by rw [List.length_take]; omega
  rw [List.set_append_right _ _ (by omega), h1, Nat.sub_self, List.take_succ_eq_append_getElem (by omega), getD_elem _ _ _ (by omega)]
  have h2 : b.drop n = b[n] :: b.drop (n + 1) := List.drop_eq_getElem_cons (by omega)
  rw [h2, List.set_cons_zero, List.append_assoc, List.singleton_append]
attribute [local irreducible] streamL upTo padL num8 sumL
set_option maxRecDepth 20000 in
set_option maxHeartbeats 2000000 in
theorem tagR_any (k nonce beside masked : List UInt8) (w : World) (hk : k.length = 32) (hn : nonce.length = 12) (hb : beside.length ≤ 20000) (hm : masked.length ≤ 20000) :
  Calls Tryz.prog 64 #[.agg (u8s k).toArray, .string ⟨nonce.toArray⟩, .string ⟨beside.toArray⟩, .string ⟨masked.toArray⟩] w fun e w' => e = .returned (.string ⟨(tagL k nonce beside masked).toArray⟩) ∧ Below w.heap.size w w' := by
 have HS := Lib.hid (fun w => blockR0 k nonce w hk hn)
 obtain ⟨s, hs⟩ : ∃ s, streamL k 0 nonce = s := ⟨_, rfl⟩
 have hsl : s.length = 64 := by rw [← hs]; exact streamL_length _ _ _
 rw [hs] at HS
 have htl : (s.take 32).length = 32 := by rw [List.length_take]; omega
 have hll : (laidL [beside, masked]).length ≤ 100000 := laid2_length beside masked hb hm
 have HPS0 := fun w => sumR_any (s.take 32) (laidL [beside, masked]) w htl hll
 obtain ⟨P, hP⟩ : ∃ P, sumL (s.take 32) (laidL [beside, masked]) = P := ⟨_, rfl⟩
 have hPl : P.length = 16 := by rw [← hP]; exact sumL_length _ _
 have ht : tagL k nonce beside masked = P := by rw [tagL, hs, poly_sum _ _ htl, hP]
 have HT := Lib.hid ht
 simp only [hP] at HPS0
 rw [laid_two, List.append_assoc, List.append_assoc] at HPS0
 have HPS := Lib.hid HPS0
 have HF1 := Lib.hid (fun w => full_any beside w hb)
 have HF2 := Lib.hid (fun w => full_any masked w hm)
 have HE1 := Lib.hid (fun w => eight_any beside.length w (by omega))
 have HE2 := Lib.hid (fun w => eight_any masked.length w (by omega))
 have lp1 := padL_le beside
 have lp2 := padL_le masked
 obtain ⟨p1, hp1⟩ : ∃ p, padL beside = p := ⟨_, rfl⟩
 obtain ⟨p2, hp2⟩ : ∃ p, padL masked = p := ⟨_, rfl⟩
 obtain ⟨n1, hn1⟩ : ∃ p, num8 beside.length = p := ⟨_, rfl⟩
 obtain ⟨n2, hn2⟩ : ∃ p, num8 masked.length = p := ⟨_, rfl⟩
 have ln1 : n1.length = 8 := by rw [← hn1]; exact num8_length _
 have ln2 : n2.length = 8 := by rw [← hn2]; exact num8_length _
 simp only [hp1, hp2, hn1, hn2] at HPS HF1 HF2 HE1 HE2 lp1 lp2
 have bI : (beside.length : Int) ≤ 20000 := by omega
 have mI : (masked.length : Int) ≤ 20000 := by omega
 have p1l : p1.length ≤ 20015 := by omega
 have p2l : p2.length ≤ 20015 := by omega
 have k1 : ¬ 9223372036854775807 < p1.length + p2.length := by omega
 have k2 : ¬ 9223372036854775807 < p1.length + p2.length + n1.length := by omega
 have k3 : ¬ 9223372036854775807 < p1.length + p2.length + n1.length + n2.length := by omega
 have k3a : ¬ 9223372036854775807 < p1.length + (p2.length + n1.length) + n2.length := by omega
 have k1' : p1.length + p2.length ≤ 9223372036854775807 := by omega
 have k2' : p1.length + p2.length + n1.length ≤ 9223372036854775807 := by omega
 have k3' : p1.length + p2.length + n1.length + n2.length ≤ 9223372036854775807 := by omega
 have hwb : IntKind.u64.wrap (beside.length : Int) = (beside.length : Int) := by rw [IntKind.wrap_u64]; omega
 have hwm : IntKind.u64.wrap (masked.length : Int) = (masked.length : Int) := by rw [IntKind.wrap_u64]; omega
 clear hs hP htl hll ht HPS0 hp1 hp2 hn1 hn2 lp1 lp2 ln1 ln2
 go_enter Tryz.func64, Tryz.ntmps64
 go_wp2_with fail
 (with_reducible refine (HS.out _).mono ?_)
 rintro e w1 ⟨rfl, b1⟩
 have z1 := b1.size
 simp at z1
 have B1 : Below w.heap.size w w1 := Below.trans (by (repeat (first | exact Below.refl _ _ | refine Below.al ?_ _ | refine Below.drew ?_ | refine Below.sr ?_ _ | refine Below.sc ?_ _))) (b1.mono (by simp))
 clear b1 HS
 go_wp2_with fail
 obtain ⟨D, hD⟩ : ∃ D, w1.heap.size = D := ⟨_, rfl⟩
 obtain ⟨w2, hw2⟩ : ∃ v, w1.alloc (.cells (zeros 32 (Value.int .u8 0)).toArray 22) = v := ⟨_, rfl⟩
 have r2 : row w2 D = (u8s (List.replicate 32 0)).toArray := by rw [← hw2, ← hD, row_alloc_at _ _ _ rfl]; rfl
 have z2 : D < w2.heap.size := by rw [← hw2, ← hD]; simp
 have B2 : Below w.heap.size w w2 := by rw [← hw2]; exact Below.alloc B1 (by omega) _
 have zD : w.heap.size ≤ D := by omega
 rw [hw2, hD]
 clear hw2 hD B1 z1
 go_loopw [11] (fun i wq => ∃ n : Nat, n ≤ 32 ∧ i = .int .i64 n ∧ row wq D = (u8s (upTo (cpF s) n (List.replicate 32 0))).toArray ∧ D < wq.heap.size ∧ Below w.heap.size w wq) (fun i _ => 32 - (intOf i).toNat)
 case atStart => exact ⟨0, by omega, rfl, by rw [upTo]; exact r2, z2, B2⟩
 case round =>
  clear r2 z2 B2
  obtain ⟨n, hn, rfl, rD, zDD, hbel⟩ := hrel
  have hsz := hbel.size
  obtain ⟨L, hL⟩ : ∃ L, upTo (cpF s) n (List.replicate 32 0) = L := ⟨_, rfl⟩
  have hLl : L.length = 32 := by rw [← hL, upTo_len8 (cpF_length _)]; simp
  rw [hL] at rD
  have HL := Lib.hid hL
  clear hL
  by_cases hlt : n < 32
  ·
   have c1 : (n : Int) < 32 := by omega
   have c2 : (n : Int) < 64 := by omega
   have c3 : n < s.length := by omega
   have c4 : n < L.length := by omega
   obtain ⟨y, hy⟩ : ∃ y, s[n] = y := ⟨_, rfl⟩
   have hse : upTo (cpF s) (n + 1) (List.replicate 32 0) = L.set n y := by rw [upTo, HL.out, cpF, getD_elem _ _ _ c3, hy]
   have HSE := Lib.hid hse
   have hset := u8s_setB L n y
   have hr7 := row_setRow_same (w := wr) (g := D) (c := (u8s (L.set n y)).toArray) (by rw [rD]; simp; omega) (by rw [rD]; simp)
   have b7 : Below w.heap.size w (wr.setRow D (u8s (L.set n y)).toArray) := Below.setRow hbel zD _
   have hL0 : 0 < L.length := by omega
   clear hse
   go_wp2_with fail
   go_roundw
   case rel => exact ⟨n + 1, by omega, rfl, by rw [HSE.out]; exact hr7, by simpa using zDD, b7⟩
   case measure => simp [intOf]; omega
  ·
   obtain rfl : n = 32 := by omega
   rw [show ((32 : Nat) : Int) = 32 from rfl]
   have hLt : L = s.take 32 := by
    rw [← HL.out, cpF_take _ _ _ (by simp) (by omega)]
    simp
   rw [hLt] at rD
   have htl : (s.take 32).length = 32 := by rw [List.length_take]; omega
   obtain ⟨q, hq⟩ : ∃ q, s.take 32 = q := ⟨_, rfl⟩
   rw [hq] at rD htl HPS
   clear hLt hq hLl HL
   go_wp2_with fail
   refine wp_region_beginR [(D, (u8s q).toArray)] rfl (by simp only [Rws]; (repeat (first | exact trivial | refine ⟨(by first | assumption | (simp [go_sem, *]; done)), (by first | omega | (simp; done) | (simp; omega)), ?_⟩))) (fun hS => ?_)
   refine qp 0 hS ?_
   refine qp 1 hS ?_
   refine qp 3 hS ?_
   refine qp 6 hS ?_
   refine qp 7 hS ?_
   refine qp 8 hS ?_
   refine qp 11 hS ?_
   refine qp 12 hS ?_
   refine qp 13 hS ?_
   refine qc 2 (v := ?_) hS ?_ ?_
   rotate_left
   ·
    intro w' hS'
    simp only [Rws] at hS'
    go_simp
    with_reducible refine (HF1.out _).mono ?_
    rintro e w'' ⟨rfl, hb⟩
    exact ⟨_, rfl, by rfl, hb⟩
   refine qc 4 (v := ?_) hS ?_ ?_
   rotate_left
   ·
    intro w' hS'
    simp only [Rws] at hS'
    go_simp
    with_reducible refine (HF2.out _).mono ?_
    rintro e w'' ⟨rfl, hb⟩
    exact ⟨_, rfl, by rfl, hb⟩
   refine qp 5 hS ?_
   refine qc 9 (v := ?_) hS ?_ ?_
   rotate_left
   ·
    intro w' hS'
    simp only [Rws] at hS'
    go_simp
    with_reducible refine (HE1.out _).mono ?_
    rintro e w'' ⟨rfl, hb⟩
    exact ⟨_, rfl, by rfl, hb⟩
   refine qp 10 hS ?_
   refine qc 14 (v := ?_) hS ?_ ?_
   rotate_left
   ·
    intro w' hS'
    simp only [Rws] at hS'
    go_simp
    with_reducible refine (HE2.out _).mono ?_
    rintro e w'' ⟨rfl, hb⟩
    exact ⟨_, rfl, by rfl, hb⟩
   refine qp 15 hS ?_
   refine qc 16 (v := ?_) hS ?_ ?_
   rotate_left
   ·
    intro w' hS'
    simp only [Rws] at hS'
    go_simp
    with_reducible refine (HPS.out _).mono ?_
    rintro e w'' ⟨rfl, hb⟩
    exact ⟨_, rfl, by rfl, hb⟩
   refine wpAnyR_single (i := 17) (k := 18) (zi := (zeros 16 (Value.int .u8 0)).toArray) (cA := (u8s P).toArray) (by simp only [List.getElem?_toArray, List.getElem?_cons_succ, List.getElem?_cons_zero]; rfl) (by simp only [List.getElem?_toArray, List.getElem?_cons_succ, List.getElem?_cons_zero]; rfl) ⟨rfl, rfl, fun a w => by go_simp; (refine ⟨?_, ?_⟩ <;> rfl)⟩ (by kernel_rfl) (by kernel_rfl) (by kernel_rfl) rfl rfl (by simp [*]) (by simp) (by simp; (try omega)) (fun A w1 hr => by
    simp only [Act.put, List.setIfInBounds_toArray, List.set_cons_zero, List.set_cons_succ, ptr]
    go_simp
    try rfl) hS (fun A w6 gA zA b6 rA => ?_)
   (try simp only [Act.put, List.setIfInBounds_toArray, List.set_cons_zero, List.set_cons_succ])
   replace gA : (wr).heap.size ≤ A := gA
   replace b6 : Below (wr).heap.size wr w6 := Below.trans (Below.drew (Below.refl _ _)) b6
   have zw6 := (b6).size
   simp only [ptr]
   clear hS
   have B6 : Below w.heap.size w w6 := hbel.trans (b6.mono hsz)
   go_wp2_with fail
   go_ret
   exact ⟨by rw [HT.out]; rfl, B6⟩
theorem maskR1 (k nonce l : List UInt8) (w : World) (hk : k.length = 32) (hn : nonce.length = 12) (hl : l.length ≤ 100000) :
  Calls Tryz.prog 63 #[.agg (u8s k).toArray, .int .u32 1, .string ⟨nonce.toArray⟩, .string ⟨l.toArray⟩] w fun e w' => e = .returned (.string ⟨(maskL k 1 nonce l).toArray⟩) ∧ Below w.heap.size w w' := maskR_any k 1 nonce l w hk hn hl (by decide) (by decide)
attribute [local irreducible] maskL tagL
set_option maxRecDepth 20000 in
set_option maxHeartbeats 2000000 in
theorem sealR_any (k nonce beside s : List UInt8) (w : World) (hk : k.length = 32) (hn : nonce.length = 12) (hb : beside.length ≤ 20000) (hs : s.length ≤ 20000) :
  Calls Tryz.prog 37 #[.agg (u8s k).toArray, .string ⟨nonce.toArray⟩, .string ⟨beside.toArray⟩, .string ⟨s.toArray⟩] w fun e w' => e = .returned (.string ⟨(sealL k nonce beside s).toArray⟩) ∧ Below w.heap.size w w' := by
 have HM := Lib.hid (fun w => maskR1 k nonce s w hk hn (by omega))
 have hml := maskL_length k 1 nonce s
 obtain ⟨m, hm⟩ : ∃ m, maskL k 1 nonce s = m := ⟨_, rfl⟩
 simp only [hm] at HM hml
 have HT := Lib.hid (fun w => tagR_any k nonce beside m w hk hn hb (by omega))
 have htl := tagL_length k nonce beside m
 have hse : sealL k nonce beside s = m ++ tagL k nonce beside m := by rw [sealL, hm]
 obtain ⟨t, ht⟩ : ∃ t, tagL k nonce beside m = t := ⟨_, rfl⟩
 simp only [ht] at HT htl hse
 have HS := Lib.hid hse
 have k1 : ¬ 9223372036854775807 < m.length + t.length := by omega
 have k1' : m.length + t.length ≤ 9223372036854775807 := by omega
 clear hm ht hse hml htl
 go_enter Tryz.func37, Tryz.ntmps37
 go_wp2_with fail
 (with_reducible refine (HM.out _).mono ?_)
 rintro e w1 ⟨rfl, b1⟩
 have z1 := b1.size
 simp at z1
 have r1 : row w1 w.heap.size = (u8s k).toArray := by rw [row_below b1 (by simp)]; simp [go_sem]
 have B1 : Below w.heap.size w w1 := Below.trans (by (repeat (first | exact Below.refl _ _ | refine Below.al ?_ _ | refine Below.drew ?_ | refine Below.sr ?_ _ | refine Below.sc ?_ _))) (b1.mono (by simp))
 clear b1 HM
 go_wp2_with fail
 (with_reducible refine (HT.out _).mono ?_)
 rintro e w2 ⟨rfl, b2⟩
 have B2 := B1.trans (b2.mono (by omega))
 clear b2 HT
 go_wp2_with fail
 go_ret
 exact ⟨by rw [HS.out]; rfl, B2⟩
end Go.Proofs.YtakkicppgkmokaaGreat
