/- Texts of this proof, merged: ShaF, ShaS. -/
import Derived.Test.YtakkicppgkmokaaGreatJ16
import Derived.Test.YtakkicppgkmokaaGreatJ18
set_option linter.unusedSimpArgs false
set_option linter.unusedVariables false
set_option maxRecDepth 4000
namespace Go.Proofs.YtakkicppgkmokaaGreat
section
open Go.RowKit
def shPad (n : Nat) : Nat := (120 - (n + 1) % 64) % 64
def fillF (n : Nat) (i : Nat) (l : List UInt8) : List UInt8 := l ++ [byteI ((n : Int) / 2 ^ (8 * (7 - i)))]
def fillL (s : List UInt8) : List UInt8 := upTo (fillF (8 * s.length)) 8 (s ++ ([128] ++ List.replicate (shPad s.length) 0))
theorem fillF_length (n i : Nat) (l : List UInt8) : (fillF n i l).length = l.length + 1 := by simp [fillF]
theorem upTo_fill (n : Nat) (l : List UInt8) (i : Nat) : (upTo (fillF n) i l).length = l.length + i := by
 induction i with
 | zero => rfl
 | succ i ih => rw [upTo, fillF_length, ih]; omega
theorem fillL_length (s : List UInt8) : (fillL s).length = s.length + 9 + shPad s.length := by
 rw [fillL, upTo_fill]
 simp
 omega
theorem fillL_mod (s : List UInt8) : (fillL s).length % 64 = 0 := by
 rw [fillL_length, shPad]
 omega
theorem rep0_any (q : Nat) (w : World) (hq : q < 64) :
  Calls Tryz.prog 114 #[.string ⟨#[0]⟩, .int .i64 q] w fun e w' => e = .returned (.string ⟨(List.replicate q (0 : UInt8)).toArray⟩) ∧ Below w.heap.size w w' := by
 refine (Tryz.strings_Repeat ⟨#[0]⟩ q w (by omega) (by show 1 * q ≤ _; omega)).mono ?_
 rintro e w' ⟨rfl, h⟩
 refine ⟨?_, h⟩
 rw [show (ByteArray.mk #[(0 : UInt8)]).data.toList = [0] from rfl, repeat0]
attribute [local irreducible] upTo
set_option maxRecDepth 20000 in
set_option maxHeartbeats 2000000 in
theorem fill_any (s : List UInt8) (w : World) (hs : s.length ≤ 1000000) :
  Calls Tryz.prog 85 #[.string ⟨s.toArray⟩] w fun e w' => e = .returned (.string ⟨(fillL s).toArray⟩) ∧ Below w.heap.size w w' := by
 have hsI : (s.length : Int) ≤ 1000000 := by omega
 go_enter Tryz.func85, Tryz.ntmps85
 obtain ⟨q1, hq1⟩ : ∃ q, (s.length + 1) % 64 = q := ⟨_, rfl⟩
 obtain ⟨q, hq⟩ : ∃ q, (120 - q1) % 64 = q := ⟨_, rfl⟩
 have e1 : ((s.length : Int) + 1) % 64 = (q1 : Int) := by omega
 have e2 : (120 - (q1 : Int)) % 64 = (q : Int) := by omega
 have e3 : (120 - ((s.length : Int) + 1)) % 64 = (q : Int) := by omega
 have hpad : shPad s.length = q := by rw [shPad, hq1, hq]
 have hq1b : (q1 : Int) < 64 := by omega
 have hqb : q < 64 := by omega
 have HP := Lib.hid hpad
 clear hpad hq hq1
 go_wp2_with fail
 refine (rep0_any q _ (by omega)).mono ?_
 rintro e w1 ⟨rfl, b1⟩
 replace b1 := below_of b1 (show Below (w).heap.size w _ from by (repeat (first | exact Below.refl _ _ | refine Below.al ?_ _ | refine Below.drew ?_ | refine Below.sr ?_ _ | refine Below.sc ?_ _))) (by first | (simp; done) | (simp; omega) | omega)
 obtain ⟨n, hn⟩ : ∃ n, 8 * s.length = n := ⟨_, rfl⟩
 have hnI : (8 : Int) * s.length = (n : Int) := by omega
 have hnb : n ≤ 8000000 := by omega
 have HN := Lib.hid hn
 clear hn
 go_wp2_with fail
 obtain ⟨l0, hl0⟩ : ∃ l0, s ++ ([128] ++ List.replicate q 0) = l0 := ⟨_, rfl⟩
 have hl0b : l0.length ≤ 1000065 := by rw [← hl0]; simp; omega
 have hl0' : s ++ 128 :: List.replicate q 0 = l0 := hl0
 have hL0 := Lib.hid hl0
 try rw [hl0']
 go_loopw [4, 5] (fun v b wr => ∃ i : Nat, i ≤ 8 ∧ v = .string ⟨(upTo (fillF n) i l0).toArray⟩ ∧ b = .int .i64 (7 - (i : Int)) ∧ Below w.heap.size w wr) (fun _ b _ => (intOf b + 1).toNat)
 case atStart => exact ⟨0, by omega, by rw [upTo, ← hL0.out]; congr 1; apply ByteArray.ext; simp, rfl, b1⟩
 case round =>
  obtain ⟨i, hi, rfl, rfl, hbel⟩ := hrel
  have hlen := upTo_fill n l0 i
  have hsucc := Lib.hid (show upTo (fillF n) (i + 1) l0 = upTo (fillF n) i l0 ++ [byteI ((n : Int) / 2 ^ (8 * (7 - i)))] by rw [upTo, fillF])
  obtain ⟨t, ht⟩ : ∃ t, upTo (fillF n) i l0 = t := ⟨_, rfl⟩
  rw [ht] at hlen hsucc ⊢
  have HT := Lib.hid ht
  clear ht
  by_cases hlt : i < 8
  ·
   obtain ⟨c, hc⟩ : ∃ c, 7 - i = c := ⟨_, rfl⟩
   have f1 : (7 : Int) - (i : Int) = (c : Int) := by omega
   obtain ⟨d, hd⟩ : ∃ d, 8 * c = d := ⟨_, rfl⟩
   have f2 : (8 : Int) * (c : Int) = (d : Int) := by omega
   have f3 : d < 64 := by omega
   rw [f1]
   rw [hc, hd] at hsucc
   have tlI : (t.length : Int) ≤ 1000073 := by omega
   have hcI : (7 : Int) - ((i + 1 : Nat) : Int) = (c : Int) - 1 := by omega
   have HCI := Lib.hid hcI
   have HS := Lib.hid hsucc.out
   clear hlen hc hd hcI hsucc
   go_wp2_with fail
   go_roundw
   case rel => exact ⟨i + 1, by omega, by rw [HS.out]; rfl, by rw [HCI.out], Below.alloc hbel (by have := hbel.size; omega) _⟩
   case measure => simp [intOf]
  ·
   obtain rfl : i = 8 := by omega
   rw [show (7 : Int) - ((8 : Nat) : Int) = -1 by decide]
   have e : t = fillL s := by rw [fillL, HN.out, HP.out, hL0.out]; exact HT.out.symm
   go_wp2_with fail
   go_ret
   exact ⟨by rw [← e]; rfl, hbel⟩
end
section
open Go.RowKit
def blkF (k : List Int) (t : List UInt8) (j : Nat) (h : List Int) : List Int := mixL h (wdL ((t.drop (64 * j)).take 64)) k
def blksL (t : List UInt8) : List Int := upTo (blkF shconstantsL t) (t.length / 64) shfirstL
def bigF (h : List Int) (i : Nat) (b : List UInt8) : List UInt8 := b.set i (byteI (h.getD (i / 4) 0 / 2 ^ (24 - 8 * (i % 4))))
def bigL (h : List Int) : List UInt8 := upTo (bigF h) 32 (List.replicate 32 0)
def shaK (s : List UInt8) : List UInt8 := bigL (blksL (fillL s))
theorem bigF_length (h : List Int) (i : Nat) (b : List UInt8) : (bigF h i b).length = b.length := by simp [bigF]
theorem bigL_length (h : List Int) : (bigL h).length = 32 := by rw [bigL, upTo_len8 (bigF_length h)]; simp
theorem shaK_length (s : List UInt8) : (shaK s).length = 32 := bigL_length _
theorem blkF_length (k : List Int) (t : List UInt8) (j : Nat) (h : List Int) : (blkF k t j h).length = h.length := mixL_length _ _ _
attribute [local irreducible] upTo mixL wdL shconstantsL shfirstL fillL
set_option maxRecDepth 20000 in
set_option maxHeartbeats 2000000 in
theorem sum_any (s : List UInt8) (w : World) (hs : s.length ≤ 1000000) :
  Calls Tryz.prog 55 #[.string ⟨s.toArray⟩] w fun e w' => e = .returned (.agg (u8s (shaK s)).toArray) ∧ Below w.heap.size w w' := by
 have HFill := Lib.hid (fun w => fill_any s w hs)
 have htl := fillL_length s
 have htm := fillL_mod s
 have hshp : shPad s.length < 64 := by rw [shPad]; omega
 have hkl := shconstantsL_length
 have hfl := shfirstL_length
 have HC := Lib.hid (fun w => shconstants_any w)
 have HF := Lib.hid (fun w => shfirst_any w)
 have hsha : shaK s = bigL (upTo (blkF shconstantsL (fillL s)) ((fillL s).length / 64) shfirstL) := rfl
 rw [hsha]
 clear hsha
 obtain ⟨k, hk⟩ : ∃ k, shconstantsL = k := ⟨_, rfl⟩
 obtain ⟨f, hf⟩ : ∃ f, shfirstL = f := ⟨_, rfl⟩
 obtain ⟨t, ht⟩ : ∃ t, fillL s = t := ⟨_, rfl⟩
 rw [hk] at HC hkl ⊢
 rw [hf] at HF hfl ⊢
 rw [ht] at HFill htl htm ⊢
 clear hk hf ht
 obtain ⟨N, hN⟩ : ∃ N, t.length / 64 = N := ⟨_, rfl⟩
 have htN : t.length = 64 * N := by omega
 have hNb : N ≤ 16000 := by omega
 rw [hN]
 clear hN htm htl hshp hs
 go_enter Tryz.func55, Tryz.ntmps55
 go_wp2_with fail
 refine (HC.out _).mono ?_
 rintro e w1 ⟨rfl, b1⟩
 have rR1 : row w1 w.heap.size = (zeros 32 (.int .u8 0)).toArray := by rw [row_below b1 (by simp)]; simp [go_sem]
 have z1 : w.heap.size < w1.heap.size := by have := b1.size; simp at this; omega
 replace b1 := below_of b1 (show Below (w).heap.size w _ from by (repeat (first | exact Below.refl _ _ | refine Below.al ?_ _ | refine Below.drew ?_ | refine Below.sr ?_ _ | refine Below.sc ?_ _))) (by first | (simp; done) | (simp; omega) | omega)
 go_wp2_with fail
 refine (HF.out _).mono ?_
 rintro e w2 ⟨rfl, b2⟩
 have rR2 := (row_below b2 (by omega)).trans rR1
 have z2 : w.heap.size < w2.heap.size := by have := b2.size; omega
 have bb2 : Below w.heap.size w w2 := Below.trans b1 (b2.mono (by omega))
 clear HC HF b2 rR1 b1 z1
 go_wp2_with fail
 refine (HFill.out _).mono ?_
 rintro e w3 ⟨rfl, b3⟩
 have z3 := b3.size
 simp only [alloc_sizeW] at z3
 have rK3 : row w3 w2.heap.size = (u32s k).toArray := by
  rw [row_below b3 (by simp only [alloc_sizeW]; omega), row_alloc_past _ _ (by simp only [alloc_sizeW]; omega), row_alloc_at _ _ _ rfl]
 have rH3 : row w3 (w2.heap.size + 1) = (u32s f).toArray := by
  rw [row_below b3 (by simp only [alloc_sizeW]; omega), row_alloc_at _ _ _ (by simp only [alloc_sizeW])]
 have rR3 : row w3 w.heap.size = (zeros 32 (.int .u8 0)).toArray := by
  rw [row_below b3 (by simp only [alloc_sizeW]; omega), row_alloc_past _ _ (by simp only [alloc_sizeW]; omega), row_alloc_past _ _ (by omega)]
  exact rR2
 have bb3 : Below w.heap.size w w3 := Below.trans (Below.alloc (Below.alloc bb2 (by omega) _) (by simp only [alloc_sizeW]; omega) _) (b3.mono (by simp only [alloc_sizeW]; omega))
 clear b3 HFill rR2 bb2
 go_wp2_with fail
 go_loopw [5] (fun v wr => ∃ j : Nat, j ≤ N ∧ v = .string ⟨(t.drop (64 * j)).toArray⟩ ∧ row wr (w2.heap.size + 1) = (u32s (upTo (blkF k t) j f)).toArray ∧ row wr w2.heap.size = (u32s k).toArray ∧ row wr w.heap.size = (zeros 32 (.int .u8 0)).toArray ∧ w2.heap.size + 1 < wr.heap.size ∧ Below w.heap.size w wr) (fun v _ => match v with | .string b => b.size | _ => 0)
 case atStart => exact ⟨0, by omega, by simp, by rw [upTo]; exact rH3, rK3, rR3, by omega, bb3⟩
 case round =>
  clear rH3 rK3 rR3 bb3 z3
  obtain ⟨j, hj, rfl, hH, hK, hR, hz, hbel⟩ := hrel
  obtain ⟨L, hL⟩ : ∃ L, upTo (blkF k t) j f = L := ⟨_, rfl⟩
  have hLl : L.length = 8 := by rw [← hL, upTo_len (blkF_length k t), hfl]
  rw [hL] at hH
  have HL := Lib.hid hL
  clear hL
  obtain ⟨T, hT⟩ : ∃ T, t.drop (64 * j) = T := ⟨_, rfl⟩
  have hTl : T.length = 64 * (N - j) := by rw [← hT, List.length_drop, htN]; omega
  have hTd : t.drop (64 * (j + 1)) = T.drop 64 := by rw [← hT, List.drop_drop]; congr 1
  rw [hT]
  have HT := Lib.hid hT
  have HTD := Lib.hid hTd
  clear hT hTd
  by_cases hlt : j < N
  ·
   have hT64 : 64 ≤ T.length := by omega
   have hTI : (64 : Int) ≤ T.length := by omega
   have hTn : T.isEmpty = false := by
    cases T with
    | nil => simp at hT64
    | cons a T => rfl
   have HW := Lib.hid (fun w => words_any (T.take 64) w (by simp; omega))
   have HX := Lib.hid (fun w => mixed_any L (wdL (T.take 64)) k w hLl (wdL_length _) hkl)
   have hwl := wdL_length (T.take 64)
   have hml := mixL_length L (wdL (T.take 64)) k
   obtain ⟨x, hx⟩ : ∃ x, wdL (T.take 64) = x := ⟨_, rfl⟩
   rw [hx] at HW HX hwl hml
   obtain ⟨M, hM⟩ : ∃ M, mixL L x k = M := ⟨_, rfl⟩
   rw [hM] at HX hml
   rw [hLl] at hml
   have HB := Lib.hid (show blkF k t j L = M by rw [blkF, HT.out, hx, hM])
   have HTl := Lib.hid hTl
   clear hx hM hTl
   go_wp2_with fail
   refine wp_region_beginK 6 [(w2.heap.size, (u32s k).toArray), (w2.heap.size + 1, (u32s L).toArray)] [(w2.heap.size, (u32s k).toArray)] rfl (by simp only [Rws]; (repeat (first | exact trivial | refine ⟨(by first | assumption | (simp [go_sem, *]; done)), (by first | omega | (simp; done) | (simp; omega)), ?_⟩))) (fun hS => ?_)
   refine kp 0 hS ?_
   refine kp 1 hS ?_
   refine kp 2 hS ?_
   refine kp 4 hS ?_
   refine wpAnyK_take (i := 3) (v := ?_) (by simp only [List.getElem?_toArray, List.getElem?_cons_succ, List.getElem?_cons_zero]; rfl) (by kernel_rfl) (by kernel_rfl) (by kernel_rfl) (by kernel_rfl) (by first | exact fun _ _ _ h => h | exact fun _ _ _ h => by cases h.1) (Rws.grow _) (Or.inl ⟨by rfl, ?_⟩) hS ?_
   rotate_left
   ·
    intro w' hS'
    simp only [Rws] at hS'
    go_simp
    with_reducible refine (HW.out _).mono ?_
    rintro e w'' ⟨rfl, hb⟩
    refine ⟨_, rfl, ?_, hb⟩
    rfl
   (try simp only [Act.put, List.setIfInBounds_toArray, List.set_cons_zero, List.set_cons_succ])
   refine wpAnyK_take (i := 5) (v := ?_) (by simp only [List.getElem?_toArray, List.getElem?_cons_succ, List.getElem?_cons_zero]; rfl) (by kernel_rfl) (by kernel_rfl) (by kernel_rfl) (by kernel_rfl) (by first | exact fun _ _ _ h => h | exact fun _ _ _ h => by cases h.1) (Rws.grow _) (Or.inl ⟨by rfl, ?_⟩) hS ?_
   rotate_left
   ·
    intro w' hS'
    simp only [Rws] at hS'
    go_simp
    with_reducible refine (HX.out _).mono ?_
    rintro e w'' ⟨rfl, hb⟩
    refine ⟨_, rfl, ?_, hb⟩
    rfl
   (try simp only [Act.put, List.setIfInBounds_toArray, List.set_cons_zero, List.set_cons_succ])
   refine wpAnyK_store (k := 6) (by simp only [List.getElem?_toArray, List.getElem?_cons_succ, List.getElem?_cons_zero]; rfl) rfl rfl (by kernel_rfl) (fun u1 hu1 => ?_)
   have zu : wr.heap.size ≤ u1.heap.size := by have := hu1.size; exact this
   have ru1 : row u1 (w2.heap.size + 1) = (u32s L).toArray := by rw [row_below hu1 (by show _ < wr.heap.size; omega)]; exact hH
   have rk1 : row u1 w2.heap.size = (u32s k).toArray := by rw [row_below hu1 (by show _ < wr.heap.size; omega)]; exact hK
   have rr1 : row u1 w.heap.size = (zeros 32 (.int .u8 0)).toArray := by rw [row_below hu1 (by show _ < wr.heap.size; omega)]; exact hR
   have bu1 : Below w.heap.size w u1 := Below.trans (Below.drew hbel) (hu1.mono (by show _ ≤ wr.heap.size; omega))
   refine ⟨u1.setRow (w2.heap.size + 1) (u32s M).toArray, by go_simp, ⟨by rw [row_setRow_other _ _ _ (by omega)]; exact rk1, by simp; omega, trivial⟩, fun hS => ?_⟩
   refine wpAnyR_done (by kernel_rfl) (fun wN hN => ?_) _
   have zN := hN.size
   rw [setRow_size] at zN
   have hHN : row wN (w2.heap.size + 1) = (u32s M).toArray := by
    rw [row_below hN (by rw [setRow_size]; omega)]
    exact row_setRow_same (by rw [ru1]; simp; omega) (by rw [ru1]; simp; omega)
   have hKN : row wN w2.heap.size = (u32s k).toArray := by
    rw [row_below hN (by rw [setRow_size]; omega), row_setRow_other _ _ _ (by omega)]
    exact rk1
   have hRN : row wN w.heap.size = (zeros 32 (.int .u8 0)).toArray := by
    rw [row_below hN (by rw [setRow_size]; omega), row_setRow_other _ _ _ (by omega)]
    exact rr1
   have bN : Below w.heap.size w wN := Below.trans (Below.setRow bu1 (by omega) _) (hN.mono (by rw [setRow_size]; omega))
   clear hN bu1 rr1 rk1 ru1 hS hu1 hH hK hR hbel
   go_wp2_with fail
   go_roundw
   case rel => exact ⟨j + 1, by omega, by rw [HTD.out], by rw [upTo, HL.out, HB.out]; exact hHN, hKN, hRN, by omega, bN⟩
   case measure =>
    show (T.drop 64).toArray.size < T.toArray.size
    simp
    omega
  ·
   obtain rfl : j = N := by omega
   have hTn : T.isEmpty = true := by
    cases T with
    | nil => rfl
    | cons a T => simp at hTl
   clear hTl
   have hzz : w2.heap.size + 1 < wr.heap.size := hz
   have bL : bigL L = bigL (upTo (blkF k t) j f) := by rw [HL.out]
   have HBL := Lib.hid bL
   have hol := bigL_length L
   clear hlt hj bL
   go_wp2_with fail
   obtain ⟨V, hVe⟩ : ∃ V, wr.heap.size = V := ⟨_, rfl⟩
   have hH1 : row (wr.alloc (.cells (zeros 32 (.int .u8 0)).toArray 5)) (w2.heap.size + 1) = (u32s L).toArray := by rw [row_alloc_past _ _ (by omega)]; exact hH
   have hH0 := Lib.hid hH
   go_loopw [22] (fun i wq => ∃ m : Nat, m ≤ 32 ∧ i = .int .i64 m ∧ row wq V = (u8s (upTo (bigF L) m (List.replicate 32 0))).toArray ∧ row wq w.heap.size = (zeros 32 (.int .u8 0)).toArray ∧ row wq (w2.heap.size + 1) = (u32s L).toArray ∧ V < wq.heap.size ∧ Below w.heap.size w wq) (fun i _ => 32 - (intOf i).toNat)
   case atStart =>
    refine ⟨0, by omega, rfl, ?_, ?_, ?_, by simp; omega, Below.alloc hbel (by omega) _⟩
    ·
     rw [upTo, u8s_zeros, ← hVe]
     exact row_alloc_at _ _ _ rfl
    ·
     rw [row_alloc_past _ _ (by omega)]
     exact hR
    ·
     rw [row_alloc_past _ _ (by omega)]
     exact hH
   case round =>
    clear hH1 hR hbel hH
    obtain ⟨m, hm, rfl, hV, hR, hS, hz, hbel⟩ := hrel
    obtain ⟨B, hB⟩ : ∃ B, upTo (bigF L) m (List.replicate 32 0) = B := ⟨_, rfl⟩
    have hBl : B.length = 32 := by rw [← hB, upTo_len8 (bigF_length _)]; simp
    rw [hB] at hV
    have HB := Lib.hid hB
    clear hB
    by_cases hlt : m < 32
    ·
     have h1 : (m : Int) < 32 := by omega
     have h3 : m < B.length := by omega
     obtain ⟨q, hq⟩ : ∃ q, m / 4 = q := ⟨_, rfl⟩
     obtain ⟨r, hr⟩ : ∃ r, m % 4 = r := ⟨_, rfl⟩
     have e1 : (m : Int) / 4 = (q : Int) := by omega
     have e2 : (m : Int) % 4 = (r : Int) := by omega
     obtain ⟨p, hp⟩ : ∃ p, 24 - 8 * r = p := ⟨_, rfl⟩
     obtain ⟨p0, hp0⟩ : ∃ p, 8 * r = p := ⟨_, rfl⟩
     have e3 : (8 : Int) * (r : Int) = (p0 : Int) := by omega
     have e4 : (24 : Int) - (p0 : Int) = (p : Int) := by omega
     have h11 : p < 32 := by omega
     have HP := Lib.hid hp
     have h8 : q < L.length := by omega
     have h9 : (q : Int) < 8 := by omega
     have h9' : q < 8 := by omega
     have h10 : r < 4 := by omega
     have hp0b : p0 < 25 := by omega
     have HQ := Lib.hid hq
     have HR := Lib.hid hr
     clear hq hr hp hp0
     go_wp2_with fail
     go_roundw
     case rel =>
      have e : u8s (upTo (bigF L) (m + 1) (List.replicate 32 0)) = (u8s B).set m (.int .u8 (L[q] / 2 ^ p % 256)) := by
       rw [upTo, HB.out, u8s_set]
       unfold bigF
       rw [HQ.out, HR.out, HP.out, getD_elem _ _ _ h8]
      refine ⟨m + 1, by omega, rfl, ?_, by (try show row (World.setRow _ _ _) _ = _); rw [row_setRow_other _ _ _ (by omega)]; exact hR, by (try show row (World.setRow _ _ _) _ = _); rw [row_setRow_other _ _ _ (by omega)]; exact hS, by simp; omega, Below.setRow hbel (by omega) _⟩
      rw [e]
      exact row_setRow_same (by rw [hV]; simp; omega) (by rw [hV]; simp)
     case measure => simp [intOf]; omega
    ·
     obtain rfl : m = 32 := by omega
     rw [show ((32 : Nat) : Int) = 32 from rfl]
     have e : B = bigL (upTo (blkF k t) j f) := by rw [← HBL.out, bigL]; exact HB.out.symm
     rw [e] at hBl hV
     go_wp2_with fail
     have hfin := row_setRow_same (w := wr) (g := w.heap.size) (c := (u8s (bigL (upTo (blkF k t) j f))).toArray) (by rw [hR]; simp) (by rw [hR]; simp [hBl])
     (try simp only [Exit.inBlock, Exit.then])
     refine bodyPost_ret (results_1 rfl (resOk_row rfl ?_)) rfl ?_
     ·
      rw [hfin]
      simp [hBl]
     refine ⟨by rw [hfin], ?_⟩
     exact Below.setRow hbel (by omega) _
end
end Go.Proofs.YtakkicppgkmokaaGreat
