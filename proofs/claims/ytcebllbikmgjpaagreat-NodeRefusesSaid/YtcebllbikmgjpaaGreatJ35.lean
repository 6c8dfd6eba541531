/- Texts of this proof, merged: ShaF, ShaS, Mac, MacS, MacK, MacL, Noi, NoiT, NoiC, NoiB, NoiM, NoiS, NoiG. -/
import Derived.Test.YtcebllbikmgjpaaGreatJ32
import Derived.Test.YtcebllbikmgjpaaGreatJ33
import Derived.Test.YtcebllbikmgjpaaGreatChaMJ
import Derived.Test.YtcebllbikmgjpaaGreatJ24
set_option linter.unusedSimpArgs false
set_option linter.unusedVariables false
set_option maxHeartbeats 8000000
set_option maxRecDepth 20000
namespace Go.Proofs.YtcebllbikmgjpaaGreat
section
open Go.RowKit
def shPad (n : Nat) : Nat := (120 - (n + 1) % 64) % 64
def fillF (n : Nat) (i : Nat) (l : List UInt8) : List UInt8 := l ++ [byteI ((n : Int) / 2 ^ (8 * (7 - i)))]
def fillL (s : List UInt8) : List UInt8 := upTo (fillF (8 * s.length)) 8 (s ++ ([128] ++ List.replicate (shPad s.length) 0))
theorem fillF_length (n i : Nat) (l : List UInt8) : (fillF n i l).length = l.length + 1 := by simp [fillF]
theorem upTo_fill (n : Nat) (l : List UInt8) (i : Nat) : (upTo (fillF n) i l).length = l.length + i := by
 induction i with
 | zero => rfl
 | succ i ih => rw [upTo, fillF_length, ih]; omega
theorem fillL_length (s : List UInt8) : (fillL s).length = s.length + 9 + shPad s.length := by
 rw [fillL, upTo_fill]
 simp
 omega
theorem fillL_mod (s : List UInt8) : (fillL s).length % 64 = 0 := by
 rw [fillL_length, shPad]
 omega
theorem rep0_any (q : Nat) (w : World) (hq : q < 64) :
  Calls Tryz.prog 244 #[.string ⟨#[0]⟩, .int .i64 q] w fun e w' => e = .returned (.string ⟨(List.replicate q (0 : UInt8)).toArray⟩) ∧ Below w.heap.size w w' := by
 refine (Tryz.strings_Repeat ⟨#[0]⟩ q w (by omega) (by show 1 * q ≤ _; omega)).mono ?_
 rintro e w' ⟨rfl, h⟩
 refine ⟨?_, h⟩
 rw [show (ByteArray.mk #[(0 : UInt8)]).data.toList = [0] from rfl, repeat0]
attribute [local irreducible] upTo
theorem fill_any (s : List UInt8) (w : World) (hs : s.length ≤ 1000000) :
  Calls Tryz.prog 220 #[.string ⟨s.toArray⟩] w fun e w' => e = .returned (.string ⟨(fillL s).toArray⟩) ∧ Below w.heap.size w w' := by
 have hsI : (s.length : Int) ≤ 1000000 := by omega
 go_enter Tryz.func220, Tryz.ntmps220
 obtain ⟨q1, hq1⟩ : ∃ q, (s.length + 1) % 64 = q := ⟨_, rfl⟩
 obtain ⟨q, hq⟩ : ∃ q, (120 - q1) % 64 = q := ⟨_, rfl⟩
 have e1 : ((s.length : Int) + 1) % 64 = (q1 : Int) := by omega
 have e2 : (120 - (q1 : Int)) % 64 = (q : Int) := by omega
 have e3 : (120 - ((s.length : Int) + 1)) % 64 = (q : Int) := by omega
 have hpad : shPad s.length = q := by rw [shPad, hq1, hq]
 have hq1b : (q1 : Int) < 64 := by omega
 have hqb : q < 64 := by omega
 have HP := h_ hpad
 clear hpad hq hq1
 go_wp2_with fail
 refine (rep0_any q _ (by omega)).mono ?_
 rintro e w1 ⟨rfl, b1⟩
 replace b1 := below_of b1 (show Below (w).heap.size w _ from by (repeat (first | exact Below.refl _ _ | refine Below.al ?_ _ | refine Below.drew ?_ | refine Below.sr ?_ _ | refine Below.sc ?_ _))) (by first | (simp; done) | (simp; omega) | omega)
 obtain ⟨n, hn⟩ : ∃ n, 8 * s.length = n := ⟨_, rfl⟩
 have hnI : (8 : Int) * s.length = (n : Int) := by omega
 have hnb : n ≤ 8000000 := by omega
 have HN := h_ hn
 clear hn
 go_wp2_with fail
 obtain ⟨l0, hl0⟩ : ∃ l0, s ++ ([128] ++ List.replicate q 0) = l0 := ⟨_, rfl⟩
 have hl0b : l0.length ≤ 1000065 := by rw [← hl0]; simp; omega
 have hl0' : s ++ 128 :: List.replicate q 0 = l0 := hl0
 have hL0 := h_ hl0
 try rw [hl0']
 go_loopw [4, 5] (fun v b wr => ∃ i : Nat, i ≤ 8 ∧ v = .string ⟨(upTo (fillF n) i l0).toArray⟩ ∧ b = .int .i64 (7 - (i : Int)) ∧ Below w.heap.size w wr) (fun _ b _ => (intOf b + 1).toNat)
 case atStart => exact ⟨0, by omega, by rw [upTo, ← hL0.out]; congr 1; apply ByteArray.ext; simp, rfl, b1⟩
 case round =>
  obtain ⟨i, hi, rfl, rfl, hbel⟩ := hrel
  have hlen := upTo_fill n l0 i
  have hsucc := h_ (show upTo (fillF n) (i + 1) l0 = upTo (fillF n) i l0 ++ [byteI ((n : Int) / 2 ^ (8 * (7 - i)))] by rw [upTo, fillF])
  obtain ⟨t, ht⟩ : ∃ t, upTo (fillF n) i l0 = t := ⟨_, rfl⟩
  rw [ht] at hlen hsucc ⊢
  have HT := h_ ht
  clear ht
  by_cases hlt : i < 8
  ·
   obtain ⟨c, hc⟩ : ∃ c, 7 - i = c := ⟨_, rfl⟩
   have f1 : (7 : Int) - (i : Int) = (c : Int) := by omega
   obtain ⟨d, hd⟩ : ∃ d, 8 * c = d := ⟨_, rfl⟩
   have f2 : (8 : Int) * (c : Int) = (d : Int) := by omega
   have f3 : d < 64 := by omega
   rw [f1]
   rw [hc, hd] at hsucc
   have tlI : (t.length : Int) ≤ 1000073 := by omega
   have hcI : (7 : Int) - ((i + 1 : Nat) : Int) = (c : Int) - 1 := by omega
   have HCI := h_ hcI
   have HS := h_ hsucc.out
   clear hlen hc hd hcI hsucc
   go_wp2_with fail
   go_roundw
   case rel => exact ⟨i + 1, by omega, by rw [HS.out]; rfl, by rw [HCI.out], Below.alloc hbel (by have := hbel.size; omega) _⟩
   case measure => simp [intOf]
  ·
   obtain rfl : i = 8 := by omega
   rw [show (7 : Int) - ((8 : Nat) : Int) = -1 by decide]
   have e : t = fillL s := by rw [fillL, HN.out, HP.out, hL0.out]; exact HT.out.symm
   go_wp2_with fail
   go_ret
   exact ⟨by rw [← e]; rfl, hbel⟩
end
section
open Go.RowKit
def blkF (k : List Int) (t : List UInt8) (j : Nat) (h : List Int) : List Int := mixL h (wdL ((t.drop (64 * j)).take 64)) k
def blksL (t : List UInt8) : List Int := upTo (blkF shconstantsL t) (t.length / 64) shfirstL
def bigF (h : List Int) (i : Nat) (b : List UInt8) : List UInt8 := b.set i (byteI (h.getD (i / 4) 0 / 2 ^ (24 - 8 * (i % 4))))
def bigL (h : List Int) : List UInt8 := upTo (bigF h) 32 (List.replicate 32 0)
def shaK (s : List UInt8) : List UInt8 := bigL (blksL (fillL s))
theorem bigF_length (h : List Int) (i : Nat) (b : List UInt8) : (bigF h i b).length = b.length := by simp [bigF]
theorem bigL_length (h : List Int) : (bigL h).length = 32 := by rw [bigL, upTo_len8 (bigF_length h)]; simp
theorem shaK_length (s : List UInt8) : (shaK s).length = 32 := bigL_length _
theorem blkF_length (k : List Int) (t : List UInt8) (j : Nat) (h : List Int) : (blkF k t j h).length = h.length := mixL_length _ _ _
attribute [local irreducible] upTo mixL wdL shconstantsL shfirstL fillL
theorem sum_any (s : List UInt8) (w : World) (hs : s.length ≤ 1000000) :
  Calls Tryz.prog 193 #[.string ⟨s.toArray⟩] w fun e w' => e = .returned (.agg (u8s (shaK s)).toArray) ∧ Below w.heap.size w w' := by
 have HFill := h_ (fun w => fill_any s w hs)
 have htl := fillL_length s
 have htm := fillL_mod s
 have hshp : shPad s.length < 64 := by rw [shPad]; omega
 have hkl := shconstantsL_length
 have hfl := shfirstL_length
 have HC := h_ (fun w => shconstants_any w)
 have HF := h_ (fun w => shfirst_any w)
 have hsha : shaK s = bigL (upTo (blkF shconstantsL (fillL s)) ((fillL s).length / 64) shfirstL) := rfl
 rw [hsha]
 clear hsha
 obtain ⟨k, hk⟩ : ∃ k, shconstantsL = k := ⟨_, rfl⟩
 obtain ⟨f, hf⟩ : ∃ f, shfirstL = f := ⟨_, rfl⟩
 obtain ⟨t, ht⟩ : ∃ t, fillL s = t := ⟨_, rfl⟩
 rw [hk] at HC hkl ⊢
 rw [hf] at HF hfl ⊢
 rw [ht] at HFill htl htm ⊢
 clear hk hf ht
 obtain ⟨N, hN⟩ : ∃ N, t.length / 64 = N := ⟨_, rfl⟩
 have htN : t.length = 64 * N := by omega
 have hNb : N ≤ 16000 := by omega
 rw [hN]
 clear hN htm htl hshp hs
 go_enter Tryz.func193, Tryz.ntmps193
 go_wp2_with fail
 refine (HC.out _).mono ?_
 rintro e w1 ⟨rfl, b1⟩
 have rR1 : row w1 w.heap.size = (zeros 32 (.int .u8 0)).toArray := by rw [row_below b1 (by simp)]; simp [go_sem]
 have z1 : w.heap.size < w1.heap.size := by have := b1.size; simp at this; omega
 replace b1 := below_of b1 (show Below (w).heap.size w _ from by (repeat (first | exact Below.refl _ _ | refine Below.al ?_ _ | refine Below.drew ?_ | refine Below.sr ?_ _ | refine Below.sc ?_ _))) (by first | (simp; done) | (simp; omega) | omega)
 go_wp2_with fail
 refine (HF.out _).mono ?_
 rintro e w2 ⟨rfl, b2⟩
 have rR2 := (row_below b2 (by omega)).trans rR1
 have z2 : w.heap.size < w2.heap.size := by have := b2.size; omega
 have bb2 : Below w.heap.size w w2 := Below.trans b1 (b2.mono (by omega))
 clear HC HF b2 rR1 b1 z1
 go_wp2_with fail
 refine (HFill.out _).mono ?_
 rintro e w3 ⟨rfl, b3⟩
 have z3 := b3.size
 simp only [alloc_sizeW] at z3
 have rK3 : row w3 w2.heap.size = (u32s k).toArray := by
  rw [row_below b3 (by simp only [alloc_sizeW]; omega), row_alloc_past _ _ (by simp only [alloc_sizeW]; omega), row_alloc_at _ _ _ rfl]
 have rH3 : row w3 (w2.heap.size + 1) = (u32s f).toArray := by
  rw [row_below b3 (by simp only [alloc_sizeW]; omega), row_alloc_at _ _ _ (by simp only [alloc_sizeW])]
 have rR3 : row w3 w.heap.size = (zeros 32 (.int .u8 0)).toArray := by
  rw [row_below b3 (by simp only [alloc_sizeW]; omega), row_alloc_past _ _ (by simp only [alloc_sizeW]; omega), row_alloc_past _ _ (by omega)]
  exact rR2
 have bb3 : Below w.heap.size w w3 := Below.trans (Below.alloc (Below.alloc bb2 (by omega) _) (by simp only [alloc_sizeW]; omega) _) (b3.mono (by simp only [alloc_sizeW]; omega))
 clear b3 HFill rR2 bb2
 go_wp2_with fail
 go_loopw [5] (fun v wr => ∃ j : Nat, j ≤ N ∧ v = .string ⟨(t.drop (64 * j)).toArray⟩ ∧ row wr (w2.heap.size + 1) = (u32s (upTo (blkF k t) j f)).toArray ∧ row wr w2.heap.size = (u32s k).toArray ∧ row wr w.heap.size = (zeros 32 (.int .u8 0)).toArray ∧ w2.heap.size + 1 < wr.heap.size ∧ Below w.heap.size w wr) (fun v _ => match v with | .string b => b.size | _ => 0)
 case atStart => exact ⟨0, by omega, by simp, by rw [upTo]; exact rH3, rK3, rR3, by omega, bb3⟩
 case round =>
  clear rH3 rK3 rR3 bb3 z3
  obtain ⟨j, hj, rfl, hH, hK, hR, hz, hbel⟩ := hrel
  obtain ⟨L, hL⟩ : ∃ L, upTo (blkF k t) j f = L := ⟨_, rfl⟩
  have hLl : L.length = 8 := by rw [← hL, upTo_len (blkF_length k t), hfl]
  rw [hL] at hH
  have HL := h_ hL
  clear hL
  obtain ⟨T, hT⟩ : ∃ T, t.drop (64 * j) = T := ⟨_, rfl⟩
  have hTl : T.length = 64 * (N - j) := by rw [← hT, List.length_drop, htN]; omega
  have hTd : t.drop (64 * (j + 1)) = T.drop 64 := by rw [← hT, List.drop_drop]; congr 1
  rw [hT]
  have HT := h_ hT
  have HTD := h_ hTd
  clear hT hTd
  by_cases hlt : j < N
  ·
   have hT64 : 64 ≤ T.length := by omega
   have hTI : (64 : Int) ≤ T.length := by omega
   have hTn : T.isEmpty = false := by
    cases T with
    | nil => simp at hT64
    | cons a T => rfl
   have HW := h_ (fun w => words_any (T.take 64) w (by simp; omega))
   have HX := h_ (fun w => mixed_any L (wdL (T.take 64)) k w hLl (wdL_length _) hkl)
   have hwl := wdL_length (T.take 64)
   have hml := mixL_length L (wdL (T.take 64)) k
   obtain ⟨x, hx⟩ : ∃ x, wdL (T.take 64) = x := ⟨_, rfl⟩
   rw [hx] at HW HX hwl hml
   obtain ⟨M, hM⟩ : ∃ M, mixL L x k = M := ⟨_, rfl⟩
   rw [hM] at HX hml
   rw [hLl] at hml
   have HB := h_ (show blkF k t j L = M by rw [blkF, HT.out, hx, hM])
   have HTl := h_ hTl
   clear hx hM hTl
   go_wp2_with fail
   refine rgK_ 6 [(w2.heap.size, (u32s k).toArray), (w2.heap.size + 1, (u32s L).toArray)] [(w2.heap.size, (u32s k).toArray)] (fun hS => ?_)
   refine kp 0 hS ?_
   refine kp 1 hS ?_
   refine kp 2 hS ?_
   refine kp 4 hS ?_
   refine wpAnyK_take (i := 3) (v := ?_) opt_ kr_ kr_ kr_ kr_ (by first | exact fun _ _ _ h => h | exact fun _ _ _ h => by cases h.1) (Rws.grow _) (Or.inl ⟨by rfl, ?_⟩) hS ?_
   rotate_left
   ·
    intro w' hS'
    simp only [Rws] at hS'
    go_simp
    with_reducible refine (HW.out _).mono ?_
    rintro e w'' ⟨rfl, hb⟩
    refine ⟨_, rfl, ?_, hb⟩
    rfl
   (try simp only [Act.put, List.setIfInBounds_toArray, List.set_cons_zero, List.set_cons_succ])
   refine wpAnyK_take (i := 5) (v := ?_) opt_ kr_ kr_ kr_ kr_ (by first | exact fun _ _ _ h => h | exact fun _ _ _ h => by cases h.1) (Rws.grow _) (Or.inl ⟨by rfl, ?_⟩) hS ?_
   rotate_left
   ·
    intro w' hS'
    simp only [Rws] at hS'
    go_simp
    with_reducible refine (HX.out _).mono ?_
    rintro e w'' ⟨rfl, hb⟩
    refine ⟨_, rfl, ?_, hb⟩
    rfl
   (try simp only [Act.put, List.setIfInBounds_toArray, List.set_cons_zero, List.set_cons_succ])
   refine wpAnyK_store (k := 6) opt_ rfl rfl kr_ (fun u1 hu1 => ?_)
   have zu : wr.heap.size ≤ u1.heap.size := by have := hu1.size; exact this
   have ru1 : row u1 (w2.heap.size + 1) = (u32s L).toArray := by rw [row_below hu1 (by show _ < wr.heap.size; omega)]; exact hH
   have rk1 : row u1 w2.heap.size = (u32s k).toArray := by rw [row_below hu1 (by show _ < wr.heap.size; omega)]; exact hK
   have rr1 : row u1 w.heap.size = (zeros 32 (.int .u8 0)).toArray := by rw [row_below hu1 (by show _ < wr.heap.size; omega)]; exact hR
   have bu1 : Below w.heap.size w u1 := Below.trans (Below.drew hbel) (hu1.mono (by show _ ≤ wr.heap.size; omega))
   refine ⟨u1.setRow (w2.heap.size + 1) (u32s M).toArray, by go_simp, ⟨by rw [row_setRow_other _ _ _ (by omega)]; exact rk1, by simp; omega, trivial⟩, fun hS => ?_⟩
   refine wpAnyR_done kr_ (fun wN hN => ?_) _
   have zN := hN.size
   rw [setRow_size] at zN
   have hHN : row wN (w2.heap.size + 1) = (u32s M).toArray := by
    rw [row_below hN (by rw [setRow_size]; omega)]
    exact row_setRow_same (by rw [ru1]; simp; omega) (by rw [ru1]; simp; omega)
   have hKN : row wN w2.heap.size = (u32s k).toArray := by
    rw [row_below hN (by rw [setRow_size]; omega), row_setRow_other _ _ _ (by omega)]
    exact rk1
   have hRN : row wN w.heap.size = (zeros 32 (.int .u8 0)).toArray := by
    rw [row_below hN (by rw [setRow_size]; omega), row_setRow_other _ _ _ (by omega)]
    exact rr1
   have bN : Below w.heap.size w wN := Below.trans (Below.setRow bu1 (by omega) _) (hN.mono (by rw [setRow_size]; omega))
   clear hN bu1 rr1 rk1 ru1 hS hu1 hH hK hR hbel
   go_wp2_with fail
   go_roundw
   case rel => exact ⟨j + 1, by omega, by rw [HTD.out], by rw [upTo, HL.out, HB.out]; exact hHN, hKN, hRN, by omega, bN⟩
   case measure =>
    show (T.drop 64).toArray.size < T.toArray.size
    simp
    omega
  ·
   obtain rfl : j = N := by omega
   have hTn : T.isEmpty = true := by
    cases T with
    | nil => rfl
    | cons a T => simp at hTl
   clear hTl
   have hzz : w2.heap.size + 1 < wr.heap.size := hz
   have bL : bigL L = bigL (upTo (blkF k t) j f) := by rw [HL.out]
   have HBL := h_ bL
   have hol := bigL_length L
   clear hlt hj bL
   go_wp2_with fail
   obtain ⟨V, hVe⟩ : ∃ V, wr.heap.size = V := ⟨_, rfl⟩
   have hH1 : row (wr.alloc (.cells (zeros 32 (.int .u8 0)).toArray 5)) (w2.heap.size + 1) = (u32s L).toArray := by rw [row_alloc_past _ _ (by omega)]; exact hH
   have hH0 := h_ hH
   go_loopw [22] (fun i wq => ∃ m : Nat, m ≤ 32 ∧ i = .int .i64 m ∧ row wq V = (u8s (upTo (bigF L) m (List.replicate 32 0))).toArray ∧ row wq w.heap.size = (zeros 32 (.int .u8 0)).toArray ∧ row wq (w2.heap.size + 1) = (u32s L).toArray ∧ V < wq.heap.size ∧ Below w.heap.size w wq) (fun i _ => 32 - (intOf i).toNat)
   case atStart =>
    refine ⟨0, by omega, rfl, ?_, ?_, ?_, by simp; omega, Below.alloc hbel (by omega) _⟩
    ·
     rw [upTo, u8s_zeros, ← hVe]
     exact row_alloc_at _ _ _ rfl
    ·
     rw [row_alloc_past _ _ (by omega)]
     exact hR
    ·
     rw [row_alloc_past _ _ (by omega)]
     exact hH
   case round =>
    clear hH1 hR hbel hH
    obtain ⟨m, hm, rfl, hV, hR, hS, hz, hbel⟩ := hrel
    obtain ⟨B, hB⟩ : ∃ B, upTo (bigF L) m (List.replicate 32 0) = B := ⟨_, rfl⟩
    have hBl : B.length = 32 := by rw [← hB, upTo_len8 (bigF_length _)]; simp
    rw [hB] at hV
    have HB := h_ hB
    clear hB
    by_cases hlt : m < 32
    ·
     have h1 : (m : Int) < 32 := by omega
     have h3 : m < B.length := by omega
     obtain ⟨q, hq⟩ : ∃ q, m / 4 = q := ⟨_, rfl⟩
     obtain ⟨r, hr⟩ : ∃ r, m % 4 = r := ⟨_, rfl⟩
     have e1 : (m : Int) / 4 = (q : Int) := by omega
     have e2 : (m : Int) % 4 = (r : Int) := by omega
     obtain ⟨p, hp⟩ : ∃ p, 24 - 8 * r = p := ⟨_, rfl⟩
     obtain ⟨p0, hp0⟩ : ∃ p, 8 * r = p := ⟨_, rfl⟩
     have e3 : (8 : Int) * (r : Int) = (p0 : Int) := by omega
     have e4 : (24 : Int) - (p0 : Int) = (p : Int) := by omega
     have h11 : p < 32 := by omega
     have HP := h_ hp
     have h8 : q < L.length := by omega
     have h9 : (q : Int) < 8 := by omega
     have h9' : q < 8 := by omega
     have h10 : r < 4 := by omega
     have hp0b : p0 < 25 := by omega
     have HQ := h_ hq
     have HR := h_ hr
     clear hq hr hp hp0
     go_wp2_with fail
     go_roundw
     case rel =>
      have e : u8s (upTo (bigF L) (m + 1) (List.replicate 32 0)) = (u8s B).set m (.int .u8 (L[q] / 2 ^ p % 256)) := by
       rw [upTo, HB.out, u8s_set]
       unfold bigF
       rw [HQ.out, HR.out, HP.out, getD_elem _ _ _ h8]
      refine ⟨m + 1, by omega, rfl, ?_, by (try show row (World.setRow _ _ _) _ = _); rw [row_setRow_other _ _ _ (by omega)]; exact hR, by (try show row (World.setRow _ _ _) _ = _); rw [row_setRow_other _ _ _ (by omega)]; exact hS, by simp; omega, Below.setRow hbel (by omega) _⟩
      rw [e]
      exact row_setRow_same (by rw [hV]; simp; omega) (by rw [hV]; simp)
     case measure => simp [intOf]; omega
    ·
     obtain rfl : m = 32 := by omega
     rw [show ((32 : Nat) : Int) = 32 from rfl]
     have e : B = bigL (upTo (blkF k t) j f) := by rw [← HBL.out, bigL]; exact HB.out.symm
     rw [e] at hBl hV
     go_wp2_with fail
     have hfin := row_setRow_same (w := wr) (g := w.heap.size) (c := (u8s (bigL (upTo (blkF k t) j f))).toArray) (by rw [hR]; simp) (by rw [hR]; simp [hBl])
     (try simp only [Exit.inBlock, Exit.then])
     refine bodyPost_ret (results_1 rfl (resOk_row rfl ?_)) rfl ?_
     ·
      rw [hfin]
      simp [hBl]
     refine ⟨by rw [hfin], ?_⟩
     exact Below.setRow hbel (by omega) _
end
section
open Go.RowKit
def filledL (key : List UInt8) : List UInt8 := key ++ List.replicate (64 - key.length) 0
theorem rep0_any2 (q : Nat) (w : World) (hq : q ≤ 64) :
  Calls Tryz.prog 244 #[.string ⟨#[0]⟩, .int .i64 q] w fun e w' => e = .returned (.string ⟨(List.replicate q (0 : UInt8)).toArray⟩) ∧ Below w.heap.size w w' := by
 refine (Tryz.strings_Repeat ⟨#[0]⟩ q w (by omega) (by show 1 * q ≤ _; omega)).mono ?_
 rintro e w' ⟨rfl, h⟩
 refine ⟨?_, h⟩
 rw [show (ByteArray.mk #[(0 : UInt8)]).data.toList = [0] from rfl, repeat0]
theorem filled_any (key : List UInt8) (w : World) (hk : key.length ≤ 64) :
  Calls Tryz.prog 275 #[.string ⟨key.toArray⟩] w fun e w' => e = .returned (.string ⟨(filledL key).toArray⟩) ∧ Below w.heap.size w w' := by
 have hkI : (key.length : Int) ≤ 64 := by omega
 have hkI2 : ¬ (64 : Int) < (key.length : Int) := by omega
 unfold filledL
 obtain ⟨q, hq⟩ : ∃ q, 64 - key.length = q := ⟨_, rfl⟩
 have e1 : (64 : Int) - (key.length : Int) = (q : Int) := by omega
 have hqb : q ≤ 64 := by omega
 rw [hq]
 clear hq
 go_enter Tryz.func275, Tryz.ntmps275
 go_wp2_with fail
 refine (rep0_any2 q _ hqb).mono ?_
 rintro e w1 ⟨rfl, b1⟩
 go_wp2_with fail
 go_ret
 refine ⟨?_, b1⟩
 show Ending.returned (.string _) = Ending.returned (.string _)
 congr 2
def xF (b : UInt8) (i : Nat) (l : List UInt8) : List UInt8 := l.set i (l.getD i 0 ^^^ b)
def moneL (s : List UInt8) (b : UInt8) : List UInt8 := upTo (xF b) s.length s
theorem xF_length (b : UInt8) (i : Nat) (l : List UInt8) : (xF b i l).length = l.length := by simp [xF]
theorem moneL_length (s : List UInt8) (b : UInt8) : (moneL s b).length = s.length := upTo_len8 (xF_length b) _ _
attribute [local irreducible] upTo
theorem one_any (s : List UInt8) (b : UInt8) (w : World) (hs : s.length ≤ 1000) :
  Calls Tryz.prog 276 #[.string ⟨s.toArray⟩, .int .u8 b.toNat] w fun e w' => e = .returned (.string ⟨(moneL s b).toArray⟩) ∧ Below w.heap.size w w' := by
 have hsI : (s.length : Int) ≤ 1000 := by omega
 go_enter Tryz.func276, Tryz.ntmps276
 go_wp2_with fail
 obtain ⟨sp, hsp⟩ : ∃ x, spareOf w ⟨s.toArray⟩ 5 = x := ⟨_, rfl⟩
 rw [hsp]
 go_loopw [11] (fun i wr => ∃ m : Nat, i = .int .i64 m ∧ m ≤ s.length ∧ row wr w.heap.size = (u8s (upTo (xF b) m s) ++ zeros sp (.int .u8 0)).toArray ∧ w.heap.size < wr.heap.size ∧ Below w.heap.size w wr) (fun i _ => s.length - (intOf i).toNat)
 case atStart =>
  refine ⟨0, rfl, by omega, ?_, by simp, blw_⟩
  rw [upTo, row_drew, row_alloc_mark _ _ _ _ _ (by simp) (by simp)]
 case round =>
  clear hsp
  obtain ⟨m, rfl, hm, hV, hz, hbel⟩ := hrel
  obtain ⟨L, hL⟩ : ∃ L, upTo (xF b) m s = L := ⟨_, rfl⟩
  have hLl : L.length = s.length := by rw [← hL, upTo_len8 (xF_length b)]
  rw [hL] at hV
  have HL := h_ hL
  clear hL
  by_cases hlt : m < s.length
  ·
   have h1 : (m : Int) < s.length := by omega
   have h3 : m < L.length := by omega
   have h4 : m < s.length + sp := by omega
   obtain ⟨v, hv⟩ : ∃ v, L[m] ^^^ b = v := ⟨_, rfl⟩
   have hxor := xor_u8 L[m] b
   rw [hv] at hxor
   have hset := u8s_setB L m v
   have HX := h_ (show xF b m L = L.set m v by rw [xF, getD_elem _ _ _ h3, hv])
   clear hv
   go_wp2_with fail
   go_roundw
   case rel =>
    rw [setCell_row _ (by rw [hV]; simp; omega), hV]
    refine ⟨m + 1, rfl, by omega, ?_, by simp; omega, Below.setRow hbel (by omega) _⟩
    rw [row_setRow_same (by rw [hV]; simp; omega) (by rw [hV]; simp), upTo, HL.out, HX.out, ← hset]
    rw [List.setIfInBounds_toArray, set_left _ _ _ _ (by simpa using h3)]
   case measure => simp [intOf]; omega
  ·
   have h1 : ¬ (m : Int) < s.length := by omega
   have hms : m = s.length := by omega
   have e : L = moneL s b := by rw [moneL, ← hms]; exact HL.out.symm
   have hol := moneL_length s b
   rw [e] at hV
   clear hLl HL e
   subst hms
   go_wp2_with fail
   go_ret
   exact ⟨rfl, hbel⟩
end
section
open Go.RowKit
def macL (key s : List UInt8) : List UInt8 := shaK (moneL (filledL key) 92 ++ shaK (moneL (filledL key) 54 ++ s))
theorem macL_length (key s : List UInt8) : (macL key s).length = 32 := shaK_length _
theorem filledL_length (key : List UInt8) (h : key.length ≤ 64) : (filledL key).length = 64 := by simp [filledL]; omega
attribute [local irreducible] shaK moneL filledL
theorem mac_any (key s : List UInt8) (w : World) (hk : key.length ≤ 64) (hs : s.length ≤ 10000) :
  Calls Tryz.prog 261 #[.string ⟨key.toArray⟩, .string ⟨s.toArray⟩] w fun e w' => e = .returned (.agg (u8s (macL key s)).toArray) ∧ Below w.heap.size w w' := by
 have HF := h_ (fun w => filled_any key w hk)
 have hfl := filledL_length key hk
 have hm : macL key s = shaK (moneL (filledL key) 92 ++ shaK (moneL (filledL key) 54 ++ s)) := rfl
 rw [hm]
 obtain ⟨k, hkk⟩ : ∃ k, filledL key = k := ⟨_, rfl⟩
 rw [hkk] at HF hfl ⊢
 clear hkk hm
 have HA := h_ (fun w => one_any k 54 w (by omega))
 have hB92 : ∀ w : World, Calls Tryz.prog 276 #[.string ⟨k.toArray⟩, .int .u8 92] w fun e w' => e = .returned (.string ⟨(moneL k 92).toArray⟩) ∧ Below w.heap.size w w' := fun w => one_any k 92 w (by omega)
 have HB := h_ hB92
 have hal := moneL_length k 54
 have hbl := moneL_length k 92
 obtain ⟨a, ha⟩ : ∃ a, moneL k 54 = a := ⟨_, rfl⟩
 obtain ⟨b, hb⟩ : ∃ b, moneL k 92 = b := ⟨_, rfl⟩
 rw [ha] at HA hal ⊢
 rw [hb] at HB hbl ⊢
 rw [hfl] at hal hbl
 clear ha hb hB92
 have HS := h_ (fun w => sum_any (a ++ s) w (by simp; omega))
 have hxl := shaK_length (a ++ s)
 obtain ⟨x, hx⟩ : ∃ x, shaK (a ++ s) = x := ⟨_, rfl⟩
 rw [hx] at HS hxl ⊢
 clear hx
 have HT := h_ (fun w => sum_any (b ++ x) w (by simp; omega))
 have hyl := shaK_length (b ++ x)
 obtain ⟨y, hy⟩ : ∃ y, shaK (b ++ x) = y := ⟨_, rfl⟩
 rw [hy] at HT hyl ⊢
 clear hy
 have hsI : (s.length : Int) ≤ 10000 := by omega
 go_enter Tryz.func261, Tryz.ntmps261
 go_wp2_with fail
 refine (HF.out _).mono ?_
 rintro e w1 ⟨rfl, b1⟩
 have rR1 : row w1 w.heap.size = (zeros 32 (.int .u8 0)).toArray := by rw [row_below b1 (by simp only [alloc_sizeW]; omega)]; simp [go_sem]
 have z1 : w.heap.size < w1.heap.size := by have := b1.size; simp only [alloc_sizeW] at this; omega
 replace b1 := below_of b1 (show Below (w).heap.size w _ from by (repeat (first | exact Below.refl _ _ | refine Below.al ?_ _ | refine Below.drew ?_ | refine Below.sr ?_ _ | refine Below.sc ?_ _))) (by first | (simp; done) | (simp; omega) | omega)
 go_wp2_with fail
 refine (HA.out _).mono ?_
 rintro e w2 ⟨rfl, b2⟩
 have rR2 := (row_below b2 (by omega)).trans rR1
 have z2 : w.heap.size < w2.heap.size := by have := b2.size; omega
 have bb2 : Below w.heap.size w w2 := Below.trans b1 (b2.mono (by omega))
 clear HF HA b2 rR1 b1 z1
 go_wp2_with fail
 refine (HS.out _).mono ?_
 rintro e w3 ⟨rfl, b3⟩
 have rR3 := (row_below b3 (by omega)).trans rR2
 have z3 : w.heap.size < w3.heap.size := by have := b3.size; omega
 have bb3 : Below w.heap.size w w3 := Below.trans bb2 (b3.mono (by omega))
 clear HS b3 rR2 bb2 z2
 go_wp2_with fail
 obtain ⟨w4, hw4⟩ : ∃ v, w3.alloc (.cells (u8s x).toArray 28) = v := ⟨_, rfl⟩
 have rX4 : row w4 w3.heap.size = (u8s x).toArray := by rw [← hw4]; exact row_alloc_at _ _ _ rfl
 have rR4 : row w4 w.heap.size = (zeros 32 (.int .u8 0)).toArray := by rw [← hw4, row_alloc_past _ _ (by omega)]; exact rR3
 have z4 : w3.heap.size < w4.heap.size := by rw [← hw4, alloc_sizeW]; omega
 have bb4 : Below w.heap.size w w4 := by rw [← hw4]; exact Below.alloc bb3 (by omega) _
 rw [hw4]
 clear hw4 rR3 bb3
 have rR4d : row w4.drew w.heap.size = (zeros 32 (.int .u8 0)).toArray := rR4
 refine rgR_ [(w3.heap.size, (u8s x).toArray)] (fun hS => ?_)
 refine qp 0 hS ?_
 refine qc 1 (v := ?_) hS ?_ ?_
 rotate_left
 ·
  intro w' hS'
  simp only [Rws] at hS'
  go_simp
  with_reducible refine (HB.out _).mono ?_
  rintro e w'' ⟨rfl, hb⟩
  exact ⟨_, rfl, by rfl, hb⟩
 refine qp 2 hS ?_
 refine qp 3 hS ?_
 refine qp 4 hS ?_
 refine qc 5 (v := ?_) hS ?_ ?_
 rotate_left
 ·
  intro w' hS'
  simp only [Rws] at hS'
  go_simp
  with_reducible refine (HT.out _).mono ?_
  rintro e w'' ⟨rfl, hb⟩
  exact ⟨_, rfl, by rfl, hb⟩
 refine wpAnyR_store (i := 6) (b := w.heap.size) (c := (u8s y).toArray) opt_ rfl rfl kr_ (by simp; (try omega)) hS (by rw [rR4d]; simp; (try omega)) (fun w1 hr => by rw [rR4d] at hr; go_simp; (try rfl)) (fun u1 hu1 ru1 hS => ?_)
 refine wpAnyR_done kr_ (fun wN hN => ?_) _
 have zd : w4.drew.heap.size = w4.heap.size := rfl
 have zu := hu1.size
 have rN : row wN w.heap.size = (u8s y).toArray := by
  rw [row_below hN (by rw [setRow_size]; omega)]
  exact row_setRow_same (by rw [ru1, rR4d]; simp) (by rw [ru1, rR4d]; simp; omega)
 have bN : Below w.heap.size w wN := Below.trans (Below.setRow (Below.trans (Below.drew bb4) (hu1.mono (by omega))) (by omega) _) (hN.mono (by rw [setRow_size]; omega))
 clear hN hu1 ru1 hS zu zd
 go_wp2_with fail
 refine bodyPost_ret (results_1 rfl (resOk_row rfl ?_)) rfl ?_
 ·
  rw [rN]
  simp [hyl]
 ·
  exact ⟨by rw [rN], bN⟩
attribute [local irreducible] macL
theorem macRoot_any (key s : List UInt8) (w : World) (hk : key.length ≤ 64) (hs : s.length ≤ 10000) :
  Calls Tryz.prog 236 #[.string ⟨key.toArray⟩, .string ⟨s.toArray⟩] w fun e w' => e = .returned (.agg (u8s (macL key s)).toArray) ∧ Below w.heap.size w w' := by
 have HM := h_ (fun w => mac_any key s w hk hs)
 have hyl := macL_length key s
 obtain ⟨y, hy⟩ : ∃ y, macL key s = y := ⟨_, rfl⟩
 rw [hy] at HM hyl ⊢
 clear hy
 go_enter Tryz.func236, Tryz.ntmps236
 go_wp2_with fail
 refine (HM.out _).mono ?_
 rintro e w1 ⟨rfl, b1⟩
 have rR1 : row w1 w.heap.size = (zeros 32 (.int .u8 0)).toArray := by rw [row_below b1 (by simp only [alloc_sizeW]; omega)]; simp [go_sem]
 have z1 : w.heap.size < w1.heap.size := by have := b1.size; simp only [alloc_sizeW] at this; omega
 replace b1 := below_of b1 (show Below (w).heap.size w _ from by (repeat (first | exact Below.refl _ _ | refine Below.al ?_ _ | refine Below.drew ?_ | refine Below.sr ?_ _ | refine Below.sc ?_ _))) (by first | (simp; done) | (simp; omega) | omega)
 clear HM
 go_wp2_with fail
 have hfin := row_setRow_same (w := w1) (g := w.heap.size) (c := (u8s y).toArray) (by rw [rR1]; simp) (by rw [rR1]; simp [hyl])
 (try simp only [Exit.inBlock, Exit.then])
 refine bodyPost_ret (results_1 rfl (resOk_row rfl ?_)) rfl ?_
 ·
  rw [hfin]
  simp [hyl]
 refine ⟨by rw [hfin], ?_⟩
 exact Below.setRow b1 (by omega) _
end
section
open Go.RowKit
def nextL (root ahead info : List UInt8) (count : Nat) : List UInt8 := macL root (ahead ++ (info ++ [byteI count]))
theorem nextL_length (root ahead info : List UInt8) (count : Nat) : (nextL root ahead info count).length = 32 := macL_length _ _
attribute [local irreducible] macL
theorem next_any (root ahead info : List UInt8) (count R A I : Nat) (w : World) (hroot : root.length = 32) (hah : ahead.length ≤ 32) (hin : info.length ≤ 1000) (hc : count ≤ 255) (hR : row w R = (u8s root).toArray) (hA : row w A = #[.string ⟨ahead.toArray⟩]) (hI : row w I = #[.string ⟨info.toArray⟩]) (hRA : R ≠ A) (hIA : I ≠ A) :
  Calls Tryz.prog 260 #[.int .i64 count, .pointer (some ⟨R, 0, none⟩), .pointer (some ⟨A, 0, none⟩), .pointer (some ⟨I, 0, none⟩)] w fun e w' => e = .returned (.agg (u8s (nextL root ahead info count)).toArray) ∧ row w' A = #[.string ⟨(nextL root ahead info count).toArray⟩] ∧ BelowBut w.heap.size A w w' := by
 have zR : R < w.heap.size := lt_of_row (i := 0) (by rw [hR]; simp; omega)
 have zA : A < w.heap.size := lt_of_row (i := 0) (by rw [hA]; simp)
 have zI : I < w.heap.size := lt_of_row (i := 0) (by rw [hI]; simp)
 have hcI : (count : Int) ≤ 255 := by omega
 have hM := h_ (fun w => mac_any root (ahead ++ (info ++ [byteI count])) w (by omega) (by simp; omega))
 have hyl := nextL_length root ahead info count
 unfold nextL at hyl ⊢
 obtain ⟨y, hy⟩ : ∃ y, macL root (ahead ++ (info ++ [byteI count])) = y := ⟨_, rfl⟩
 rw [hy] at hM hyl ⊢
 clear hy
 have hl1 : (ahead.length : Int) ≤ 32 := by omega
 have hl2 : (info.length : Int) ≤ 1000 := by omega
 have hwc : IntKind.u8.wrap (count : Int) = (count : Int) := by rw [IntKind.wrap_u8]; omega
 have hbyte : UInt8.ofNat count = byteI count := by rw [byteI]; congr 1; omega
 have hl3 : ¬ 9223372036854775807 < ahead.length + info.length := by omega
 have hl4 : ¬ 9223372036854775807 < ahead.length + info.length + 1 := by omega
 have hl5 : ¬ 9223372036854775807 < ahead.length + (info.length + 1) := by omega
 go_enter Tryz.func260, Tryz.ntmps260
 go_wp2_with fail
 obtain ⟨w1, hw1⟩ : ∃ v, w.alloc (.cells (zeros 32 (.int .u8 0)).toArray 28) = v := ⟨_, rfl⟩
 have rV1 : row w1 w.heap.size = (zeros 32 (.int .u8 0)).toArray := by rw [← hw1]; exact row_alloc_at _ _ _ rfl
 have rR1 : row w1 R = (u8s root).toArray := by rw [← hw1, row_alloc_past _ _ (by omega)]; exact hR
 have rA1 : row w1 A = #[.string ⟨ahead.toArray⟩] := by rw [← hw1, row_alloc_past _ _ (by omega)]; exact hA
 have rI1 : row w1 I = #[.string ⟨info.toArray⟩] := by rw [← hw1, row_alloc_past _ _ (by omega)]; exact hI
 have z1 : w1.heap.size = w.heap.size + 1 := by rw [← hw1, alloc_sizeW]
 have b1 : Below w.heap.size w w1 := by rw [← hw1]; exact Below.alloc (Below.refl _ _) (by omega) _
 try rw [hw1]
 clear hw1
 have zd : w1.drew.heap.size = w1.heap.size := rfl
 refine rgR_ [(R, (u8s root).toArray), (A, #[.string ⟨ahead.toArray⟩]), (I, #[.string ⟨info.toArray⟩])] (fun hS => ?_)
 refine qp 0 hS ?_
 refine qp 1 hS ?_
 refine qp 2 hS ?_
 refine qp 3 hS ?_
 refine qp 4 hS ?_
 refine qp 5 hS ?_
 refine qp 6 hS ?_
 refine wpAnyR_all (rs := [7, 11]) kr_ (by simp) (Rws.grow _) hS (fun u1 hu1 hSW => ?_)
 intro i hi
 simp only [List.mem_cons, List.not_mem_nil, or_false] at hi
 rcases hi with rfl | rfl
 ·
  refine wpOp_step rfl (fun K hK2 => ?_)
  clear hS
  go_simp
  refine hK2 _ _ ⟨hSW.alloc _, ?_⟩
  clear hK2 K
  (try simp only [Act.put, List.setIfInBounds_toArray, List.set_cons_zero, List.set_cons_succ])
  have zu1 := hu1.size
  obtain ⟨G, hG⟩ : ∃ G, u1.heap.size = G := ⟨_, rfl⟩
  obtain ⟨u2, hu2⟩ : ∃ v, u1.alloc (.cells #[.int .u8 (count : Int)] 5) = v := ⟨_, rfl⟩
  have rG : row u2 G = #[.int .u8 (count : Int)] := by rw [← hu2, ← hG]; exact row_alloc_at _ _ _ rfl
  have zG : u2.heap.size = G + 1 := by rw [← hu2, alloc_sizeW, hG]
  have bG : Below w1.heap.size w1 u2 := by rw [← hu2]; exact Below.alloc (Below.trans (Below.drew (Below.refl _ _)) hu1) (by omega) _
  have hSW2 := hSW.alloc (.cells #[.int .u8 (count : Int)] 5)
  rw [hG, hu2]
  rw [hu2] at hSW2
  refine wpAnyR_strengthen (S2 := Rws [(G, #[.int .u8 (count : Int)]), (R, (u8s root).toArray), (A, #[.string ⟨ahead.toArray⟩]), (I, #[.string ⟨info.toArray⟩])]) (fun w h => h.2.2) _ _ _ _ ?_
  have hS : Rws [(G, #[.int .u8 (count : Int)]), (R, (u8s root).toArray), (A, #[.string ⟨ahead.toArray⟩]), (I, #[.string ⟨info.toArray⟩])] u2 := ⟨rG, by omega, hSW2⟩
  clear hSW hSW2 hu2
  refine qp 8 hS ?_
  refine qp 9 hS ?_
  refine qc 10 (v := ?_) hS ?_ ?_
  rotate_left
  ·
   intro w' hS'
   simp only [Rws] at hS'
   go_simp
   with_reducible refine (hM.out _).mono ?_
   rintro e w'' ⟨rfl, hb⟩
   exact ⟨_, rfl, by rfl, hb⟩
  refine wpAnyR_single (i := 11) (k := 12) (zi := (zeros 32 (.int .u8 0)).toArray) (cA := (u8s y).toArray) opt_ opt_ ⟨rfl, rfl, fun a w => by go_simp; (refine ⟨?_, ?_⟩ <;> rfl)⟩ kr_ kr_ kr_ rfl rfl (by simp [hyl]) (by simp) (by simp; omega) (fun A w1 hr => by
   simp only [Act.put, List.setIfInBounds_toArray, List.set_cons_zero, List.set_cons_succ, ptr]
   go_simp
   try rfl) hS (fun X w3 gX zX b3 rX => ?_)
  (try simp only [Act.put, List.setIfInBounds_toArray, List.set_cons_zero, List.set_cons_succ])
  simp only [ptr]
  have z3 := b3.size
  have b13 : Below w1.heap.size w1 w3 := Below.trans bG (b3.mono (by omega))
  clear hS b3 bG rG hM hu1
  have rV3 := (row_below b13 (by omega)).trans rV1
  have rA3 := (row_below b13 (by omega)).trans rA1
  have b03 : Below w.heap.size w w3 := Below.trans b1 (b13.mono (by omega))
  clear b13 rV1 rA1 rR1 rI1 b1 hR hA hI
  have rX4 : row (w3.setRow A #[.string ⟨y.toArray⟩]) X = (u8s y).toArray := by rw [row_setRow_other _ _ _ (by omega)]; exact rX
  have rV4 : row (w3.setRow A #[.string ⟨y.toArray⟩]) w.heap.size = (zeros 32 (.int .u8 0)).toArray := by rw [row_setRow_other _ _ _ (by omega)]; exact rV3
  have rA4 : row (w3.setRow A #[.string ⟨y.toArray⟩]) A = #[.string ⟨y.toArray⟩] := row_setRow_same (by rw [rA3]; simp) (by rw [rA3]; simp)
  have z4 : w.heap.size < (w3.setRow A #[.string ⟨y.toArray⟩]).heap.size := by rw [setRow_size]; omega
  have z5 : X < (w3.setRow A #[.string ⟨y.toArray⟩]).heap.size := by rw [setRow_size]; omega
  have b4 : BelowBut w.heap.size A w (w3.setRow A #[.string ⟨y.toArray⟩]) := (BelowBut.of b03).trans (BelowBut.set _ _)
  go_wp2_with fail
  have hfin := row_setRow_same (w := w3.setRow A #[.string ⟨y.toArray⟩]) (g := w.heap.size) (c := (u8s y).toArray) (by rw [rV4]; simp) (by rw [rV4]; simp [hyl])
  (try simp only [Exit.inBlock, Exit.then])
  refine bodyPost_ret (results_1 rfl (resOk_row rfl ?_)) rfl ?_
  ·
   rw [hfin]
   simp [hyl]
  refine ⟨by rw [hfin], ?_, b4.trans (BelowBut.of (Below.setRow (Below.refl _ _) (Nat.le_refl _) _))⟩
  rw [row_setRow_other _ _ _ (by omega)]
  exact rA4
 ·
  refine wpOp_step rfl (fun K hK2 => ?_)
  clear hS
  go_simp
  refine hK2 _ _ ⟨hSW.alloc _, ?_⟩
  clear hK2 K
  (try simp only [Act.put, List.setIfInBounds_toArray, List.set_cons_zero, List.set_cons_succ])
  have zu1 := hu1.size
  obtain ⟨X, hX⟩ : ∃ G, u1.heap.size = G := ⟨_, rfl⟩
  obtain ⟨u2, hu2⟩ : ∃ v, u1.alloc (.cells (zeros 32 (.int .u8 0)).toArray 28) = v := ⟨_, rfl⟩
  have rX2 : row u2 X = (zeros 32 (.int .u8 0)).toArray := by rw [← hu2, ← hX]; exact row_alloc_at _ _ _ rfl
  have zX2 : u2.heap.size = X + 1 := by rw [← hu2, alloc_sizeW, hX]
  have bX : Below w1.heap.size w1 u2 := by rw [← hu2]; exact Below.alloc (Below.trans (Below.drew (Below.refl _ _)) hu1) (by omega) _
  have hS := hSW.alloc (.cells (zeros 32 (.int .u8 0)).toArray 28)
  rw [hX, hu2]
  rw [hu2] at hS
  clear hSW hu2 hu1
  refine wpAnyR_all (rs := [7]) kr_ (by simp) (Rws.grow _) hS (fun u3 hu3 hSW => ?_)
  intro i hi
  obtain rfl := List.mem_singleton.1 hi
  refine wpOp_step rfl (fun K hK2 => ?_)
  clear hS hi
  go_simp
  refine hK2 _ _ ⟨hSW.alloc _, ?_⟩
  clear hK2 K
  (try simp only [Act.put, List.setIfInBounds_toArray, List.set_cons_zero, List.set_cons_succ])
  have zu3 := hu3.size
  obtain ⟨G, hG⟩ : ∃ G, u3.heap.size = G := ⟨_, rfl⟩
  obtain ⟨u4, hu4⟩ : ∃ v, u3.alloc (.cells #[.int .u8 (count : Int)] 5) = v := ⟨_, rfl⟩
  have rG : row u4 G = #[.int .u8 (count : Int)] := by rw [← hu4, ← hG]; exact row_alloc_at _ _ _ rfl
  have zG : u4.heap.size = G + 1 := by rw [← hu4, alloc_sizeW, hG]
  have bG : Below u2.heap.size u2 u4 := by rw [← hu4]; exact Below.alloc hu3 (by omega) _
  have hSW2 := hSW.alloc (.cells #[.int .u8 (count : Int)] 5)
  rw [hG, hu4]
  rw [hu4] at hSW2
  have rX4 : row u4 X = (zeros 32 (.int .u8 0)).toArray := (row_below bG (by omega)).trans rX2
  refine wpAnyR_strengthen (S2 := Rws [(G, #[.int .u8 (count : Int)]), (R, (u8s root).toArray), (A, #[.string ⟨ahead.toArray⟩]), (I, #[.string ⟨info.toArray⟩])]) (fun w h => h.2.2) _ _ _ _ ?_
  have hS : Rws [(G, #[.int .u8 (count : Int)]), (R, (u8s root).toArray), (A, #[.string ⟨ahead.toArray⟩]), (I, #[.string ⟨info.toArray⟩])] u4 := ⟨rG, by omega, hSW2⟩
  clear hSW hSW2 hu4
  refine qp 8 hS ?_
  refine qp 9 hS ?_
  refine qc 10 (v := ?_) hS ?_ ?_
  rotate_left
  ·
   intro w' hS'
   simp only [Rws] at hS'
   go_simp
   with_reducible refine (hM.out _).mono ?_
   rintro e w'' ⟨rfl, hb⟩
   exact ⟨_, rfl, by rfl, hb⟩
  refine wpAnyR_store (i := 12) (b := X) (c := (u8s y).toArray) opt_ rfl rfl kr_ (by simp; (try omega)) hS (by rw [rX4]; simp; (try omega)) (fun w1 hr => by rw [rX4] at hr; go_simp; (try rfl)) (fun u5 hu5 ru5 hS => ?_)
  refine wpAnyR_done kr_ (fun w3 h3 => ?_) _
  have zu5 := hu5.size
  have z3 := h3.size
  rw [setRow_size] at z3
  have rX : row w3 X = (u8s y).toArray := by
   rw [row_below h3 (by rw [setRow_size]; omega)]
   exact row_setRow_same (by rw [ru5, rX4]; simp) (by rw [ru5, rX4]; simp [hyl])
  have zX : X < w3.heap.size := by omega
  have b13 : Below w1.heap.size w1 w3 := Below.trans (Below.setRow (Below.trans (Below.trans bX (bG.mono (by omega))) (hu5.mono (by omega))) (by omega) _) (h3.mono (by rw [setRow_size]; omega))
  clear hS h3 hu5 ru5 bG bX rG rX4 rX2 hM
  have rV3 := (row_below b13 (by omega)).trans rV1
  have rA3 := (row_below b13 (by omega)).trans rA1
  have b03 : Below w.heap.size w w3 := Below.trans b1 (b13.mono (by omega))
  clear b13 rV1 rA1 rR1 rI1 b1 hR hA hI
  have rX4 : row (w3.setRow A #[.string ⟨y.toArray⟩]) X = (u8s y).toArray := by rw [row_setRow_other _ _ _ (by omega)]; exact rX
  have rV4 : row (w3.setRow A #[.string ⟨y.toArray⟩]) w.heap.size = (zeros 32 (.int .u8 0)).toArray := by rw [row_setRow_other _ _ _ (by omega)]; exact rV3
  have rA4 : row (w3.setRow A #[.string ⟨y.toArray⟩]) A = #[.string ⟨y.toArray⟩] := row_setRow_same (by rw [rA3]; simp) (by rw [rA3]; simp)
  have z4 : w.heap.size < (w3.setRow A #[.string ⟨y.toArray⟩]).heap.size := by rw [setRow_size]; omega
  have z5 : X < (w3.setRow A #[.string ⟨y.toArray⟩]).heap.size := by rw [setRow_size]; omega
  have b4 : BelowBut w.heap.size A w (w3.setRow A #[.string ⟨y.toArray⟩]) := (BelowBut.of b03).trans (BelowBut.set _ _)
  go_wp2_with fail
  have hfin := row_setRow_same (w := w3.setRow A #[.string ⟨y.toArray⟩]) (g := w.heap.size) (c := (u8s y).toArray) (by rw [rV4]; simp) (by rw [rV4]; simp [hyl])
  (try simp only [Exit.inBlock, Exit.then])
  refine bodyPost_ret (results_1 rfl (resOk_row rfl ?_)) rfl ?_
  ·
   rw [hfin]
   simp [hyl]
  refine ⟨by rw [hfin], ?_, b4.trans (BelowBut.of (Below.setRow (Below.refl _ _) (Nat.le_refl _) _))⟩
  rw [row_setRow_other _ _ _ (by omega)]
  exact rA4
end
section
open Go.RowKit
def keyN (root info : List UInt8) : Nat → List UInt8
 | 0 => []
 | i + 1 => nextL root (keyN root info i) info (i + 1)
def keysF (root info : List UInt8) : Nat → List UInt8
 | 0 => []
 | i + 1 => keysF root info i ++ keyN root info (i + 1)
theorem keyN_length (root info : List UInt8) (i : Nat) : (keyN root info (i + 1)).length = 32 := nextL_length _ _ _ _
theorem keyN_le (root info : List UInt8) (i : Nat) : (keyN root info i).length ≤ 32 := by
 cases i with
 | zero => simp [keyN]
 | succ i => rw [keyN_length]; omega
def OwnK (w : World) (B : Nat) (v : Value) (n : Nat) (l : List UInt8) : Prop := w.ownsRow B 28 32 v n (u8s l)
theorem OwnK.but {w w' : World} {B S n : Nat} {v : Value} {l : List UInt8} (h : OwnK w B v n l) (hb : BelowBut w.heap.size S w w') (hS : S < B) : OwnK w' B v n l := by
 obtain ⟨hl, ⟨rfl, h0⟩ | ⟨g, cap, cur, rfl, hg0, hg, hr⟩⟩ := h
 ·
  exact ⟨hl, .inl ⟨rfl, h0⟩⟩
 ·
  refine ⟨hl, .inr ⟨g, cap, cur, rfl, hg0, ?_, hr⟩⟩
  rw [hb.block g ?_ (by omega)]
  ·
   exact hg
  ·
   rcases Nat.lt_or_ge g w.heap.size with h1 | h1
   ·
    exact h1
   ·
    rw [Array.getElem?_eq_none h1] at hg
    cases hg
theorem keyInfo : (Tryz.prog.info? 28).map (fun i => (i.zero.map (·.cells.size), i.size, i.bytes)) = some (some 32, 32, 32) := by kernel_rfl
theorem keyInfo2 : ∃ i z, Tryz.prog.info? 28 = some i ∧ i.zero = some z ∧ i.size = 32 ∧ i.bytes = 32 ∧ z.cells.size = 32 := by
 have h := keyInfo
 cases hi : Tryz.prog.info? 28 with
 | none => rw [hi] at h; simp at h
 | some i =>
  rw [hi] at h
  simp at h
  obtain ⟨⟨z, h1, h2⟩, h3, h4⟩ := h
  exact ⟨i, z, rfl, h1, h3, h4, h2⟩
theorem fold_full (l : List Value) (c : Array Value) (h : c.size = l.length) : List.foldl (fun cs x => cs.setIfInBounds x.snd x.fst) c l.zipIdx = l.toArray := by
 have h1 := foldl_splice 0 l c 0 (by omega)
 simp only [Nat.zero_add] at h1
 rw [h1, splice]
 apply Array.ext'
 simp
 omega
theorem wpList_appendK {w : World} {ops : Array Oper} {rest : List Oper} {o : Oper} {a : Act} {Q : Exit → Act → World → Prop} (hgd : o.guard = none) {s x : Operand}
  (ho : o.op = .call { callee := .builtin .append, args := #[s, x], argTypes := #[50, 50] })
  (base : Nat) (v : Value) (n : Nat) (l : List UInt8) (hs : a.eval s = v) (hown : OwnK w base v n l)
  (u : List UInt8) (hx : a.eval x = .slice (some ⟨w.heap.size, 0, none⟩) 1 1) (hu : u.length = 32) (hn : n ≤ 10000) (hbase : base ≤ w.heap.size)
  (h : ∀ v' w', OwnK w' base v' (n + 1) (l ++ u) → Below base w w' → wpList Tryz.prog ops Q rest (a.put o.dst v') w') :
  wpList Tryz.prog ops Q (o :: rest) a (w.alloc (.cells (u8s u).toArray 28)) := by
 obtain ⟨i0, z, hi, hz, h32, hb32, hzs⟩ := keyInfo2
 refine wpList_append_own _ hgd s x _ ho base 28 i0 z 32 32 Tryz.underlying50 hi hz h32 hb32 hzs (by decide) v n (u8s l) hs (World.ownsRow.alloc hown _) ⟨w.heap.size, 0, none⟩ 1 1 (u8s u) hx (by simp [hu]) ?_ (u8s_one u) ?_ ?_ ?_ ?_
 ·
  intro j y hj
  have hlt : j < (u8s u).length := by
   rcases Nat.lt_or_ge j (u8s u).length with h1 | h1
   ·
    exact h1
   ·
    rw [List.getElem?_eq_none h1] at hj; cases hj
  have : (⟨w.heap.size, 0, none⟩ : Addr).add j = ⟨w.heap.size, j, none⟩ := by
   simp [Addr.add]
   try exact fun h => h.symm
  have hr : row (w.alloc (.cells (u8s u).toArray 28)) w.heap.size = (u8s u).toArray := row_alloc_at _ _ _ rfl
  rw [this, cell_of_row' (by rw [hr]; simpa using hlt), hr, List.getElem?_toArray]
  exact hj
 ·
  unfold maxLen; omega
 ·
  omega
 ·
  simp; omega
 ·
  intro v' w' h1 h2 _
  refine h v' w' ?_ (((Below.refl base w).alloc hbase _).grown h2 (by simp; omega) fun k hk => (World.ownsRow.lt hown k hk).1)
  unfold OwnK
  rw [u8s_append]
  exact h1
attribute [local irreducible] nextL
theorem keys_any (root info : List UInt8) (n : Nat) (w : World) (hroot : root.length = 32) (hin : info.length ≤ 1000) (hn : n ≤ 255) :
  Calls Tryz.prog 235 #[.agg (u8s root).toArray, .string ⟨info.toArray⟩, .int .i64 n] w fun e w' => ∃ v, e = .returned v ∧ OwnK w' (w.heap.size + 1 + 1 + 1) v n (keysF root info n) ∧ Below w.heap.size w w' := by
 have hnI : (n : Int) ≤ 255 := by omega
 have hn0 : ¬ (n : Int) < 0 := by omega
 have hn1 : ¬ (255 : Int) < (n : Int) := by omega
 go_enter Tryz.func235, Tryz.ntmps235
 go_wp2_with fail
 go_loopw [9, 19] (fun v i wr => ∃ m : Nat, m ≤ n ∧ i = .int .i64 m ∧ OwnK wr (w.heap.size + 1 + 1 + 1) v m (keysF root info m) ∧ row wr (w.heap.size + 1 + 1) = #[.string ⟨(keyN root info m).toArray⟩] ∧ row wr (w.heap.size + 1) = #[.string ⟨info.toArray⟩] ∧ row wr w.heap.size = (u8s root).toArray ∧ w.heap.size + 1 + 1 < wr.heap.size ∧ Below w.heap.size w wr) (fun _ i _ => n - (intOf i).toNat)
 case atStart =>
  refine ⟨0, by omega, rfl, World.ownsRow_nil _ _ _ _, ?_, ?_, ?_, by simp, blw_⟩
  ·
   simp [go_sem, keyN]
  ·
   simp [go_sem]
  ·
   simp [go_sem]
 case round =>
  obtain ⟨m, hm, rfl, hown, hA, hI, hR, hz, hbel⟩ := hrel
  by_cases hlt : m < n
  ·
   have h1 : (m : Int) < n := by omega
   have hw1 : IntKind.i64.wrap ((m : Int) + 1) = ((m + 1 : Nat) : Int) := by rw [IntKind.wrap_i64]; omega
   have hN := h_ (next_any root (keyN root info m) info (m + 1) w.heap.size (w.heap.size + 1 + 1) (w.heap.size + 1) wr hroot (keyN_le _ _ _) hin (by omega) hR hA hI (by omega) (by omega))
   rw [show ((m + 1 : Nat) : Int) = (m : Int) + 1 by push_cast; rfl] at hN
   have hkl := keyN_length root info m
   have HKF := h_ (show keysF root info (m + 1) = keysF root info m ++ keyN root info (m + 1) from rfl)
   rw [show nextL root (keyN root info m) info (m + 1) = keyN root info (m + 1) from rfl] at hN
   obtain ⟨y, hy⟩ : ∃ y, keyN root info (m + 1) = y := ⟨_, rfl⟩
   have HY := h_ hy
   rw [hy] at hN hkl HKF
   have hfold := fold_full (u8s y) (zeros 32 (.int .u8 0)).toArray (by simp [hkl])
   simp only [zeros, List.replicate] at hfold
   clear hy
   go_wp2_with fail
   (with_reducible refine (hN.out).mono ?_)
   rintro e w2 ⟨rfl, rA, bB⟩
   have z2 := bB.size
   have own2 := hown.but bB (by omega)
   have hI2 := (bB.row (show w.heap.size + 1 < wr.heap.size by omega) (by omega)).trans hI
   have hR2 := (bB.row (show w.heap.size < wr.heap.size by omega) (by omega)).trans hR
   have hb2 : Below w.heap.size w w2 := Below.trans hbel ((bB.mono (by omega)).below (by omega))
   clear hN bB hown hI hR hA hbel
   go_wp2_with (at_builtin; refine wpList_appendK rfl rfl (w.heap.size + 1 + 1 + 1) _ m _ rfl own2 y rfl hkl (by omega) (by omega) ?_)
   intro v' w3 o3 b3
   go_wp2_with fail
   go_roundw
   case rel =>
    exact ⟨m + 1, by omega, rfl, by rw [HKF.out]; exact o3, by rw [row_below b3 (by omega), HY.out]; exact rA, (row_below b3 (by omega)).trans hI2, (row_below b3 (by omega)).trans hR2, by have := b3.size; omega, hb2.trans (b3.mono (by omega))⟩
   case measure => simp [intOf]; omega
  ·
   obtain rfl : m = n := by omega
   have h1 : ¬ (m : Int) < (m : Int) := by omega
   go_wp2_with fail
   go_ret
   exact ⟨_, rfl, hown, hbel⟩
end
section
open Go.RowKit
theorem text_any (k : List UInt8) (w : World) (hk : k.length = 32) :
  Calls Tryz.prog 150 #[.agg (u8s k).toArray] w fun e w' => e = .returned (.string ⟨k.toArray⟩) ∧ Below w.heap.size w w' := by
 go_enter Tryz.func150, Tryz.ntmps150
 go_wp2_with fail
 go_ret
 exact ⟨rfl, blw_⟩
attribute [local irreducible] shaK
theorem hash_any (a b : List UInt8) (w : World) (ha : a.length ≤ 400000) (hb : b.length ≤ 400000) :
  Calls Tryz.prog 223 #[.string ⟨a.toArray⟩, .string ⟨b.toArray⟩] w fun e w' => e = .returned (.agg (u8s (shaK (a ++ b))).toArray) ∧ Below w.heap.size w w' := by
 have HS := h_ (fun w => sum_any (a ++ b) w (by simp; omega))
 have hyl := shaK_length (a ++ b)
 obtain ⟨y, hy⟩ : ∃ y, shaK (a ++ b) = y := ⟨_, rfl⟩
 rw [hy] at HS hyl ⊢
 clear hy
 have haI : (a.length : Int) ≤ 400000 := by omega
 have hbI : (b.length : Int) ≤ 400000 := by omega
 have hl3 : ¬ 9223372036854775807 < a.length + b.length := by omega
 go_enter Tryz.func223, Tryz.ntmps223
 go_wp2_with fail
 refine (HS.out _).mono ?_
 rintro e w1 ⟨rfl, b1⟩
 have rR1 : row w1 w.heap.size = (zeros 32 (.int .u8 0)).toArray := by rw [row_below b1 (by simp only [alloc_sizeW]; omega)]; simp [go_sem]
 have z1 : w.heap.size < w1.heap.size := by have := b1.size; simp only [alloc_sizeW] at this; omega
 replace b1 := below_of b1 (show Below (w).heap.size w _ from by (repeat (first | exact Below.refl _ _ | refine Below.al ?_ _ | refine Below.drew ?_ | refine Below.sr ?_ _ | refine Below.sc ?_ _))) (by first | (simp; done) | (simp; omega) | omega)
 clear HS
 go_wp2_with fail
 have hfin := row_setRow_same (w := w1) (g := w.heap.size) (c := (u8s y).toArray) (by rw [rR1]; simp) (by rw [rR1]; simp [hyl])
 (try simp only [Exit.inBlock, Exit.then])
 refine bodyPost_ret (results_1 rfl (resOk_row rfl ?_)) rfl ?_
 ·
  rw [hfin]
  simp [hyl]
 refine ⟨by rw [hfin], ?_⟩
 exact Below.setRow b1 (by omega) _
structure TalkT where
 h : List UInt8
 c : List UInt8
 k : List UInt8
 n : Nat
 s : List UInt8
structure TalkT.ok (t : TalkT) : Prop where
 h : t.h.length = 32
 c : t.c.length = 32
 k : t.k.length = 32
 s : t.s.length = 32
 n : t.n ≤ 100
def TalkT.cells (t : TalkT) : List Value := u8s t.h ++ (u8s t.c ++ (u8s t.k ++ (.int .u64 (t.n : Int) :: u8s t.s)))
theorem TalkT.cells_length {t : TalkT} (h : t.ok) : t.cells.length = 129 := by simp [TalkT.cells, h.h, h.c, h.k, h.s]
end
section
open Go.RowKit
attribute [local irreducible] shaK macL keysF
theorem tkeys_any (t : TalkT) (s : List UInt8) (n S : Nat) (w : World) (ht : t.ok) (hs : s.length ≤ 1000) (hn : n ≤ 255) (hS : row w S = t.cells.toArray) :
  Calls Tryz.prog 210 #[.pointer (some ⟨S, 0, none⟩), .string ⟨s.toArray⟩, .int .i64 n] w fun e w' => ∃ v B, e = .returned v ∧ w.heap.size ≤ B ∧ OwnK w' B v n (keysF (macL t.c s) [] n) ∧ Below w.heap.size w w' := by
 have zS : S < w.heap.size := lt_of_row (i := 0) (by rw [hS]; simp [TalkT.cells_length ht])
 obtain ⟨th, tc, tk, tn, ts⟩ := t
 have h1 := ht.h
 have h2 := ht.c
 have h3 := ht.k
 have h4 := ht.s
 simp only at h1 h2 h3 h4
 unfold TalkT.cells at hS
 simp only at hS ⊢
 have HT := h_ (fun w => text_any tc w h2)
 have HM := h_ (fun w => macRoot_any tc s w (by omega) (by omega))
 have hyl := macL_length tc s
 obtain ⟨y, hy⟩ : ∃ y, macL tc s = y := ⟨_, rfl⟩
 rw [hy] at HM hyl ⊢
 have HK := h_ (fun w => keys_any y [] n w hyl (by simp) hn)
 clear hy ht
 go_enter Tryz.func210, Tryz.ntmps210
 go_wp2_with fail
 refine (HT.out _).mono ?_
 rintro e w1 ⟨rfl, b1⟩
 have z1 := b1.size
 clear hS
 go_wp2_with fail
 refine (HM.out _).mono ?_
 rintro e w2 ⟨rfl, b2⟩
 have z2 := b2.size
 go_wp2_with fail
 refine (HK.out _).mono ?_
 rintro e w3 ⟨v, rfl, o3, b3⟩
 have bb : Below w.heap.size w w3 := b1.trans ((b2.mono (by omega)).trans (b3.mono (by omega)))
 go_wp2_with fail
 go_ret
 exact ⟨v, w2.heap.size + 1 + 1 + 1, rfl, by omega, o3, bb⟩
theorem tsum_any (t : TalkT) (s : List UInt8) (S : Nat) (w : World) (ht : t.ok) (hs : s.length ≤ 400000) (hS : row w S = t.cells.toArray) :
  Calls Tryz.prog 194 #[.pointer (some ⟨S, 0, none⟩), .string ⟨s.toArray⟩] w fun e w' => e = .returned (.tuple #[]) ∧ row w' S = ({ t with h := shaK (t.h ++ s) } : TalkT).cells.toArray ∧ BelowBut w.heap.size S w w' := by
 have zS : S < w.heap.size := lt_of_row (i := 0) (by rw [hS]; simp [TalkT.cells_length ht])
 obtain ⟨th, tc, tk, tn, ts⟩ := t
 have h1 := ht.h
 have h2 := ht.c
 have h3 := ht.k
 have h4 := ht.s
 simp only at h1 h2 h3 h4
 unfold TalkT.cells at hS ⊢
 simp only at hS ⊢
 have HT := h_ (fun w => text_any th w h1)
 have HM := h_ (fun w => hash_any th s w (by omega) hs)
 have hyl := shaK_length (th ++ s)
 obtain ⟨y, hy⟩ : ∃ y, shaK (th ++ s) = y := ⟨_, rfl⟩
 rw [hy] at HM hyl ⊢
 clear hy ht
 go_enter Tryz.func194, Tryz.ntmps194
 go_wp2_with fail
 refine (HT.out _).mono ?_
 rintro e w1 ⟨rfl, b1⟩
 have z1 := b1.size
 have hS1 := (row_below b1 zS).trans hS
 go_wp2_with fail
 refine (HM.out _).mono ?_
 rintro e w2 ⟨rfl, b2⟩
 have z2 := b2.size
 have hS2 := (row_below b2 (by omega)).trans hS1
 have zS2 : S < w2.heap.size := by omega
 have bb : Below w.heap.size w w2 := b1.trans (b2.mono (by omega))
 clear hS hS1 HT HM b1 b2
 go_wp2_with fail
 go_end0
 exact ⟨rfl, row_setRow_same (by rw [hS2]; simp; omega) (by rw [hS2]; simp [hyl, h1]), (BelowBut.of bb).trans (BelowBut.set _ _)⟩
end
section
open Go.RowKit
theorem OwnK.form {w : World} {B n : Nat} {v : Value} {l : List UInt8} (h : OwnK w B v n l) (hn : 0 < n) :
  ∃ g c s, v = .slice (some ⟨g, 0, none⟩) n c ∧ B ≤ g ∧ g < w.heap.size ∧ row w g = (u8s l ++ s).toArray := by
 obtain ⟨hl, ⟨rfl, h0⟩ | ⟨g, cap, cur, rfl, hg0, hg, hnc, hm, hc, ht⟩⟩ := h
 ·
  omega
 ·
  refine ⟨g, cap, cur.toList.drop (n * 32), rfl, hg0, ?_, ?_⟩
  ·
   rcases Nat.lt_or_ge g w.heap.size with h1 | h1
   ·
    exact h1
   ·
    rw [Array.getElem?_eq_none h1] at hg
    cases hg
  ·
   unfold row
   rw [hg]
   apply Array.ext'
   simp only [if_true, true_or]
   conv => lhs; rw [← List.take_append_drop (n * 32) cur.toList, ht]
theorem keysF_two (y : List UInt8) : keysF y [] 2 = keyN y [] 1 ++ keyN y [] 2 := by simp [keysF]
attribute [local irreducible] shaK macL keysF keyN
theorem chain_any (t : TalkT) (s : List UInt8) (S : Nat) (w : World) (ht : t.ok) (hs : s.length ≤ 1000) (hS : row w S = t.cells.toArray) :
  Calls Tryz.prog 197 #[.pointer (some ⟨S, 0, none⟩), .string ⟨s.toArray⟩] w fun e w' => e = .returned (.tuple #[]) ∧ row w' S = ({ t with c := keyN (macL t.c s) [] 1, k := keyN (macL t.c s) [] 2, n := 0 } : TalkT).cells.toArray ∧ BelowBut w.heap.size S w w' := by
 have zS : S < w.heap.size := lt_of_row (i := 0) (by rw [hS]; simp [TalkT.cells_length ht])
 have HK := h_ (tkeys_any t s 2 S w ht hs (by omega) hS)
 obtain ⟨th, tc, tk, tn, ts⟩ := t
 have h1 := ht.h
 have h2 := ht.c
 have h3 := ht.k
 have h4 := ht.s
 simp only at h1 h2 h3 h4 HK
 rw [keysF_two] at HK
 unfold TalkT.cells at hS ⊢
 simp only at hS ⊢
 have l1 := keyN_length (macL tc s) [] 0
 have l2 := keyN_length (macL tc s) [] 1
 simp only [Nat.zero_add, Nat.reduceAdd] at l1 l2
 obtain ⟨a, ha⟩ : ∃ a, keyN (macL tc s) [] 1 = a := ⟨_, rfl⟩
 obtain ⟨b, hb⟩ : ∃ b, keyN (macL tc s) [] 2 = b := ⟨_, rfl⟩
 rw [ha] at HK l1 ⊢
 rw [hb] at HK l2 ⊢
 clear ha hb ht
 go_enter Tryz.func197, Tryz.ntmps197
 go_wp2_with fail
 refine (HK.out).mono ?_
 rintro e w1 ⟨v, B, rfl, hB, own, b1⟩
 obtain ⟨g, c, sp, rfl, hg, zg, rg⟩ := own.form (by omega)
 rw [u8s_append, List.append_assoc] at rg
 have z1 := b1.size
 have hS1 := (row_below b1 zS).trans hS
 clear HK hS own
 go_wp2_with fail
 have hSd : row w1.drew S = (u8s th ++ (u8s tc ++ (u8s tk ++ (.int .u64 (tn : Int) :: u8s ts)))).toArray := hS1
 have hgS : S < g := by omega
 have q1 : 64 ≤ 32 + (32 + sp.length) := by omega
 have q2 : 32 + 32 ≤ 32 + (32 + sp.length) := by omega
 have q3 : 64 ≤ a.length + (b.length + sp.length) := by omega
 have q4 : 32 + 32 ≤ a.length + (b.length + sp.length) := by omega
 refine rgR_ [(g, (u8s a ++ (u8s b ++ sp)).toArray)] (fun hS => ?_)
 refine qp 0 hS ?_
 refine qp 1 hS ?_
 refine qp 2 hS ?_
 refine qp 3 hS ?_
 refine qp 4 hS ?_
 refine qp 5 hS ?_
 refine qp 6 hS ?_
 refine qp 7 hS ?_
 refine qp 8 hS ?_
 refine qp 9 hS ?_
 refine qp 10 hS ?_
 refine wpAnyR_store (i := 11) (b := S) (c := (u8s th ++ (u8s a ++ (u8s tk ++ (.int .u64 (tn : Int) :: u8s ts)))).toArray) opt_ rfl rfl kr_ (by simp; (try omega)) hS (by rw [hSd]; simp; (try omega)) (fun w1 hr => by rw [hSd] at hr; go_simp; (try rfl)) (fun u1 hu1 ru1 hS => ?_)
 have c0 : BelowBut w.heap.size S w w1.drew := BelowBut.of (Below.drew b1)
 have zd : w1.drew.heap.size = w1.heap.size := rfl
 have z1 := hu1.size
 have c1 : BelowBut w.heap.size S w (u1.setRow S (u8s th ++ (u8s a ++ (u8s tk ++ (.int .u64 (tn : Int) :: u8s ts)))).toArray) := (c0.trans (BelowBut.of (hu1.mono (by first | omega | (show w.heap.size ≤ w1.heap.size; omega))))).trans (BelowBut.set _ _)
 obtain ⟨w2, hw2⟩ : ∃ v, u1.setRow S (u8s th ++ (u8s a ++ (u8s tk ++ (.int .u64 (tn : Int) :: u8s ts)))).toArray = v := ⟨_, rfl⟩
 have rw2 : row w2 S = (u8s th ++ (u8s a ++ (u8s tk ++ (.int .u64 (tn : Int) :: u8s ts)))).toArray := by
  rw [← hw2]
  exact row_setRow_same (by rw [ru1, hSd]; simp; omega) (by rw [ru1, hSd]; simp; (try omega))
 have zw2 : w.heap.size ≤ w2.heap.size := by rw [← hw2, setRow_size]; omega
 rw [hw2] at hS c1 ⊢
 clear hw2 hu1 ru1
 refine qp 12 hS ?_
 refine qp 13 hS ?_
 refine wpAnyR_store (i := 14) (b := S) (c := (u8s th ++ (u8s a ++ (u8s b ++ (.int .u64 (tn : Int) :: u8s ts)))).toArray) opt_ rfl rfl kr_ (by simp; (try omega)) hS (by rw [rw2]; simp; (try omega)) (fun w1 hr => by rw [rw2] at hr; go_simp; (try rfl)) (fun u2 hu2 ru2 hS => ?_)
 have z2 := hu2.size
 have c2 : BelowBut w.heap.size S w (u2.setRow S (u8s th ++ (u8s a ++ (u8s b ++ (.int .u64 (tn : Int) :: u8s ts)))).toArray) := (c1.trans (BelowBut.of (hu2.mono (by first | omega | (show w.heap.size ≤ w1.heap.size; omega))))).trans (BelowBut.set _ _)
 obtain ⟨w3, hw3⟩ : ∃ v, u2.setRow S (u8s th ++ (u8s a ++ (u8s b ++ (.int .u64 (tn : Int) :: u8s ts)))).toArray = v := ⟨_, rfl⟩
 have rw3 : row w3 S = (u8s th ++ (u8s a ++ (u8s b ++ (.int .u64 (tn : Int) :: u8s ts)))).toArray := by
  rw [← hw3]
  exact row_setRow_same (by rw [ru2, rw2]; simp; omega) (by rw [ru2, rw2]; simp; (try omega))
 have zw3 : w.heap.size ≤ w3.heap.size := by rw [← hw3, setRow_size]; omega
 rw [hw3] at hS c2 ⊢
 clear hw3 hu2 ru2
 refine qp 15 hS ?_
 refine qp 16 hS ?_
 refine wpAnyR_store (i := 17) (b := S) (c := (u8s th ++ (u8s a ++ (u8s b ++ (.int .u64 0 :: u8s ts)))).toArray) opt_ rfl rfl kr_ (by simp; (try omega)) hS (by rw [rw3]; simp; (try omega)) (fun w1 hr => by rw [rw3] at hr; go_simp; (try rfl)) (fun u3 hu3 ru3 hS => ?_)
 have z3 := hu3.size
 have c3 : BelowBut w.heap.size S w (u3.setRow S (u8s th ++ (u8s a ++ (u8s b ++ (.int .u64 0 :: u8s ts)))).toArray) := (c2.trans (BelowBut.of (hu3.mono (by first | omega | (show w.heap.size ≤ w1.heap.size; omega))))).trans (BelowBut.set _ _)
 obtain ⟨w4, hw4⟩ : ∃ v, u3.setRow S (u8s th ++ (u8s a ++ (u8s b ++ (.int .u64 0 :: u8s ts)))).toArray = v := ⟨_, rfl⟩
 have rw4 : row w4 S = (u8s th ++ (u8s a ++ (u8s b ++ (.int .u64 0 :: u8s ts)))).toArray := by
  rw [← hw4]
  exact row_setRow_same (by rw [ru3, rw3]; simp; omega) (by rw [ru3, rw3]; simp; (try omega))
 have zw4 : w.heap.size ≤ w4.heap.size := by rw [← hw4, setRow_size]; omega
 rw [hw4] at hS c3 ⊢
 clear hw4 hu3 ru3
 refine wpAnyR_done kr_ (fun wN hN => ?_) _
 have rN : row wN S = (u8s th ++ (u8s a ++ (u8s b ++ (.int .u64 0 :: u8s ts)))).toArray := by rw [row_below hN (by omega)]; exact rw4
 have cN : BelowBut w.heap.size S w wN := c3.trans (BelowBut.of (hN.mono (by omega)))
 go_wp2_with fail
 go_end0
 exact ⟨rfl, rN, cN⟩
end
section
open Go.RowKit
theorem keysF_three (y : List UInt8) : keysF y [] 3 = keyN y [] 1 ++ (keyN y [] 2 ++ keyN y [] 3) := by simp [keysF]
attribute [local irreducible] shaK macL keysF keyN
theorem both_any (t : TalkT) (s : List UInt8) (S : Nat) (w : World) (ht : t.ok) (hs : s.length ≤ 1000) (hS : row w S = t.cells.toArray) :
  Calls Tryz.prog 195 #[.pointer (some ⟨S, 0, none⟩), .string ⟨s.toArray⟩] w fun e w' => e = .returned (.tuple #[]) ∧ row w' S = ({ t with h := shaK (t.h ++ keyN (macL t.c s) [] 2), c := keyN (macL t.c s) [] 1, k := keyN (macL t.c s) [] 3, n := 0 } : TalkT).cells.toArray ∧ BelowBut w.heap.size S w w' := by
 have zS : S < w.heap.size := lt_of_row (i := 0) (by rw [hS]; simp [TalkT.cells_length ht])
 have HK := h_ (tkeys_any t s 3 S w ht hs (by omega) hS)
 obtain ⟨th, tc, tk, tn, ts⟩ := t
 have h1 := ht.h
 have h2 := ht.c
 have h3 := ht.k
 have h4 := ht.s
 simp only at h1 h2 h3 h4 HK
 rw [keysF_three] at HK
 unfold TalkT.cells at hS ⊢
 simp only at hS ⊢
 have l1 := keyN_length (macL tc s) [] 0
 have lm := keyN_length (macL tc s) [] 1
 have l2 := keyN_length (macL tc s) [] 2
 simp only [Nat.zero_add, Nat.reduceAdd] at l1 lm l2
 obtain ⟨a, ha⟩ : ∃ a, keyN (macL tc s) [] 1 = a := ⟨_, rfl⟩
 obtain ⟨m, hmm⟩ : ∃ b, keyN (macL tc s) [] 2 = b := ⟨_, rfl⟩
 obtain ⟨b, hb⟩ : ∃ b, keyN (macL tc s) [] 3 = b := ⟨_, rfl⟩
 rw [ha] at HK l1 ⊢
 rw [hmm] at HK lm ⊢
 rw [hb] at HK l2 ⊢
 clear ha hb hmm ht
 go_enter Tryz.func195, Tryz.ntmps195
 go_wp2_with fail
 refine (HK.out).mono ?_
 rintro e w1 ⟨v, B, rfl, hB, own, b1⟩
 obtain ⟨g, c, sp, rfl, hg, zg, rg⟩ := own.form (by omega)
 rw [u8s_append, u8s_append, List.append_assoc, List.append_assoc] at rg
 have z1 := b1.size
 have hS1 := (row_below b1 zS).trans hS
 clear HK hS own
 go_wp2_with fail
 have hSd : row w1.drew S = (u8s th ++ (u8s tc ++ (u8s tk ++ (.int .u64 (tn : Int) :: u8s ts)))).toArray := hS1
 have hgS : S < g := by omega
 have q1 : 96 ≤ 32 + (32 + (32 + sp.length)) := by omega
 have q2 : 64 + 32 ≤ 32 + (32 + (32 + sp.length)) := by omega
 have q3 : 32 ≤ 32 + (32 + (32 + sp.length)) := by omega
 have q4 : 64 ≤ 32 + (32 + (32 + sp.length)) := by omega
 have q5 : 32 + 32 ≤ 32 + (32 + (32 + sp.length)) := by omega
 refine rgR_ [(g, (u8s a ++ (u8s m ++ (u8s b ++ sp))).toArray)] (fun hS => ?_)
 refine qp 0 hS ?_
 refine qp 1 hS ?_
 refine qp 2 hS ?_
 refine qp 3 hS ?_
 refine qp 4 hS ?_
 refine qp 5 hS ?_
 refine qp 6 hS ?_
 refine qp 7 hS ?_
 refine qp 8 hS ?_
 refine qp 9 hS ?_
 refine qp 10 hS ?_
 refine wpAnyR_store (i := 11) (b := S) (c := (u8s th ++ (u8s a ++ (u8s tk ++ (.int .u64 (tn : Int) :: u8s ts)))).toArray) opt_ rfl rfl kr_ (by simp; (try omega)) hS (by rw [hSd]; simp; (try omega)) (fun w1 hr => by rw [hSd] at hr; go_simp; (try rfl)) (fun u1 hu1 ru1 hS => ?_)
 have c0 : BelowBut w.heap.size S w w1.drew := BelowBut.of (Below.drew b1)
 have zd : w1.drew.heap.size = w1.heap.size := rfl
 have z1 := hu1.size
 have c1 : BelowBut w.heap.size S w (u1.setRow S (u8s th ++ (u8s a ++ (u8s tk ++ (.int .u64 (tn : Int) :: u8s ts)))).toArray) := (c0.trans (BelowBut.of (hu1.mono (by first | omega | (show w.heap.size ≤ w1.heap.size; omega))))).trans (BelowBut.set _ _)
 obtain ⟨w2, hw2⟩ : ∃ v, u1.setRow S (u8s th ++ (u8s a ++ (u8s tk ++ (.int .u64 (tn : Int) :: u8s ts)))).toArray = v := ⟨_, rfl⟩
 have rw2 : row w2 S = (u8s th ++ (u8s a ++ (u8s tk ++ (.int .u64 (tn : Int) :: u8s ts)))).toArray := by
  rw [← hw2]
  exact row_setRow_same (by rw [ru1, hSd]; simp; omega) (by rw [ru1, hSd]; simp; (try omega))
 have zw2 : w.heap.size ≤ w2.heap.size := by rw [← hw2, setRow_size]; omega
 rw [hw2] at hS c1 ⊢
 clear hw2 hu1 ru1
 refine qp 12 hS ?_
 refine qp 13 hS ?_
 refine wpAnyR_store (i := 14) (b := S) (c := (u8s th ++ (u8s a ++ (u8s b ++ (.int .u64 (tn : Int) :: u8s ts)))).toArray) opt_ rfl rfl kr_ (by simp; (try omega)) hS (by rw [rw2]; simp; (try omega)) (fun w1 hr => by rw [rw2] at hr; go_simp; (try rfl)) (fun u2 hu2 ru2 hS => ?_)
 have z2 := hu2.size
 have c2 : BelowBut w.heap.size S w (u2.setRow S (u8s th ++ (u8s a ++ (u8s b ++ (.int .u64 (tn : Int) :: u8s ts)))).toArray) := (c1.trans (BelowBut.of (hu2.mono (by first | omega | (show w.heap.size ≤ w1.heap.size; omega))))).trans (BelowBut.set _ _)
 obtain ⟨w3, hw3⟩ : ∃ v, u2.setRow S (u8s th ++ (u8s a ++ (u8s b ++ (.int .u64 (tn : Int) :: u8s ts)))).toArray = v := ⟨_, rfl⟩
 have rw3 : row w3 S = (u8s th ++ (u8s a ++ (u8s b ++ (.int .u64 (tn : Int) :: u8s ts)))).toArray := by
  rw [← hw3]
  exact row_setRow_same (by rw [ru2, rw2]; simp; omega) (by rw [ru2, rw2]; simp; (try omega))
 have zw3 : w.heap.size ≤ w3.heap.size := by rw [← hw3, setRow_size]; omega
 rw [hw3] at hS c2 ⊢
 clear hw3 hu2 ru2
 refine qp 15 hS ?_
 refine qp 16 hS ?_
 refine wpAnyR_store (i := 17) (b := S) (c := (u8s th ++ (u8s a ++ (u8s b ++ (.int .u64 0 :: u8s ts)))).toArray) opt_ rfl rfl kr_ (by simp; (try omega)) hS (by rw [rw3]; simp; (try omega)) (fun w1 hr => by rw [rw3] at hr; go_simp; (try rfl)) (fun u3 hu3 ru3 hS => ?_)
 have z3 := hu3.size
 have c3 : BelowBut w.heap.size S w (u3.setRow S (u8s th ++ (u8s a ++ (u8s b ++ (.int .u64 0 :: u8s ts)))).toArray) := (c2.trans (BelowBut.of (hu3.mono (by first | omega | (show w.heap.size ≤ w1.heap.size; omega))))).trans (BelowBut.set _ _)
 obtain ⟨w4, hw4⟩ : ∃ v, u3.setRow S (u8s th ++ (u8s a ++ (u8s b ++ (.int .u64 0 :: u8s ts)))).toArray = v := ⟨_, rfl⟩
 have rw4 : row w4 S = (u8s th ++ (u8s a ++ (u8s b ++ (.int .u64 0 :: u8s ts)))).toArray := by
  rw [← hw4]
  exact row_setRow_same (by rw [ru3, rw3]; simp; omega) (by rw [ru3, rw3]; simp; (try omega))
 have zw4 : w.heap.size ≤ w4.heap.size := by rw [← hw4, setRow_size]; omega
 rw [hw4] at hS c3 ⊢
 clear hw4 hu3 ru3
 refine wpAnyR_done kr_ (fun wN hN => ?_) _
 have rN : row wN S = (u8s th ++ (u8s a ++ (u8s b ++ (.int .u64 0 :: u8s ts)))).toArray := by rw [row_below hN (by omega)]; exact rw4
 have cN : BelowBut w.heap.size S w wN := c3.trans (BelowBut.of (hN.mono (by omega)))
 have rgN : row wN g = (u8s a ++ (u8s m ++ (u8s b ++ sp))).toArray := by rw [row_below hN hS.2.1]; exact hS.1
 have zgN : g < wN.heap.size := by have := hS.2.1; have := hN.size; omega
 have zSN : S < wN.heap.size := by omega
 clear hN hS
 go_wp2_with fail
 refine (text_any m _ lm).mono ?_
 rintro e w5 ⟨rfl, b5⟩
 have r5 := (row_below b5 zSN).trans rN
 have z5 := b5.size
 go_wp2_with fail
 refine (tsum_any ⟨th, a, b, 0, ts⟩ m S _ ⟨h1, l1, l2, h4, by simp⟩ (by omega) r5).mono ?_
 rintro e w6 ⟨rfl, r6, b6⟩
 have zw := cN.size
 go_wp2_with fail
 go_end0
 exact ⟨rfl, r6, (cN.trans ((BelowBut.of b5).mono (by omega))).trans (b6.mono (by omega))⟩
end
section
open Go.RowKit
attribute [local irreducible] shaK macL keysF keyN
def metT (t : TalkT) (s : List UInt8) : TalkT := ⟨shaK (t.h ++ s), keyN (macL t.c s) [] 1, keyN (macL t.c s) [] 2, 0, t.s⟩
theorem metT_ok {t : TalkT} (h : t.ok) (s : List UInt8) : (metT t s).ok := ⟨shaK_length _, keyN_length _ _ 0, keyN_length _ _ 1, h.s, by simp [metT]⟩
theorem met_any (t : TalkT) (s : List UInt8) (S : Nat) (w : World) (ht : t.ok) (hs : s.length ≤ 1000) (hS : row w S = t.cells.toArray) :
  Calls Tryz.prog 152 #[.pointer (some ⟨S, 0, none⟩), .string ⟨s.toArray⟩] w fun e w' => e = .returned (.tuple #[]) ∧ row w' S = (metT t s).cells.toArray ∧ BelowBut w.heap.size S w w' := by
 have h1 := shaK_length (t.h ++ s)
 have HA := h_ (tsum_any t s S w ht (by omega) hS)
 go_enter Tryz.func152, Tryz.ntmps152
 go_wp2_with fail
 refine (HA.out).mono ?_
 rintro e w1 ⟨rfl, r1, b1⟩
 have z1 := b1.size
 have HB := h_ (chain_any { t with h := shaK (t.h ++ s) } s S w1 ⟨h1, ht.c, ht.k, ht.s, ht.n⟩ hs r1)
 clear HA
 go_wp2_with fail
 refine (HB.out).mono ?_
 rintro e w2 ⟨rfl, r2, b2⟩
 go_wp2_with fail
 go_end0
 exact ⟨rfl, r2, b1.trans (b2.mono (by omega))⟩
end
section
open Go.RowKit
attribute [local irreducible] shaK macL keysF keyN
theorem split_any (t : TalkT) (S : Nat) (w : World) (ht : t.ok) (hS : row w S = t.cells.toArray) :
  Calls Tryz.prog 182 #[.pointer (some ⟨S, 0, none⟩)] w fun e w' => e = .returned (.tuple #[.agg (u8s (keyN (macL t.c []) [] 1)).toArray, .agg (u8s (keyN (macL t.c []) [] 2)).toArray]) ∧ Below w.heap.size w w' := by
 have zS : S < w.heap.size := lt_of_row (i := 0) (by rw [hS]; simp [TalkT.cells_length ht])
 obtain ⟨w0, hw0⟩ : ∃ v, (w.alloc (.cells (zeros 32 (.int .u8 0)).toArray 28)).alloc (.cells (zeros 32 (.int .u8 0)).toArray 28) = v := ⟨_, rfl⟩
 have rS0 : row w0 S = t.cells.toArray := by rw [← hw0, row_alloc_past _ _ (by rw [alloc_sizeW]; omega), row_alloc_past _ _ (by omega)]; exact hS
 have z0 : w0.heap.size = w.heap.size + 1 + 1 := by rw [← hw0, alloc_sizeW, alloc_sizeW]
 have rA0 : row w0 w.heap.size = (zeros 32 (.int .u8 0)).toArray := by rw [← hw0, row_alloc_past _ _ (by rw [alloc_sizeW]; omega)]; exact row_alloc_at _ _ _ rfl
 have rB0 : row w0 (w.heap.size + 1) = (zeros 32 (.int .u8 0)).toArray := by rw [← hw0]; exact row_alloc_at _ _ _ (by rw [alloc_sizeW])
 have b0 : Below w.heap.size w w0 := by rw [← hw0]; exact Below.alloc (Below.alloc (Below.refl _ _) (by omega) _) (by rw [alloc_sizeW]; omega) _
 have HK := h_ (tkeys_any t [] 2 S w0 ht (by simp) (by omega) rS0)
 rw [keysF_two] at HK
 have l1 := keyN_length (macL t.c []) [] 0
 have l2 := keyN_length (macL t.c []) [] 1
 simp only [Nat.zero_add, Nat.reduceAdd] at l1 l2
 obtain ⟨a, ha⟩ : ∃ a, keyN (macL t.c []) [] 1 = a := ⟨_, rfl⟩
 obtain ⟨b, hb⟩ : ∃ b, keyN (macL t.c []) [] 2 = b := ⟨_, rfl⟩
 rw [ha] at HK l1 ⊢
 rw [hb] at HK l2 ⊢
 clear ha hb ht
 go_enter Tryz.func182, Tryz.ntmps182
 go_wp2_with fail
 clear hw0
 refine (HK.out).mono ?_
 rintro e w1 ⟨v, B, rfl, hB, own, b1⟩
 obtain ⟨g, c, sp, rfl, hg, zg, rg⟩ := own.form (by omega)
 rw [u8s_append, List.append_assoc] at rg
 have z1 := b1.size
 have rA1 := (row_below b1 (by omega)).trans rA0
 have rB1 := (row_below b1 (by omega)).trans rB0
 have bb1 : Below w.heap.size w w1 := b0.trans (b1.mono (by omega))
 clear HK hS own rS0 rA0 rB0 b0 b1
 go_wp2_with fail
 have rA1d : row w1.drew w.heap.size = (zeros 32 (.int .u8 0)).toArray := rA1
 have q1 : 64 ≤ 32 + (32 + sp.length) := by omega
 have q2 : 32 + 32 ≤ 32 + (32 + sp.length) := by omega
 have zd : w1.drew.heap.size = w1.heap.size := rfl
 refine rgR_ [(g, (u8s a ++ (u8s b ++ sp)).toArray)] (fun hS => ?_)
 refine qp 0 hS ?_
 refine qp 1 hS ?_
 refine qp 2 hS ?_
 refine qp 3 hS ?_
 refine qp 4 hS ?_
 refine qp 5 hS ?_
 refine wpAnyR_store (i := 6) (b := w.heap.size) (c := (u8s a).toArray) opt_ rfl rfl kr_ (by simp; (try omega)) hS (by rw [rA1d]; simp; (try omega)) (fun w1 hr => by rw [rA1d] at hr; go_simp; (try rfl)) (fun u1 hu1 ru1 hS => ?_)
 have zu1 := hu1.size
 have rB2 : row (u1.setRow w.heap.size (u8s a).toArray) (w.heap.size + 1) = (zeros 32 (.int .u8 0)).toArray := by
  rw [row_setRow_other _ _ _ (by omega), row_below hu1 (by omega)]
  exact rB1
 have rA2 : row (u1.setRow w.heap.size (u8s a).toArray) w.heap.size = (u8s a).toArray := row_setRow_same (by rw [ru1, rA1d]; simp) (by rw [ru1, rA1d]; simp [l1])
 have bb2 : Below w.heap.size w (u1.setRow w.heap.size (u8s a).toArray) := Below.setRow (Below.trans (Below.drew bb1) (hu1.mono (by omega))) (by omega) _
 obtain ⟨w2, hw2⟩ : ∃ v, u1.setRow w.heap.size (u8s a).toArray = v := ⟨_, rfl⟩
 have z2 : w2.heap.size = u1.heap.size := by rw [← hw2, setRow_size]
 rw [hw2] at hS rB2 rA2 bb2 ⊢
 clear hw2 ru1 hu1
 refine wpAnyR_store (i := 7) (b := w.heap.size + 1) (c := (u8s b).toArray) opt_ rfl rfl kr_ (by simp; (try omega)) hS (by rw [rB2]; simp; (try omega)) (fun w1 hr => by rw [rB2] at hr; go_simp; (try rfl)) (fun u3 hu3 ru3 hS => ?_)
 refine wpAnyR_done kr_ (fun wN hN => ?_) _
 have zu3 := hu3.size
 have rBN : row wN (w.heap.size + 1) = (u8s b).toArray := by
  rw [row_below hN (by rw [setRow_size]; omega)]
  exact row_setRow_same (by rw [ru3, rB2]; simp) (by rw [ru3, rB2]; simp [l2])
 have rAN : row wN w.heap.size = (u8s a).toArray := by
  rw [row_below hN (by rw [setRow_size]; omega), row_setRow_other _ _ _ (by omega), row_below hu3 (by omega)]
  exact rA2
 have bN : Below w.heap.size w wN := Below.trans (Below.setRow (Below.trans bb2 (hu3.mono (by omega))) (by omega) _) (hN.mono (by rw [setRow_size]; omega))
 clear hN hu3 ru3 hS
 go_wp2_with fail
 refine bodyPost_ret (results_2 rfl (resOk_row rfl ?_) (resOk_row rfl ?_)) rfl ?_
 ·
  rw [rAN]
  simp [l1]
 ·
  rw [rBN]
  simp [l2]
 ·
  exact ⟨by rw [rAN, rBN], bN⟩
end
section
open Go.RowKit
def nameL : List UInt8 := [78, 111, 105, 115, 101, 95, 78, 78, 112, 115, 107, 48, 95, 50, 53, 53, 49, 57, 95, 67, 104, 97, 67, 104, 97, 80, 111, 108, 121, 95, 83, 72, 65, 50, 53, 54]
attribute [local irreducible] shaK macL keysF keyN
def bothT (t : TalkT) (s : List UInt8) : TalkT := ⟨shaK (t.h ++ keyN (macL t.c s) [] 2), keyN (macL t.c s) [] 1, keyN (macL t.c s) [] 3, 0, t.s⟩
theorem bothT_ok {t : TalkT} (h : t.ok) (s : List UInt8) : (bothT t s).ok := ⟨shaK_length _, keyN_length _ _ 0, keyN_length _ _ 2, h.s, by simp [bothT]⟩
def firstT0 (secret : List UInt8) : TalkT := ⟨shaK (shaK nameL ++ []), shaK nameL, List.replicate 32 0, 0, secret⟩
theorem firstT0_ok (secret : List UInt8) (h : secret.length = 32) : (firstT0 secret).ok := ⟨shaK_length _, shaK_length _, by simp [firstT0], h, by simp [firstT0]⟩
def beginT (psk secret : List UInt8) : TalkT := bothT (firstT0 secret) psk
theorem beginT_ok (psk secret : List UInt8) (h : secret.length = 32) : (beginT psk secret).ok := bothT_ok (firstT0_ok secret h) psk
theorem begin_any (psk secret : List UInt8) (w : World) (hp : psk.length = 32) (hs : secret.length = 32) :
  Calls Tryz.prog 149 #[.agg (u8s psk).toArray, .agg (u8s secret).toArray] w fun e w' => ∃ S, e = .returned (.pointer (some ⟨S, 0, none⟩)) ∧ w.heap.size ≤ S ∧ S < w'.heap.size ∧ row w' S = (beginT psk secret).cells.toArray ∧ Below w.heap.size w w' := by
 have hyl := shaK_length nameL
 obtain ⟨y, hy⟩ : ∃ y, shaK nameL = y := ⟨_, rfl⟩
 rw [hy] at hyl
 go_enter Tryz.func149, Tryz.ntmps149
 go_wp2_with fail
 refine (sum_any nameL _ (by decide)).mono ?_
 rintro e w1 ⟨rfl, b1⟩
 have rP1 : row w1 w.heap.size = (u8s psk).toArray := by rw [row_below b1 (by simp only [alloc_sizeW]; omega)]; simp [go_sem]
 have rS1 : row w1 (w.heap.size + 1) = (u8s secret).toArray := by rw [row_below b1 (by simp only [alloc_sizeW]; omega)]; simp [go_sem]
 have z1 : w.heap.size + 1 < w1.heap.size := by have := b1.size; simp only [alloc_sizeW] at this; omega
 replace b1 := below_of b1 (show Below (w).heap.size w _ from by (repeat (first | exact Below.refl _ _ | refine Below.al ?_ _ | refine Below.drew ?_ | refine Below.sr ?_ _ | refine Below.sc ?_ _))) (by first | (simp; done) | (simp; omega) | omega)
 rw [hy]
 go_wp2_with fail
 obtain ⟨c0, hc0⟩ : ∃ c, (u8s y ++ (u8s y ++ (u8s [] ++ (zeros 32 (.int .u8 0) ++ .int .u64 0 :: u8s secret)))).toArray = c := ⟨_, rfl⟩
 have hcell : c0 = (⟨y, y, List.replicate 32 0, 0, secret⟩ : TalkT).cells.toArray := by
  rw [← hc0, TalkT.cells, u8s_zeros]
  rfl
 rw [hc0]
 obtain ⟨w2, hw2⟩ : ∃ v, (w1.alloc (.cells (u8s y).toArray 28)).alloc (.cells c0 347) = v := ⟨_, rfl⟩
 have z2 : w2.heap.size = w1.heap.size + 1 + 1 := by rw [← hw2, alloc_sizeW, alloc_sizeW]
 have r2 : row w2 (w1.heap.size + 1) = (⟨y, y, List.replicate 32 0, 0, secret⟩ : TalkT).cells.toArray := by
  rw [← hw2, row_alloc_at _ _ _ (by rw [alloc_sizeW]), hcell]
 have p2 : row w2 w.heap.size = (u8s psk).toArray := by
  rw [← hw2, row_alloc_past _ _ (by rw [alloc_sizeW]; omega), row_alloc_past _ _ (by omega)]
  exact rP1
 have b2 : Below w.heap.size w w2 := by rw [← hw2]; exact Below.alloc (Below.alloc b1 (by omega) _) (by rw [alloc_sizeW]; omega) _
 rw [hw2]
 clear hw2
 refine (tsum_any ⟨y, y, List.replicate 32 0, 0, secret⟩ [] (w1.heap.size + 1) w2 ⟨hyl, hyl, by simp, hs, by simp⟩ (by simp) r2).mono ?_
 rintro e w3 ⟨rfl, r3, b3⟩
 have z3 := b3.size
 have p3 := (b3.row (show w.heap.size < w2.heap.size by omega) (by omega)).trans p2
 have bb3 : Below w.heap.size w w3 := b2.trans ((b3.mono (by omega)).below (by omega))
 clear r2 p2 b2 b3
 go_wp2_with fail
 refine (text_any psk _ hp).mono ?_
 rintro e w4 ⟨rfl, b4⟩
 have z4 := b4.size
 have r4 := (row_below b4 (by omega)).trans r3
 have bb4 : Below w.heap.size w w4 := bb3.trans (b4.mono (by omega))
 go_wp2_with fail
 refine (both_any ⟨shaK (y ++ []), y, List.replicate 32 0, 0, secret⟩ psk (w1.heap.size + 1) w4 ⟨shaK_length _, hyl, by simp, hs, by simp⟩ (by omega) r4).mono ?_
 rintro e w5 ⟨rfl, r5, b5⟩
 have z5 := b5.size
 go_wp2_with fail
 go_ret
 refine ⟨w1.heap.size + 1, rfl, by omega, by omega, ?_, bb4.trans ((b5.mono (by omega)).below (by omega))⟩
 rw [r5, beginT, bothT, firstT0, hy]
end
end Go.Proofs.YtcebllbikmgjpaaGreat
