/- Texts of this proof, merged: SrW, SrB, SrL. -/
import Derived.Test.YtakkicppgkmokaaGreatSrAJ
import Derived.Test.YtakkicppgkmokaaGreatJ12
set_option linter.unusedSimpArgs false
set_option linter.unusedVariables false
set_option maxRecDepth 4000
namespace Go.Proofs.YtakkicppgkmokaaGreat
section
open Go.RowKit
theorem bigI_sum (a b c d : UInt8) : bigI a b c d = ((a.toNat * 256 + b.toNat) * 256 + c.toNat) * 256 + d.toNat := by
 have ha := a.toNat_lt
 have hb := b.toNat_lt
 have hc := c.toNat_lt
 have hd := d.toNat_lt
 have hw : ∀ n : Int, 0 ≤ n → n < 2 ^ 32 → IntKind.u32.wrap n = n := fun n h0 h1 => by rw [IntKind.wrap_u32]; omega
 unfold bigI
 rw [hw (a.toNat : Int) (by omega) (by omega), hw (b.toNat : Int) (by omega) (by omega), hw (c.toNat : Int) (by omega) (by omega), hw (d.toNat : Int) (by omega) (by omega),
  hw ((a.toNat : Int) * 16777216) (by omega) (by omega), hw ((b.toNat : Int) * 65536) (by omega) (by omega), hw ((c.toNat : Int) * 256) (by omega) (by omega),
  bits_join .u32 32 (by decide) hw 24 ((a.toNat : Int) * 16777216) ((b.toNat : Int) * 65536) (by omega) (by omega) (by omega) (by omega) (by omega) (by omega),
  bits_join .u32 32 (by decide) hw 16 ((a.toNat : Int) * 16777216 + (b.toNat : Int) * 65536) ((c.toNat : Int) * 256) (by omega) (by omega) (by omega) (by omega) (by omega) (by omega),
  bits_join .u32 32 (by decide) hw 8 ((a.toNat : Int) * 16777216 + (b.toNat : Int) * 65536 + (c.toNat : Int) * 256) (d.toNat : Int) (by omega) (by omega) (by omega) (by omega) (by omega) (by omega)]
 push_cast
 omega
theorem word_range (l : List Int) (h : ∀ i, 0 ≤ l.getD i 0 ∧ l.getD i 0 < 4294967296) (i : Nat) (v : Int) (hv : 0 ≤ v ∧ v < 4294967296) : ∀ j, 0 ≤ (l.set i v).getD j 0 ∧ (l.set i v).getD j 0 < 4294967296 := by
 intro j
 rcases Nat.lt_or_ge i l.length with hi | hi
 ·
  simp only [List.getD_eq_getElem?_getD, List.getElem?_set]
  split
  ·
   simp [hi]
   exact hv
  ·
   rw [← List.getD_eq_getElem?_getD]; exact h j
 ·
  rw [List.set_eq_of_length_le hi]; exact h j
theorem wdA_range (s : List UInt8) (i : Nat) : 0 ≤ wdA s i ∧ wdA s i < 4294967296 := by
 unfold wdA
 rw [bigI_sum]
 have ha := (s.getD (4 * i) 0).toNat_lt
 have hb := (s.getD (4 * i + 1) 0).toNat_lt
 have hc := (s.getD (4 * i + 2) 0).toNat_lt
 have hd := (s.getD (4 * i + 3) 0).toNat_lt
 omega
theorem wdB_range (l : List Int) (i : Nat) : 0 ≤ wdB l i ∧ wdB l i < 4294967296 := by
 unfold wdB
 rw [IntKind.wrap_u32]
 omega
theorem wd_range (s : List UInt8) (n : Nat) : ∀ j, 0 ≤ (upTo (wdF s) n (List.replicate 64 0)).getD j 0 ∧ (upTo (wdF s) n (List.replicate 64 0)).getD j 0 < 4294967296 := by
 induction n with
 | zero =>
  intro j
  rw [upTo, List.getD_eq_getElem?_getD, List.getElem?_replicate]
  split <;> simp
 | succ n ih =>
  rw [upTo, wdF]
  apply word_range _ ih
  split
  ·
   exact wdA_range s n
  ·
   exact wdB_range _ n
theorem wdB_ref (l : List Int) (i : Nat) : wdB l i = IntKind.u32.wrap (IntKind.u32.wrap (IntKind.u32.wrap (l.getD (i - 16) 0 + l.getD (i - 7) 0) + twoI (l.getD (i - 15) 0) 25 14 3) + twoI (l.getD (i - 2) 0) 15 13 10) := by
 unfold wdB
 simp only [IntKind.wrap_u32]
 omega
theorem flip_sub (e : Int) (h0 : 0 ≤ e) (h1 : e < 4294967296) : IntKind.u32.wrap (4294967295 - e) = bits .xor .u32 (if IntKind.u32.signed = true then -1 else IntKind.u32.max) e := by
 rw [if_neg (by decide), show IntKind.u32.max = 4294967295 by decide]
 obtain ⟨n, rfl⟩ := Int.eq_ofNat_of_zero_le h0
 have hn : n < 4294967296 := by omega
 unfold bits
 simp only
 have e4 : (4294967295 : Int) = ((4294967295 : Nat) : Int) := rfl
 rw [IntKind.wrap_u32, IntKind.wrap_u32, e4, BitVec.ofInt_natCast, BitVec.ofInt_natCast]
 simp only [BitVec.toNat_xor, BitVec.toNat_ofNat, show IntKind.u32.bits = 32 from rfl]
 rw [Nat.mod_eq_of_lt (show n < 2 ^ 32 by omega), Nat.mod_eq_of_lt (show 4294967295 < 2 ^ 32 by omega)]
 have hx : 4294967295 ^^^ n = 4294967295 - n := by
  have h2 := BitVec.toNat_not (x := BitVec.ofNat 32 n)
  have h3 : ~~~(BitVec.ofNat 32 n) = BitVec.allOnes 32 ^^^ BitVec.ofNat 32 n := by rw [BitVec.allOnes_xor]
  rw [h3] at h2
  simp only [BitVec.toNat_xor, BitVec.toNat_allOnes, BitVec.toNat_ofNat] at h2
  rw [Nat.mod_eq_of_lt (show n < 2 ^ 32 by omega)] at h2
  exact h2
 rw [hx]
 omega
end
section
open Go.RowKit
theorem mix_range (k x : List Int) (n : Nat) : ∀ (z : List Int), z.length = 8 → (∀ i, 0 ≤ z.getD i 0 ∧ z.getD i 0 < 4294967296) → ∀ i, 0 ≤ (upTo (mixF k x) n z).getD i 0 ∧ (upTo (mixF k x) n z).getD i 0 < 4294967296 := by
 intro z hz h
 induction n with
 | zero => exact h
 | succ n ih =>
  have hl : (upTo (mixF k x) n z).length = 8 := by rw [upTo_len (mixF_length k x), hz]
  rw [upTo]
  obtain ⟨a, b, c, d, e, f, g, q, hv⟩ := eight hl
  rw [hv] at ih ⊢
  intro i
  simp only [mixF]
  match i with
  | 0 => simp; omega
  | 1 => exact ih 0
  | 2 => exact ih 1
  | 3 => exact ih 2
  | 4 => simp; omega
  | 5 => exact ih 4
  | 6 => exact ih 5
  | 7 => exact ih 6
  | (j + 8) => simp
theorem u32_fit (n : Nat) (h : n < 4294967296) : IntKind.u32.wrap (n : Int) = (n : Int) := by rw [IntKind.wrap_u32]; omega
theorem u32_mul (a b : Nat) (hb : a * 256 = b) (h : b < 4294967296) : IntKind.u32.wrap ((a : Int) * 256) = (b : Int) := by rw [IntKind.wrap_u32]; omega
theorem u32_add (a c b : Nat) (hb : a + c = b) (h : b < 4294967296) : IntKind.u32.wrap ((a : Int) + (c : Int)) = (b : Int) := by rw [IntKind.wrap_u32]; omega
theorem wdA_nat (s : List UInt8) (m p p1 p2 p3 : Nat) (hp : 4 * m = p) (h1 : p + 1 = p1) (h2 : p + 2 = p2) (h3 : p + 3 = p3) (k0 : p < s.length) (k1 : p1 < s.length) (k2 : p2 < s.length) (k3 : p3 < s.length) : wdA s m = (((s[p].toNat * 256 + s[p1].toNat) * 256 + s[p2].toNat) * 256 + s[p3].toNat : Nat) := by
 rw [wdA, hp, h1, h2, h3, getD_elem _ _ _ k0, getD_elem _ _ _ k1, getD_elem _ _ _ k2, getD_elem _ _ _ k3, bigI_sum]
 push_cast
 rfl
attribute [local irreducible] twoI threeI upTo bigI
set_option maxRecDepth 20000 in
set_option maxHeartbeats 4000000 in
theorem block01_any (z k : List Int) (s : List UInt8) (w : World) (hh : z.length = 8) (hs : s.length = 64) (hk : k.length = 64) (hz4 : ∀ i, 0 ≤ z.getD i 0 ∧ z.getD i 0 < 4294967296) :
  Calls Tryz.prog 101 #[.agg (u32s z).toArray, .string ⟨s.toArray⟩, .agg (u32s k).toArray] w fun e w' => e = .returned (.agg (u32s (mixL z (wdL s) k)).toArray) ∧ Below w.heap.size w w' := by
 have hsI : (s.length : Int) = 64 := by omega
 go_enter Tryz.func101, Tryz.ntmps101
 obtain ⟨W, hW⟩ : ∃ v, (((w.alloc (.cells (u32s z).toArray 137)).alloc (.cells (u32s k).toArray 135)).alloc (.cells (zeros 8 (.int .u32 0)).toArray 137)).alloc (.cells (zeros 64 (.int .u32 0)).toArray 135) = v := ⟨_, rfl⟩
 have rZ : row W w.heap.size = (u32s z).toArray := by rw [← hW]; simp [go_sem]
 have rK : row W (w.heap.size + 1) = (u32s k).toArray := by rw [← hW]; simp [go_sem]
 have rR : row W (w.heap.size + 2) = (zeros 8 (.int .u32 0)).toArray := by rw [← hW]; simp [go_sem]
 have rV : row W (w.heap.size + 3) = (zeros 64 (.int .u32 0)).toArray := by rw [← hW]; simp [go_sem]
 have zW : W.heap.size = w.heap.size + 4 := by rw [← hW]; simp
 have bW : Below w.heap.size w W := by
  rw [← hW]
  (repeat (first | exact Below.refl _ _ | refine Below.al ?_ _ | refine Below.drew ?_ | refine Below.sr ?_ _ | refine Below.sc ?_ _))
 go_wp2_with fail
 clear hW
 go_loopw [8] (fun i wr => ∃ m : Nat, m ≤ 64 ∧ i = .int .i64 m ∧ row wr (w.heap.size + 1 + 1 + 1) = (u32s (upTo (wdF s) m (List.replicate 64 0))).toArray ∧ row wr (w.heap.size + 1 + 1) = (zeros 8 (.int .u32 0)).toArray ∧ row wr (w.heap.size + 1) = (u32s k).toArray ∧ row wr w.heap.size = (u32s z).toArray ∧ w.heap.size + 1 + 1 + 1 < wr.heap.size ∧ Below w.heap.size w wr) (fun i _ => 64 - (intOf i).toNat)
 case atStart =>
  refine ⟨0, by omega, rfl, ?_, rR, rK, rZ, by omega, bW⟩
  rw [upTo, u32s_zeros]
  exact rV
 case round =>
  clear rZ rK rR rV bW zW
  obtain ⟨m, hm, rfl, hV, hR, hK, hZ, hz, hbel⟩ := hrel
  obtain ⟨L, hL⟩ : ∃ L, upTo (wdF s) m (List.replicate 64 0) = L := ⟨_, rfl⟩
  have hLl : L.length = 64 := by rw [← hL, upTo_len (wdF_length _)]; simp
  have hLr := wd_range s m
  rw [hL] at hV hLr
  have HL := Lib.hid hL
  have HR := Lib.hid hLr
  clear hL hLr
  by_cases hlt : m < 64
  ·
   have h1 : (m : Int) < 64 := by omega
   have h3 : m < L.length := by omega
   by_cases h16 : m < 16
   ·
    have j1 : (m : Int) < 16 := by omega
    obtain ⟨p, hp⟩ : ∃ p, 4 * m = p := ⟨_, rfl⟩
    obtain ⟨p1, hp1⟩ : ∃ q, p + 1 = q := ⟨_, rfl⟩
    obtain ⟨p2, hp2⟩ : ∃ q, p + 2 = q := ⟨_, rfl⟩
    obtain ⟨p3, hp3⟩ : ∃ q, p + 3 = q := ⟨_, rfl⟩
    have e0 : (4 : Int) * m = p := by omega
    have e1 : (p : Int) + 1 = p1 := by omega
    have e2 : (p : Int) + 2 = p2 := by omega
    have e3 : (p : Int) + 3 = p3 := by omega
    have k0 : p < s.length := by omega
    have k1 : p1 < s.length := by omega
    have k2 : p2 < s.length := by omega
    have k3 : p3 < s.length := by omega
    have b0 : (p : Int) < 64 := by omega
    have b1 : (p1 : Int) < 64 := by omega
    have b2 : (p2 : Int) < 64 := by omega
    have b3 : (p3 : Int) < 64 := by omega
    have q0 : IntKind.i64.wrap (p : Int) = p := wrapN _ _ rfl (by omega)
    have q1 : IntKind.i64.wrap (p1 : Int) = p1 := wrapN _ _ rfl (by omega)
    have q2 : IntKind.i64.wrap (p2 : Int) = p2 := wrapN _ _ rfl (by omega)
    have q3 : IntKind.i64.wrap (p3 : Int) = p3 := wrapN _ _ rfl (by omega)
    have hwd := wdA_nat s m p p1 p2 p3 hp hp1 hp2 hp3 k0 k1 k2 k3
    have v0 := s[p].toNat_lt
    have v1 := s[p1].toNat_lt
    have v2 := s[p2].toNat_lt
    have v3 := s[p3].toNat_lt
    obtain ⟨c0, hc0⟩ : ∃ c, s[p].toNat = c := ⟨_, rfl⟩
    obtain ⟨c1, hc1⟩ : ∃ c, s[p1].toNat = c := ⟨_, rfl⟩
    obtain ⟨c2, hc2⟩ : ∃ c, s[p2].toNat = c := ⟨_, rfl⟩
    obtain ⟨c3, hc3⟩ : ∃ c, s[p3].toNat = c := ⟨_, rfl⟩
    rw [hc0, hc1, hc2, hc3] at hwd
    rw [hc0] at v0
    rw [hc1] at v1
    rw [hc2] at v2
    rw [hc3] at v3
    obtain ⟨A1, hA1⟩ : ∃ A, c0 * 256 = A := ⟨_, rfl⟩
    obtain ⟨A2, hA2⟩ : ∃ A, A1 + c1 = A := ⟨_, rfl⟩
    obtain ⟨A3, hA3⟩ : ∃ A, A2 * 256 = A := ⟨_, rfl⟩
    obtain ⟨A4, hA4⟩ : ∃ A, A3 + c2 = A := ⟨_, rfl⟩
    obtain ⟨A5, hA5⟩ : ∃ A, A4 * 256 = A := ⟨_, rfl⟩
    obtain ⟨A6, hA6⟩ : ∃ A, A5 + c3 = A := ⟨_, rfl⟩
    rw [hA1, hA2, hA3, hA4, hA5, hA6] at hwd
    have w0 := u32_fit c0 (by omega)
    have w1 := u32_fit c1 (by omega)
    have w2 := u32_fit c2 (by omega)
    have w3 := u32_fit c3 (by omega)
    have f1 := u32_mul c0 A1 hA1 (by omega)
    have f2 := u32_add A1 c1 A2 hA2 (by omega)
    have f3 := u32_mul A2 A3 hA3 (by omega)
    have f4 := u32_add A3 c2 A4 hA4 (by omega)
    have f5 := u32_mul A4 A5 hA5 (by omega)
    have f6 := u32_add A5 c3 A6 hA6 (by omega)
    have HW := Lib.hid hwd
    clear hwd hA1 hA2 hA3 hA4 hA5 hA6 hp hp1 hp2 hp3 v0 v1 v2 v3
    go_wp2_with fail
    have hVd : row wr.drew (w.heap.size + 1 + 1 + 1) = (u32s L).toArray := hV
    refine wp_region_beginR [] rfl (by simp only [Rws]; (repeat (first | exact trivial | refine ⟨(by first | assumption | (simp [go_sem, *]; done)), (by first | omega | (simp; done) | (simp; omega)), ?_⟩))) (fun hS => ?_)
    refine qp 0 hS ?_
    refine qp 1 hS ?_
    refine qp 2 hS ?_
    refine qp 3 hS ?_
    refine qp 4 hS ?_
    refine qp 5 hS ?_
    refine qp 6 hS ?_
    refine qp 7 hS ?_
    refine qp 8 hS ?_
    refine qp 9 hS ?_
    refine qp 10 hS ?_
    refine qp 11 hS ?_
    refine qp 12 hS ?_
    refine qp 13 hS ?_
    refine qp 14 hS ?_
    refine qp 15 hS ?_
    refine qp 16 hS ?_
    refine qp 17 hS ?_
    refine qp 18 hS ?_
    refine qp 19 hS ?_
    refine qp 20 hS ?_
    refine qp 21 hS ?_
    refine qp 22 hS ?_
    refine qp 23 hS ?_
    refine qp 24 hS ?_
    refine qp 25 hS ?_
    refine qp 26 hS ?_
    refine qp 27 hS ?_
    refine qp 28 hS ?_
    refine qp 29 hS ?_
    refine qp 30 hS ?_
    refine wpAnyR_store (i := 31) (b := w.heap.size + 1 + 1 + 1) (c := (u32s (L.set m (A6 : Int))).toArray) (by simp only [List.getElem?_toArray, List.getElem?_cons_succ, List.getElem?_cons_zero]; rfl) rfl rfl (by kernel_rfl) (by simp; (try omega)) hS (by rw [hVd]; simp; (try omega)) (fun w1 hr => by rw [hVd] at hr; go_simp; (try rfl)) (fun u1 hu1 ru1 hS => ?_)
    refine wpAnyR_done (by kernel_rfl) (fun wN hN => ?_) _
    have z1 : wr.heap.size ≤ u1.heap.size := hu1.size
    have zN := hN.size
    rw [setRow_size] at zN
    have c1 : Below w.heap.size w u1 := Below.trans (Below.drew hbel) (hu1.mono (by show w.heap.size ≤ wr.heap.size; omega))
    have cc : Below wr.heap.size wr u1 := Below.trans (Below.drew (Below.refl _ _)) hu1
    have bN : Below w.heap.size w wN := Below.trans (Below.setRow c1 (by omega) _) (hN.mono (by rw [setRow_size]; omega))
    have hVN : row wN (w.heap.size + 1 + 1 + 1) = (u32s (L.set m (A6 : Int))).toArray := by
     rw [row_below hN (by rw [setRow_size]; omega)]
     exact row_setRow_same (by rw [ru1, hVd]; simp; omega) (by rw [ru1, hVd]; simp)
    have hRN : row wN (w.heap.size + 1 + 1) = (zeros 8 (.int .u32 0)).toArray := by
     rw [row_below hN (by rw [setRow_size]; omega), row_setRow_other _ _ _ (by omega), row_below cc (by omega)]
     exact hR
    have hKN : row wN (w.heap.size + 1) = (u32s k).toArray := by
     rw [row_below hN (by rw [setRow_size]; omega), row_setRow_other _ _ _ (by omega), row_below cc (by omega)]
     exact hK
    have hZN : row wN w.heap.size = (u32s z).toArray := by
     rw [row_below hN (by rw [setRow_size]; omega), row_setRow_other _ _ _ (by omega), row_below cc (by omega)]
     exact hZ
    clear hu1 ru1 hS hN c1 cc
    go_wp2_with fail
    go_roundw
    case rel =>
     refine ⟨m + 1, by omega, rfl, ?_, hRN, hKN, hZN, by omega, bN⟩
     rw [hVN, upTo, HL.out, wdF, if_pos h16, HW.out]
    case measure => simp [intOf]; omega
   ·
    skip
    have j1 : ¬ (m : Int) < 16 := by omega
    have hml : 16 ≤ m := by omega
    obtain ⟨y, hy⟩ : ∃ y, wdB L m = y := ⟨_, rfl⟩
    obtain ⟨a16, ha16⟩ : ∃ q, m - 16 = q := ⟨_, rfl⟩
    have e16 : (m : Int) - 16 = a16 := by omega
    have l16 : a16 < L.length := by omega
    have b16 : (a16 : Int) < 64 := by omega
    have c16 : a16 < 64 := by omega
    have w16 : IntKind.i64.wrap (a16 : Int) = a16 := wrapN _ _ rfl (by omega)
    obtain ⟨a15, ha15⟩ : ∃ q, m - 15 = q := ⟨_, rfl⟩
    have e15 : (m : Int) - 15 = a15 := by omega
    have l15 : a15 < L.length := by omega
    have b15 : (a15 : Int) < 64 := by omega
    have c15 : a15 < 64 := by omega
    have w15 : IntKind.i64.wrap (a15 : Int) = a15 := wrapN _ _ rfl (by omega)
    obtain ⟨a7, ha7⟩ : ∃ q, m - 7 = q := ⟨_, rfl⟩
    have e7 : (m : Int) - 7 = a7 := by omega
    have l7 : a7 < L.length := by omega
    have b7 : (a7 : Int) < 64 := by omega
    have c7 : a7 < 64 := by omega
    have w7 : IntKind.i64.wrap (a7 : Int) = a7 := wrapN _ _ rfl (by omega)
    obtain ⟨a2, ha2⟩ : ∃ q, m - 2 = q := ⟨_, rfl⟩
    have e2 : (m : Int) - 2 = a2 := by omega
    have l2 : a2 < L.length := by omega
    have b2 : (a2 : Int) < 64 := by omega
    have c2 : a2 < 64 := by omega
    have w2 : IntKind.i64.wrap (a2 : Int) = a2 := wrapN _ _ rfl (by omega)
    obtain ⟨xa, hxa⟩ : ∃ v, L[a15] = v := ⟨_, rfl⟩
    have rgxa := HR.out a15
    rw [getD_elem _ _ _ l15, hxa] at rgxa
    have Txa1 := fun w => rightR_any xa 7 7 25 rfl rfl (by omega) (by omega) w rgxa.1 rgxa.2
    have Txa2 := fun w => rightR_any xa 18 18 14 rfl rfl (by omega) (by omega) w rgxa.1 rgxa.2
    have Txa3 := fun w => shiftR_any xa 3 3 rfl (by omega) w rgxa.1 rgxa.2
    have hxat : twoI xa 25 14 3 = bits .xor .u32 (bits .xor .u32 (rotI xa 25) (rotI xa 14)) (xa / 2 ^ 3) := by unfold twoI; rfl
    obtain ⟨pxa, hpxa⟩ : ∃ v, rotI xa 25 = v := ⟨_, rfl⟩
    obtain ⟨qxa, hqxa⟩ : ∃ v, rotI xa 14 = v := ⟨_, rfl⟩
    obtain ⟨sxa, hsxa⟩ : ∃ v, xa / 2 ^ 3 = v := ⟨_, rfl⟩
    rw [hpxa] at Txa1 hxat
    rw [hqxa] at Txa2 hxat
    rw [hsxa] at Txa3 hxat
    obtain ⟨oxa, hoxa⟩ : ∃ v, bits .xor .u32 pxa qxa = v := ⟨_, rfl⟩
    obtain ⟨txa, htxa⟩ : ∃ v, twoI xa 25 14 3 = v := ⟨_, rfl⟩
    rw [hoxa, htxa] at hxat
    have Exa := hxat.symm
    have Kxa1 := Lib.hid Txa1
    have Kxa2 := Lib.hid Txa2
    have Kxa3 := Lib.hid Txa3
    clear Txa1 Txa2 Txa3 hpxa hqxa hsxa hxat rgxa
    obtain ⟨xb, hxb⟩ : ∃ v, L[a2] = v := ⟨_, rfl⟩
    have rgxb := HR.out a2
    rw [getD_elem _ _ _ l2, hxb] at rgxb
    have Txb1 := fun w => rightR_any xb 17 17 15 rfl rfl (by omega) (by omega) w rgxb.1 rgxb.2
    have Txb2 := fun w => rightR_any xb 19 19 13 rfl rfl (by omega) (by omega) w rgxb.1 rgxb.2
    have Txb3 := fun w => shiftR_any xb 10 10 rfl (by omega) w rgxb.1 rgxb.2
    have hxbt : twoI xb 15 13 10 = bits .xor .u32 (bits .xor .u32 (rotI xb 15) (rotI xb 13)) (xb / 2 ^ 10) := by unfold twoI; rfl
    obtain ⟨pxb, hpxb⟩ : ∃ v, rotI xb 15 = v := ⟨_, rfl⟩
    obtain ⟨qxb, hqxb⟩ : ∃ v, rotI xb 13 = v := ⟨_, rfl⟩
    obtain ⟨sxb, hsxb⟩ : ∃ v, xb / 2 ^ 10 = v := ⟨_, rfl⟩
    rw [hpxb] at Txb1 hxbt
    rw [hqxb] at Txb2 hxbt
    rw [hsxb] at Txb3 hxbt
    obtain ⟨oxb, hoxb⟩ : ∃ v, bits .xor .u32 pxb qxb = v := ⟨_, rfl⟩
    obtain ⟨txb, htxb⟩ : ∃ v, twoI xb 15 13 10 = v := ⟨_, rfl⟩
    rw [hoxb, htxb] at hxbt
    have Exb := hxbt.symm
    have Kxb1 := Lib.hid Txb1
    have Kxb2 := Lib.hid Txb2
    have Kxb3 := Lib.hid Txb3
    clear Txb1 Txb2 Txb3 hpxb hqxb hsxb hxbt rgxb
    have hY : IntKind.u32.wrap (IntKind.u32.wrap (IntKind.u32.wrap (L[a16] + L[a7]) + txa) + txb) = y := by
     rw [← hy, wdB_ref, ha16, ha15, ha7, ha2, getD_elem _ _ _ l16, getD_elem _ _ _ l15, getD_elem _ _ _ l7, getD_elem _ _ _ l2, hxa, hxb, htxa, htxb]
    have HY := Lib.hid hY
    have HW := Lib.hid hy
    have HTA := Lib.hid htxa
    have HTB := Lib.hid htxb
    have HXA := Lib.hid hxa
    have HXB := Lib.hid hxb
    clear hY hy ha16 ha15 ha7 ha2 htxa htxb
    go_wp2_with fail
    refine wp_region_beginR [(w.heap.size + 1 + 1 + 1, (u32s L).toArray)] rfl (by simp only [Rws]; (repeat (first | exact trivial | refine ⟨(by first | assumption | (simp [go_sem, *]; done)), (by first | omega | (simp; done) | (simp; omega)), ?_⟩))) (fun hS => ?_)
    refine qp 0 hS ?_
    refine qp 1 hS ?_
    refine qp 2 hS ?_
    refine qp 3 hS ?_
    refine qp 4 hS ?_
    refine qp 5 hS ?_
    refine qp 6 hS ?_
    refine qp 7 hS ?_
    refine qp 8 hS ?_
    refine qp 9 hS ?_
    refine wpAnyR_done (by kernel_rfl) (fun w2 b2 => ?_) _
    replace b2 : Below (wr).heap.size (wr) w2 := below_step (Below.drew (Below.refl _ _)) b2
    have z2 := b2.size
    have hV2 := (row_below b2 (by omega)).trans hV
    have hR2 := (row_below b2 (by omega)).trans hR
    have hK2 := (row_below b2 (by omega)).trans hK
    have hZ2 := (row_below b2 (by omega)).trans hZ
    have hb2 := hbel.trans (b2.mono (by omega))
    have zw2 : w.heap.size + 1 + 1 + 1 < w2.heap.size := by omega
    clear b2 hV hR hK hZ hbel hS
    go_wp2_with fail
    have hVd : row w2.drew (w.heap.size + 1 + 1 + 1) = (u32s L).toArray := hV2
    refine wp_region_beginK 29 [(w.heap.size + 1 + 1 + 1, (u32s L).toArray)] [] rfl (by simp only [Rws]; (repeat (first | exact trivial | refine ⟨(by first | assumption | (simp [go_sem, *]; done)), (by first | omega | (simp; done) | (simp; omega)), ?_⟩))) (fun hS => ?_)
    refine kp 0 hS ?_
    refine kp 1 hS ?_
    refine kp 2 hS ?_
    refine kp 3 hS ?_
    refine kp 4 hS ?_
    refine kp 5 hS ?_
    refine kp 6 hS ?_
    refine kp 7 hS ?_
    refine kp 8 hS ?_
    refine kp 9 hS ?_
    refine kp 10 hS ?_
    refine kp 12 hS ?_
    refine kp 15 hS ?_
    refine kp 19 hS ?_
    refine kp 21 hS ?_
    refine kp 24 hS ?_
    refine wpAnyK_take (i := 11) (v := ?_) (by simp only [List.getElem?_toArray, List.getElem?_cons_succ, List.getElem?_cons_zero]; rfl) (by kernel_rfl) (by kernel_rfl) (by kernel_rfl) (by kernel_rfl) (by first | exact fun _ _ _ h => h | exact fun _ _ _ h => by cases h.1) (Rws.grow _) (Or.inl ⟨by rfl, ?_⟩) hS ?_
    rotate_left
    ·
     intro w' hS'
     simp only [Rws] at hS'
     go_simp
     with_reducible refine (Kxa1.out _).mono ?_
     rintro e w'' ⟨rfl, hb⟩
     refine ⟨_, rfl, ?_, hb⟩
     rfl
    (try simp only [Act.put, List.setIfInBounds_toArray, List.set_cons_zero, List.set_cons_succ])
    refine wpAnyK_take (i := 13) (v := ?_) (by simp only [List.getElem?_toArray, List.getElem?_cons_succ, List.getElem?_cons_zero]; rfl) (by kernel_rfl) (by kernel_rfl) (by kernel_rfl) (by kernel_rfl) (by first | exact fun _ _ _ h => h | exact fun _ _ _ h => by cases h.1) (Rws.grow _) (Or.inl ⟨by rfl, ?_⟩) hS ?_
    rotate_left
    ·
     intro w' hS'
     simp only [Rws] at hS'
     go_simp
     with_reducible refine (Kxa2.out _).mono ?_
     rintro e w'' ⟨rfl, hb⟩
     refine ⟨_, rfl, ?_, hb⟩
     rfl
    (try simp only [Act.put, List.setIfInBounds_toArray, List.set_cons_zero, List.set_cons_succ])
    refine kp 14 hS ?_
    refine wpAnyK_take (i := 16) (v := ?_) (by simp only [List.getElem?_toArray, List.getElem?_cons_succ, List.getElem?_cons_zero]; rfl) (by kernel_rfl) (by kernel_rfl) (by kernel_rfl) (by kernel_rfl) (by first | exact fun _ _ _ h => h | exact fun _ _ _ h => by cases h.1) (Rws.grow _) (Or.inl ⟨by rfl, ?_⟩) hS ?_
    rotate_left
    ·
     intro w' hS'
     simp only [Rws] at hS'
     go_simp
     with_reducible refine (Kxa3.out _).mono ?_
     rintro e w'' ⟨rfl, hb⟩
     refine ⟨_, rfl, ?_, hb⟩
     rfl
    (try simp only [Act.put, List.setIfInBounds_toArray, List.set_cons_zero, List.set_cons_succ])
    refine kp 17 hS ?_
    refine kp 18 hS ?_
    refine wpAnyK_take (i := 20) (v := ?_) (by simp only [List.getElem?_toArray, List.getElem?_cons_succ, List.getElem?_cons_zero]; rfl) (by kernel_rfl) (by kernel_rfl) (by kernel_rfl) (by kernel_rfl) (by first | exact fun _ _ _ h => h | exact fun _ _ _ h => by cases h.1) (Rws.grow _) (Or.inl ⟨by rfl, ?_⟩) hS ?_
    rotate_left
    ·
     intro w' hS'
     simp only [Rws] at hS'
     go_simp
     with_reducible refine (Kxb1.out _).mono ?_
     rintro e w'' ⟨rfl, hb⟩
     refine ⟨_, rfl, ?_, hb⟩
     rfl
    (try simp only [Act.put, List.setIfInBounds_toArray, List.set_cons_zero, List.set_cons_succ])
    refine wpAnyK_take (i := 22) (v := ?_) (by simp only [List.getElem?_toArray, List.getElem?_cons_succ, List.getElem?_cons_zero]; rfl) (by kernel_rfl) (by kernel_rfl) (by kernel_rfl) (by kernel_rfl) (by first | exact fun _ _ _ h => h | exact fun _ _ _ h => by cases h.1) (Rws.grow _) (Or.inl ⟨by rfl, ?_⟩) hS ?_
    rotate_left
    ·
     intro w' hS'
     simp only [Rws] at hS'
     go_simp
     with_reducible refine (Kxb2.out _).mono ?_
     rintro e w'' ⟨rfl, hb⟩
     refine ⟨_, rfl, ?_, hb⟩
     rfl
    (try simp only [Act.put, List.setIfInBounds_toArray, List.set_cons_zero, List.set_cons_succ])
    refine kp 23 hS ?_
    refine wpAnyK_take (i := 25) (v := ?_) (by simp only [List.getElem?_toArray, List.getElem?_cons_succ, List.getElem?_cons_zero]; rfl) (by kernel_rfl) (by kernel_rfl) (by kernel_rfl) (by kernel_rfl) (by first | exact fun _ _ _ h => h | exact fun _ _ _ h => by cases h.1) (Rws.grow _) (Or.inl ⟨by rfl, ?_⟩) hS ?_
    rotate_left
    ·
     intro w' hS'
     simp only [Rws] at hS'
     go_simp
     with_reducible refine (Kxb3.out _).mono ?_
     rintro e w'' ⟨rfl, hb⟩
     refine ⟨_, rfl, ?_, hb⟩
     rfl
    (try simp only [Act.put, List.setIfInBounds_toArray, List.set_cons_zero, List.set_cons_succ])
    refine kp 26 hS ?_
    refine kp 27 hS ?_
    refine kp 28 hS ?_
    refine wpAnyK_store (k := 29) (by simp only [List.getElem?_toArray, List.getElem?_cons_succ, List.getElem?_cons_zero]; rfl) rfl rfl (by kernel_rfl) (fun u1 hu1 => ?_)
    have cc : Below w2.heap.size w2 u1 := Below.trans (Below.drew (Below.refl _ _)) hu1
    have ru1 : row u1 (w.heap.size + 1 + 1 + 1) = (u32s L).toArray := (row_below cc (by omega)).trans hV2
    have z1 : w2.heap.size ≤ u1.heap.size := hu1.size
    refine ⟨u1.setRow (w.heap.size + 1 + 1 + 1) (u32s (L.set m y)).toArray, by go_simp; rw [HY.out], trivial, fun hS => ?_⟩
    refine wpAnyR_done (by kernel_rfl) (fun wN hN => ?_) _
    have zN := hN.size
    rw [setRow_size] at zN
    have c1 : Below w.heap.size w u1 := hb2.trans (cc.mono (by omega))
    have bN : Below w.heap.size w wN := Below.trans (Below.setRow c1 (by omega) _) (hN.mono (by rw [setRow_size]; omega))
    have hVN : row wN (w.heap.size + 1 + 1 + 1) = (u32s (L.set m y)).toArray := by
     rw [row_below hN (by rw [setRow_size]; omega)]
     exact row_setRow_same (by rw [ru1]; simp; omega) (by rw [ru1]; simp)
    have hRN : row wN (w.heap.size + 1 + 1) = (zeros 8 (.int .u32 0)).toArray := by
     rw [row_below hN (by rw [setRow_size]; omega), row_setRow_other _ _ _ (by omega), row_below cc (by omega)]
     exact hR2
    have hKN : row wN (w.heap.size + 1) = (u32s k).toArray := by
     rw [row_below hN (by rw [setRow_size]; omega), row_setRow_other _ _ _ (by omega), row_below cc (by omega)]
     exact hK2
    have hZN : row wN w.heap.size = (u32s z).toArray := by
     rw [row_below hN (by rw [setRow_size]; omega), row_setRow_other _ _ _ (by omega), row_below cc (by omega)]
     exact hZ2
    clear hu1 ru1 hS hN c1 cc
    go_wp2_with fail
    go_roundw
    case rel =>
     refine ⟨m + 1, by omega, rfl, ?_, hRN, hKN, hZN, by omega, bN⟩
     rw [hVN, upTo, HL.out, wdF, if_neg h16, HW.out]
    case measure => simp [intOf]; omega
  ·
   skip
   obtain rfl : m = 64 := by omega
   rw [show ((64 : Nat) : Int) = 64 from rfl]
   have e : L = wdL s := HL.out.symm
   have hXl := hLl
   obtain ⟨X, hX⟩ : ∃ X, wdL s = X := ⟨_, rfl⟩
   rw [hX] at e
   rw [e] at hV hXl
   have HXX := Lib.hid hX
   clear hX e hLl HL HR
   obtain ⟨za, zb, zc, zd, ze, zf, zg, zh, hzv⟩ := eight hh
   obtain ⟨Z, hZZ⟩ : ∃ Z, (#[.int .u32 za, .int .u32 zb, .int .u32 zc, .int .u32 zd, .int .u32 ze, .int .u32 zf, .int .u32 zg, .int .u32 zh] : Array Value) = Z := ⟨_, rfl⟩
   have hZ2 : row wr w.heap.size = #[.int .u32 za, .int .u32 zb, .int .u32 zc, .int .u32 zd, .int .u32 ze, .int .u32 zf, .int .u32 zg, .int .u32 zh] := by rw [hZ, hzv]; simp [u32s]
   have HZV := Lib.hid hzv
   have HZZ := Lib.hid hZZ
   clear hZ hzv hZZ
   go_wp2_with fail
   refine wp_region_beginR [(w.heap.size, #[.int .u32 za, .int .u32 zb, .int .u32 zc, .int .u32 zd, .int .u32 ze, .int .u32 zf, .int .u32 zg, .int .u32 zh])] rfl (by simp only [Rws]; (repeat (first | exact trivial | refine ⟨(by first | assumption | (simp [go_sem, *]; done)), (by first | omega | (simp; done) | (simp; omega)), ?_⟩))) (fun hS => ?_)
   refine qp 0 hS ?_
   refine qp 1 hS ?_
   refine qp 2 hS ?_
   refine qp 3 hS ?_
   refine qp 4 hS ?_
   refine qp 5 hS ?_
   refine qp 6 hS ?_
   refine qp 7 hS ?_
   refine qp 8 hS ?_
   refine qp 9 hS ?_
   refine qp 10 hS ?_
   refine qp 11 hS ?_
   refine qp 12 hS ?_
   refine qp 13 hS ?_
   refine qp 14 hS ?_
   refine qp 15 hS ?_
   refine qp 16 hS ?_
   refine qp 17 hS ?_
   refine qp 18 hS ?_
   refine qp 19 hS ?_
   refine qp 20 hS ?_
   refine qp 21 hS ?_
   refine qp 22 hS ?_
   refine qp 23 hS ?_
   refine wpAnyR_done (by kernel_rfl) (fun w2 b2 => ?_) _
   replace b2 : Below (wr).heap.size (wr) w2 := below_step (Below.drew (Below.refl _ _)) b2
   have z2 := b2.size
   have hV2 := (row_below b2 (by omega)).trans hV
   have hR2 := (row_below b2 (by omega)).trans hR
   have hK2 := (row_below b2 (by omega)).trans hK
   have hZ3 := ((row_below b2 (by omega)).trans hZ2).trans HZZ.out
   have hb2 := hbel.trans (b2.mono (by omega))
   have zw2 : w.heap.size + 1 + 1 + 1 < w2.heap.size := by omega
   clear b2 hV hR hK hZ2 hbel hS
   have HZ4 := Lib.hid hz4
   clear hz4
   go_wp2_with fail
   go_loopw [11, 12, 13, 14, 15, 16, 17, 18, 19] (fun xa xb xc xd xe xf xg xh i wr => ∃ (m : Nat) (va vb vc vd ve vf vg vh : Int), m ≤ 64 ∧ i = .int .i64 m ∧ upTo (mixF k X) m z = [va, vb, vc, vd, ve, vf, vg, vh] ∧ xa = .int .u32 va ∧ xb = .int .u32 vb ∧ xc = .int .u32 vc ∧ xd = .int .u32 vd ∧ xe = .int .u32 ve ∧ xf = .int .u32 vf ∧ xg = .int .u32 vg ∧ xh = .int .u32 vh ∧ row wr (w.heap.size + 1 + 1 + 1) = (u32s X).toArray ∧ row wr (w.heap.size + 1 + 1) = (zeros 8 (.int .u32 0)).toArray ∧ row wr (w.heap.size + 1) = (u32s k).toArray ∧ row wr w.heap.size = Z ∧ w.heap.size + 1 + 1 + 1 < wr.heap.size ∧ Below w.heap.size w wr) (fun _ _ _ _ _ _ _ _ i _ => 64 - (intOf i).toNat)
   case atStart => exact ⟨0, za, zb, zc, zd, ze, zf, zg, zh, by omega, rfl, by rw [upTo]; exact HZV.out, rfl, rfl, rfl, rfl, rfl, rfl, rfl, rfl, hV2, hR2, hK2, hZ3, zw2, hb2⟩
   case round =>
    clear hV2 hR2 hK2 hZ3 zw2 hb2
    obtain ⟨m, va, vb, vc, vd, ve, vf, vg, vh, hm, rfl, hv, rfl, rfl, rfl, rfl, rfl, rfl, rfl, rfl, hV, hR, hK, hZ, hz, hbel⟩ := hrel
    have HV := Lib.hid hv
    have hmr := mix_range k X m z hh HZ4.out
    rw [hv] at hmr
    have rga : 0 ≤ va ∧ va < 4294967296 := hmr 0
    have rge : 0 ≤ ve ∧ ve < 4294967296 := hmr 4
    have rgs := Lib.hid hmr
    clear hv hmr
    by_cases hlt : m < 64
    ·
     have h1 : (m : Int) < 64 := by omega
     have kx : m < X.length := by omega
     have kk : m < k.length := by omega
     have Tpe := fun w => rightR_any ve 6 6 26 rfl rfl (by omega) (by omega) w rge.1 rge.2
     obtain ⟨pe, hpe⟩ : ∃ v, rotI ve 26 = v := ⟨_, rfl⟩
     rw [hpe] at Tpe
     have Kpe := Lib.hid Tpe
     have Tqe := fun w => rightR_any ve 11 11 21 rfl rfl (by omega) (by omega) w rge.1 rge.2
     obtain ⟨qe, hqe⟩ : ∃ v, rotI ve 21 = v := ⟨_, rfl⟩
     rw [hqe] at Tqe
     have Kqe := Lib.hid Tqe
     have Tse := fun w => rightR_any ve 25 25 7 rfl rfl (by omega) (by omega) w rge.1 rge.2
     obtain ⟨se, hse⟩ : ∃ v, rotI ve 7 = v := ⟨_, rfl⟩
     rw [hse] at Tse
     have Kse := Lib.hid Tse
     obtain ⟨oe, hoe⟩ : ∃ v, bits .xor .u32 pe qe = v := ⟨_, rfl⟩
     obtain ⟨te, hte⟩ : ∃ v, bits .xor .u32 oe se = v := ⟨_, rfl⟩
     have hthe : threeI ve 26 21 7 = te := by unfold threeI; rw [hpe, hqe, hse, hoe, hte]
     have Tpa := fun w => rightR_any va 2 2 30 rfl rfl (by omega) (by omega) w rga.1 rga.2
     obtain ⟨pa, hpa⟩ : ∃ v, rotI va 30 = v := ⟨_, rfl⟩
     rw [hpa] at Tpa
     have Kpa := Lib.hid Tpa
     have Tqa := fun w => rightR_any va 13 13 19 rfl rfl (by omega) (by omega) w rga.1 rga.2
     obtain ⟨qa, hqa⟩ : ∃ v, rotI va 19 = v := ⟨_, rfl⟩
     rw [hqa] at Tqa
     have Kqa := Lib.hid Tqa
     have Tsa := fun w => rightR_any va 22 22 10 rfl rfl (by omega) (by omega) w rga.1 rga.2
     obtain ⟨sa, hsa⟩ : ∃ v, rotI va 10 = v := ⟨_, rfl⟩
     rw [hsa] at Tsa
     have Ksa := Lib.hid Tsa
     obtain ⟨oa, hoa⟩ : ∃ v, bits .xor .u32 pa qa = v := ⟨_, rfl⟩
     obtain ⟨ta, hta⟩ : ∃ v, bits .xor .u32 oa sa = v := ⟨_, rfl⟩
     have htha : threeI va 30 19 10 = ta := by unfold threeI; rw [hpa, hqa, hsa, hoa, hta]
     obtain ⟨ne, hne⟩ : ∃ v, IntKind.u32.wrap (4294967295 - ve) = v := ⟨_, rfl⟩
     obtain ⟨ef, hef⟩ : ∃ v, bits .and .u32 ve vf = v := ⟨_, rfl⟩
     obtain ⟨ng, hng⟩ : ∃ v, bits .and .u32 ne vg = v := ⟨_, rfl⟩
     obtain ⟨ch, hch⟩ : ∃ v, bits .xor .u32 ef ng = v := ⟨_, rfl⟩
     obtain ⟨km, hkm⟩ : ∃ v, k[m] = v := ⟨_, rfl⟩
     obtain ⟨xm, hxm⟩ : ∃ v, X[m] = v := ⟨_, rfl⟩
     obtain ⟨t1, ht1⟩ : ∃ v, IntKind.u32.wrap (vh + te) = v := ⟨_, rfl⟩
     obtain ⟨t2, ht2⟩ : ∃ v, IntKind.u32.wrap (t1 + ch) = v := ⟨_, rfl⟩
     obtain ⟨t3, ht3⟩ : ∃ v, IntKind.u32.wrap (t2 + km) = v := ⟨_, rfl⟩
     obtain ⟨t4, ht4⟩ : ∃ v, IntKind.u32.wrap (t3 + xm) = v := ⟨_, rfl⟩
     obtain ⟨ab, hab⟩ : ∃ v, bits .and .u32 va vb = v := ⟨_, rfl⟩
     obtain ⟨ac, hac⟩ : ∃ v, bits .and .u32 va vc = v := ⟨_, rfl⟩
     obtain ⟨m1, hm1⟩ : ∃ v, bits .xor .u32 ab ac = v := ⟨_, rfl⟩
     obtain ⟨bc, hbc⟩ : ∃ v, bits .and .u32 vb vc = v := ⟨_, rfl⟩
     obtain ⟨mj, hmj⟩ : ∃ v, bits .xor .u32 m1 bc = v := ⟨_, rfl⟩
     obtain ⟨uu, huu⟩ : ∃ v, IntKind.u32.wrap (ta + mj) = v := ⟨_, rfl⟩
     have hT : tI ve vf vg vh (k.getD m 0) (X.getD m 0) = t4 := by
      unfold tI
      rw [← flip_sub ve rge.1 rge.2, hthe, hne, hef, hng, hch, getD_elem _ _ _ kk, getD_elem _ _ _ kx, hkm, hxm, ht1, ht2, ht3, ht4]
     have hU : uI va vb vc = uu := by
      unfold uI
      rw [htha, hab, hac, hm1, hbc, hmj, huu]
     have hN : upTo (mixF k X) (m + 1) z = [(t4 + uu) % 4294967296, va, vb, vc, (vd + t4) % 4294967296, ve, vf, vg] := by
      rw [upTo, HV.out]
      simp only [mixF]
      rw [hT, hU]
     have HN := Lib.hid hN
     have G1 : (te + vh) = (te + vh) := rfl
     have M1 : (vh + te) % 4294967296 = t1 := by rw [← ht1, IntKind.wrap_u32]
     have M2 : (t1 + ch) % 4294967296 = t2 := by rw [← ht2, IntKind.wrap_u32]
     have M3 : (t2 + km) % 4294967296 = t3 := by rw [← ht3, IntKind.wrap_u32]
     have M4 : (t3 + xm) % 4294967296 = t4 := by rw [← ht4, IntKind.wrap_u32]
     have M5 : (ta + mj) % 4294967296 = uu := by rw [← huu, IntKind.wrap_u32]
     have M6 : (4294967295 - ve) % 4294967296 = ne := by rw [← hne, IntKind.wrap_u32]
     clear hT hU hN hthe htha hpe hqe hse hpa hqa hsa Tpe Tqe Tse Tpa Tqa Tsa G1
     go_wp2_with fail
     refine (Kpe.out _).mono ?_
     rintro e y1 ⟨rfl, d1⟩
     have cd1 := d1
     go_wp2_with fail
     refine (Kqe.out _).mono ?_
     rintro e y2 ⟨rfl, d2⟩
     have cd2 := cd1.trans (d2.mono (by have := cd1.size; omega))
     go_wp2_with fail
     refine (Kse.out _).mono ?_
     rintro e y3 ⟨rfl, d3⟩
     have cd3 := cd2.trans (d3.mono (by have := cd2.size; omega))
     go_wp2_with fail
     have zy := cd3.size
     have hV3 := (row_below cd3 (by omega)).trans hV
     have hK3 := (row_below cd3 (by omega)).trans hK
     have zy1 : w.heap.size + 1 + 1 + 1 < y3.heap.size := by omega
     refine wp_region_beginR [(w.heap.size + 1, (u32s k).toArray), (w.heap.size + 1 + 1 + 1, (u32s X).toArray)] rfl (by simp only [Rws]; (repeat (first | exact trivial | refine ⟨(by first | assumption | (simp [go_sem, *]; done)), (by first | omega | (simp; done) | (simp; omega)), ?_⟩))) (fun hS => ?_)
     refine qp 0 hS ?_
     refine qp 1 hS ?_
     refine qp 2 hS ?_
     refine qp 3 hS ?_
     refine qp 4 hS ?_
     refine qp 5 hS ?_
     refine qp 6 hS ?_
     refine qp 7 hS ?_
     refine qp 8 hS ?_
     refine qp 9 hS ?_
     refine qp 10 hS ?_
     refine qp 11 hS ?_
     refine qp 12 hS ?_
     refine qp 13 hS ?_
     refine qp 14 hS ?_
     refine qp 15 hS ?_
     refine qp 16 hS ?_
     refine qp 17 hS ?_
     refine qp 18 hS ?_
     refine qp 19 hS ?_
     refine qp 20 hS ?_
     refine wpAnyR_done (by kernel_rfl) (fun y4 d4 => ?_) _
     replace d4 : Below (y3).heap.size (y3) y4 := below_step (Below.drew (Below.refl _ _)) d4
     have cd4 := cd3.trans (d4.mono (by omega))
     clear hS hV3 hK3 d1 d2 d3 d4
     go_wp2_with fail
     refine (Kpa.out _).mono ?_
     rintro e y5 ⟨rfl, d5⟩
     have cd5 := cd4.trans (d5.mono (by have := cd4.size; omega))
     go_wp2_with fail
     refine (Kqa.out _).mono ?_
     rintro e y6 ⟨rfl, d6⟩
     have cd6 := cd5.trans (d6.mono (by have := cd5.size; omega))
     go_wp2_with fail
     refine (Ksa.out _).mono ?_
     rintro e y7 ⟨rfl, d7⟩
     have cd7 := cd6.trans (d7.mono (by have := cd6.size; omega))
     go_wp2_with fail
     have zz := cd7.size
     have hV7 := (row_below cd7 (by omega)).trans hV
     have hR7 := (row_below cd7 (by omega)).trans hR
     have hK7 := (row_below cd7 (by omega)).trans hK
     have hZ7 := (row_below cd7 (by omega)).trans hZ
     have bb7 := hbel.trans (cd7.mono (by omega))
     clear hV hR hK hZ hbel
     go_roundw
     case rel => exact ⟨m + 1, _, _, _, _, _, _, _, _, by omega, rfl, HN.out, by first | rfl | simp [IntKind.wrap_u32], rfl, rfl, rfl, by first | rfl | simp [IntKind.wrap_u32], rfl, rfl, rfl, hV7, hR7, hK7, hZ7, by omega, bb7⟩
     case measure => simp [intOf]; omega
    ·
     skip
     obtain rfl : m = 64 := by omega
     rw [show ((64 : Nat) : Int) = 64 from rfl]
     have hZ5 : row wr w.heap.size = #[.int .u32 za, .int .u32 zb, .int .u32 zc, .int .u32 zd, .int .u32 ze, .int .u32 zf, .int .u32 zg, .int .u32 zh] := hZ.trans HZZ.out.symm
     have hml : mixL z (wdL s) k = [(za + va) % 4294967296, (zb + vb) % 4294967296, (zc + vc) % 4294967296, (zd + vd) % 4294967296, (ze + ve) % 4294967296, (zf + vf) % 4294967296, (zg + vg) % 4294967296, (zh + vh) % 4294967296] := by
      rw [mixL, HXX.out, HV.out, HZV.out]
      simp [upTo, addF, Int.add_comm]
     have HML := Lib.hid hml
     clear hml hZ hV hK
     go_wp2_with fail
     have hfin := row_setRow_same (w := wr) (g := w.heap.size + 1 + 1) (c := #[.int .u32 ((za + va) % 4294967296), .int .u32 ((zb + vb) % 4294967296), .int .u32 ((zc + vc) % 4294967296), .int .u32 ((zd + vd) % 4294967296), .int .u32 ((ze + ve) % 4294967296), .int .u32 ((zf + vf) % 4294967296), .int .u32 ((zg + vg) % 4294967296), .int .u32 ((zh + vh) % 4294967296)]) (by rw [hR]; simp) (by rw [hR]; simp)
     (try simp only [Exit.inBlock, Exit.then])
     refine bodyPost_ret (results_1 rfl (resOk_row rfl ?_)) rfl ?_
     ·
      rw [hfin]
      rfl
     ·
      exact ⟨by rw [hfin, HML.out]; simp [u32s], Below.setRow hbel (by omega) _⟩
end
section
open Go.RowKit
def tailL (n : Nat) : Nat → List UInt8
 | 0 => []
 | i + 1 => UInt8.ofNat (n / 256 ^ i % 256) :: tailL n i
theorem tailL_length (n i : Nat) : (tailL n i).length = i := by
 induction i with
 | zero => rfl
 | succ i ih => rw [tailL, List.length_cons, ih]
theorem byteI_nat (n k : Nat) : byteI ((n : Int) / 2 ^ (8 * k)) = UInt8.ofNat (n / 256 ^ k % 256) := by
 have h : (2 : Int) ^ (8 * k) = ((256 ^ k : Nat) : Int) := by
  rw [Int.pow_mul]
  push_cast
  try rfl
 rw [h, byteI]
 congr 1
theorem fillL_tail (s : List UInt8) : fillL s = s ++ ([128] ++ List.replicate (shPad s.length) 0) ++ tailL (8 * s.length) 8 := by
 rw [fillL]
 simp only [upTo, fillF, byteI_nat, tailL, List.append_assoc, List.cons_append, List.nil_append, Nat.sub_self, Nat.sub_zero, Nat.reduceSub]
theorem shPad_lt (n : Nat) : shPad n < 64 := by unfold shPad; omega
theorem shPad_at (n k : Nat) (h : k ≤ shPad n) : ((n + 1 + k) % 64 = 56 ∧ k = shPad n) ∨ ((n + 1 + k) % 64 ≠ 56 ∧ k < shPad n) := by
 unfold shPad at *
 omega
attribute [local irreducible] shPad fillL tailL
set_option maxRecDepth 20000 in
set_option maxHeartbeats 4000000 in
theorem fill01_any (s : List UInt8) (w : World) (hs : s.length ≤ 100000) :
  Calls Tryz.prog 100 #[.string ⟨s.toArray⟩] w fun e w' => e = .returned (.string ⟨(fillL s).toArray⟩) ∧ Below w.heap.size w w' := by
 have hsI : (s.length : Int) ≤ 100000 := by omega
 have hl3 : ¬ 9223372036854775807 < s.length + 1 := by omega
 have hp := shPad_lt s.length
 go_enter Tryz.func100, Tryz.ntmps100
 go_wp2_with fail
 go_loopw [3] (fun t wr => ∃ k : Nat, k ≤ shPad s.length ∧ t = .string ⟨(s ++ ([128] ++ List.replicate k 0)).toArray⟩ ∧ w = wr) (fun t _ => 200000 - (match t with | .string b => b.data.size | _ => 0))
 case atStart => exact ⟨0, by omega, by simp, rfl⟩
 case round =>
  obtain ⟨k, hk, rfl, rfl⟩ := hrel
  have hT := shPad_at s.length k hk
  obtain ⟨T, hTT⟩ : ∃ T, s ++ ([128] ++ List.replicate k (0 : UInt8)) = T := ⟨_, rfl⟩
  have hTl : T.length = s.length + 1 + k := by rw [← hTT]; simp; omega
  rw [hTT]
  have HT := Lib.hid hTT
  have hTI : (T.length : Int) ≤ 200000 := by omega
  have hl4 : ¬ 9223372036854775807 < T.length + 1 := by omega
  have htm : (T.length : Int).tmod 64 = ((T.length % 64 : Nat) : Int) := by rw [Int.tmod_eq_emod_of_nonneg (by omega)]; simp
  have htm2 : (T.length : Int) % 64 = ((T.length % 64 : Nat) : Int) := by simp
  have hTl2 := Lib.hid hTl
  obtain ⟨r, hr⟩ : ∃ r, T.length % 64 = r := ⟨_, rfl⟩
  rw [hr] at htm htm2
  rw [← hTl, hr] at hT
  have HR := Lib.hid hr
  clear hTT hr hTl
  rcases hT with ⟨rfl, hkp⟩ | ⟨hne, hkp⟩
  ·
   have e56 : ((56 : Nat) : Int) = 56 := rfl
   rw [e56] at htm htm2
   obtain ⟨N, hN⟩ : ∃ N, 8 * s.length = N := ⟨_, rfl⟩
   have hNI : IntKind.i64.wrap (8 * (s.length : Int)) = (N : Int) := wrapN _ _ (by omega) (by omega)
   have hNI2 : (8 : Int) * (s.length : Int) = (N : Int) := by omega
   have hN3 : N ≤ 800000 := by omega
   have HN := Lib.hid hN
   clear hN
   go_wp2_with fail
   go_loopw [4, 5, 6] (fun q t i wr => ∃ m : Nat, m ≤ 8 ∧ i = .int .i64 m ∧ q = .int .i64 ((N / 256 ^ m : Nat) : Int) ∧ t = .string ⟨(tailL N m).toArray⟩ ∧ Below w.heap.size w wr) (fun _ _ i _ => 8 - (intOf i).toNat)
   case atStart => exact ⟨0, by omega, rfl, by simp, by rw [show tailL N 0 = [] by unfold tailL; rfl], Below.refl _ _⟩
   case round =>
    obtain ⟨m, hm, rfl, rfl, rfl, hbel⟩ := hrel
    have hsz := hbel.size
    by_cases hlt : m < 8
    ·
     have h1 : (m : Int) < 8 := by omega
     have hts : tailL N (m + 1) = UInt8.ofNat (N / 256 ^ m % 256) :: tailL N m := by rw [tailL]
     have htl := tailL_length N m
     obtain ⟨q, hq⟩ : ∃ q, N / 256 ^ m = q := ⟨_, rfl⟩
     have hq2 : N / 256 ^ (m + 1) = q / 256 := by rw [Nat.pow_succ, ← Nat.div_div_eq_div_mul, hq]
     have hqN : q ≤ 800000 := by rw [← hq]; exact Nat.le_trans (Nat.div_le_self _ _) hN3
     rw [hq] at hts ⊢
     obtain ⟨d, hd⟩ : ∃ d, q % 256 = d := ⟨_, rfl⟩
     obtain ⟨q2, hqq⟩ : ∃ d, q / 256 = d := ⟨_, rfl⟩
     obtain ⟨m1, m2⟩ := modt _ _ hd
     obtain ⟨m3, m4⟩ := divt _ _ hqq
     have hd3 : d < 256 := by omega
     have hdw : IntKind.u8.wrap (d : Int) = (d : Int) := by rw [IntKind.wrap_u8]; omega
     have hdI : (d : Int) < 256 := by omega
     rw [hqq] at hq2
     rw [hd] at hts
     obtain ⟨t, ht⟩ : ∃ t, tailL N m = t := ⟨_, rfl⟩
     rw [ht] at hts htl ⊢
     have HS := Lib.hid hts
     have HQ := Lib.hid hq2
     have hl5 : ¬ 9223372036854775807 < 1 + t.length := by omega
     have hl6 : ¬ 9223372036854775807 < t.length + 1 := by omega
     have HTL := Lib.hid htl
     clear hts hq2 hq hd hqq ht htl
     go_wp2_with fail
     go_roundw
     case rel =>
      refine ⟨m + 1, by omega, rfl, by rw [HQ.out], ?_, Below.alloc hbel hsz _⟩
      rw [HS.out]
      try simp
     case measure => simp [intOf]; omega
    ·
     obtain rfl : m = 8 := by omega
     rw [show ((8 : Nat) : Int) = 8 from rfl]
     have htl := tailL_length N 8
     have hF : fillL s = T ++ tailL N 8 := by rw [fillL_tail, HN.out, ← hkp, HT.out]
     obtain ⟨t, ht⟩ : ∃ t, tailL N 8 = t := ⟨_, rfl⟩
     rw [ht] at htl hF ⊢
     have HF := Lib.hid hF
     have hl5 : ¬ 9223372036854775807 < T.length + t.length := by omega
     have hl6 : ¬ 9223372036854775807 < T.length + 8 := by omega
     clear hF ht
     go_wp2_with fail
     go_ret
     exact ⟨by rw [HF.out]; simp, hbel⟩
  ·
   have hneI : ¬ (r : Int) = 56 := by omega
   go_wp2_with fail
   go_roundw
   case rel =>
    refine ⟨k + 1, by omega, ?_, by first | rfl | trivial⟩
    rw [← HT.out, List.replicate_succ']
    simp
   case measure => have := hTl2.out; simp; omega
end
end Go.Proofs.YtakkicppgkmokaaGreat
