/- Contracts of the reference of chapter 4: the sum of a text. -/
import Derived.Test.YtakkicppgkmokaaGreatJ47
import Derived.Test.YtakkicppgkmokaaGreatJ48
set_option linter.unusedSimpArgs false
set_option linter.unusedVariables false
namespace Go.Proofs.YtakkicppgkmokaaGreat
open Go.RowKit
def ints8 (l : List UInt8) : List Nat := l.map UInt8.toNat
theorem ints8_length (l : List UInt8) : (ints8 l).length = l.length := by simp [ints8]
theorem ints8_dig (l : List UInt8) : Dig (ints8 l) := by
 intro x hx
 obtain ⟨b, _, rfl⟩ := List.mem_map.1 hx
 exact b.toNat_lt
theorem ints8_append (l m : List UInt8) : ints8 (l ++ m) = ints8 l ++ ints8 m := by simp [ints8]
theorem ints8_get (l : List UInt8) (i : Nat) (h : i < l.length) : (ints8 l)[i]'(by simpa [ints8] using h) = l[i].toNat := by simp [ints8]
def psV (k s : List UInt8) (j a : Nat) : Nat := (a + valB (ints8 ((s.drop (16 * j)).take 16) ++ [1])) * valB (clampN k 16) % 1361129467683753853853498429727072845819
def sumV (k s : List UInt8) : Nat := upTo (psV k s) ((s.length + 15) / 16) 0 + valB (ints8 (k.drop 16))
def sumF (k s : List UInt8) (i : Nat) (b : List UInt8) : List UInt8 := b.set i (UInt8.ofNat (sumV k s / 256 ^ i % 256))
def sumL (k s : List UInt8) : List UInt8 := upTo (sumF k s) 16 (List.replicate 16 0)
theorem sumF_length (k s : List UInt8) (i : Nat) (b : List UInt8) : (sumF k s i b).length = b.length := by simp [sumF]
theorem sumL_length (k s : List UInt8) : (sumL k s).length = 16 := by rw [sumL, upTo_len8 (sumF_length _ _)]; simp
theorem valB_digit (l : List Nat) (h : Dig l) (i : Nat) : l.getD i 0 = valB l / 256 ^ i % 256 := by
 induction l generalizing i with
 | nil => simp [valB]
 | cons a l ih =>
  have ha := h a (List.mem_cons_self ..)
  have hl : Dig l := fun x hx => h x (List.mem_cons_of_mem _ hx)
  cases i with
  | zero =>
   rw [valB]
   simp
   omega
  | succ i =>
   have e : (a + 256 * valB l) / 256 = valB l := by omega
   rw [valB, Nat.pow_succ, Nat.mul_comm (256 ^ i) 256, ← Nat.div_div_eq_div_mul, e, ← ih hl i]
   simp
attribute [local irreducible] upTo psV
set_option maxRecDepth 20000 in
set_option maxHeartbeats 4000000 in
theorem sumR_any (k s : List UInt8) (w : World) (hk : k.length = 32) (hs : s.length ≤ 100000) :
  Calls Tryz.prog 103 #[.agg (u8s k).toArray, .string ⟨s.toArray⟩] w fun e w' => e = .returned (.agg (u8s (sumL k s)).toArray) ∧ Below w.heap.size w w' := by
 have hs2 : (s.length : Int) ≤ 100000 := by omega
 have KC := Lib.hid (fun w => clampR_any k w hk)
 obtain ⟨r, hr⟩ : ∃ r, clampN k 16 = r := ⟨_, rfl⟩
 have hrl : r.length = 16 := by rw [← hr]; exact clampN_length k 16
 have hrd : Dig r := by rw [← hr]; exact clampN_dig k 16
 have hpsV : ∀ j a, psV k s j a = (a + valB (ints8 ((s.drop (16 * j)).take 16) ++ [1])) * valB r % 1361129467683753853853498429727072845819 := by intro j a; rw [psV, hr]
 rw [hr] at KC
 have HP := Lib.hid hpsV
 have HRL := Lib.hid hrl
 have hrp : 0 < r.length := by omega
 have hrp2 : r.length ≤ 16 := by omega
 clear hr hpsV hrl
 go_enter Tryz.func103, Tryz.ntmps103
 go_wp2_with fail
 (with_reducible refine (KC.out _).mono ?_)
 rintro e w1 ⟨v1, rfl, o1, b1⟩
 have rK : row w1 w.heap.size = (u8s k).toArray := by rw [row_below b1 (by simp; omega)]; simp [go_sem]
 have rR : row w1 (w.heap.size + 1) = (zeros 16 (Value.int .u8 0)).toArray := by rw [row_below b1 (by simp)]; simp [go_sem]
 have z1 := b1.size
 simp at z1
 obtain ⟨gr, cr, sr, rfl, hcr, hgr, zgr, rowr⟩ := o1.ints hrp
 have B1 : Below w.heap.size w w1 := Below.trans (by (repeat (first | exact Below.refl _ _ | refine Below.al ?_ _ | refine Below.drew ?_ | refine Below.sr ?_ _ | refine Below.sc ?_ _))) (b1.mono (by simp; omega))
 clear KC b1 o1 hgr
 go_wp2_with fail
 obtain ⟨B, hB⟩ : ∃ B, w1.heap.size = B := ⟨_, rfl⟩
 obtain ⟨w2, hw2⟩ : ∃ v, w1.alloc (.cells #[.int .i64 0] 3) = v := ⟨_, rfl⟩
 have o2 : Own w2 B 3 (.slice (some ⟨B, 0, none⟩) 1 1) (n64s [0]) := by
  rw [← hw2, ← hB]
  exact ⟨rfl, .inr ⟨_, 1, #[.int .i64 0], rfl, Nat.le_refl _, heap_alloc_new _ _, by decide, by decide, rfl, rfl⟩⟩
 have z2 : w2.heap.size = B + 1 := by rw [← hw2, ← hB]; simp
 have B12 : Below B w1 w2 := by rw [← hw2, ← hB]; exact Below.alloc (Below.refl _ _) (Nat.le_refl _) _
 rw [hB] at z1 zgr
 have rK2 := (row_below B12 (by omega)).trans rK
 have rR2 := (row_below B12 (by omega)).trans rR
 have rr2 := (row_below B12 zgr).trans rowr
 have B2 : Below w.heap.size w w2 := B1.trans (B12.mono (by omega))
 have wB : w.heap.size + 2 ≤ B := by omega
 rw [hw2, hB]
 clear hw2 hB B12 B1 rK rR rowr z1
 go_loopw [6, 7] (fun v i wr => ∃ (m : Nat) (a : List Nat), i = .int .i64 (16 * (m : Int)) ∧ 16 * m ≤ s.length + 15 ∧ Own wr B 3 v (n64s a) ∧ 0 < a.length ∧ a.length ≤ 17 ∧ Dig a ∧ valB a = upTo (psV k s) m 0 ∧ Below B w2 wr) (fun _ i _ => s.length + 16 - (intOf i).toNat)
 case atStart => exact ⟨0, [0], by simp, by omega, o2, by decide, by decide, Dig.one (by decide), by rw [upTo]; rfl, by skip; exact Below.refl _ _⟩
 case round =>
  clear o2
  obtain ⟨m, a, rfl, hm, hown, ha0, ha1, hda, hva, hbel⟩ := hrel
  obtain ⟨ga, ca, sa, rfl, hca, hga, zga, rowa⟩ := hown.ints ha0
  have hsz := hbel.size
  have rK := (row_below hbel (by omega)).trans rK2
  have rR := (row_below hbel (by omega)).trans rR2
  have rr := (row_below hbel zgr).trans rr2
  have HVA := Lib.hid hva
  clear hva
  obtain ⟨p, hp⟩ : ∃ p, 16 * m = p := ⟨_, rfl⟩
  have ep : (16 : Int) * (m : Int) = (p : Int) := by omega
  by_cases hlt : 16 * m < s.length
  ·
   have g1 : (16 : Int) * (m : Int) < s.length := by omega
   have g2 : (p : Int) < s.length := by omega
   have hw1 : IntKind.i64.wrap ((p : Int) + 16) = (p : Int) + 16 := wraps_i64 _ (by omega) (by omega)
   have HPP := Lib.hid hp
   obtain ⟨bl, hbl⟩ : ∃ b, (s.drop (16 * m)).take 16 = b := ⟨_, rfl⟩
   have hbl2 : (s.drop p).take 16 = bl := by rw [← hp]; exact hbl
   have hbll : bl.length ≤ 16 := by rw [← hbl, List.length_take]; omega
   have hps := HP.out m (upTo (psV k s) m 0)
   rw [hbl] at hps
   have HPS := Lib.hid hps
   have HBL := Lib.hid hbl2
   have hbx : bl.length ≤ s.length - p ∧ (bl.length = 16 ∨ bl.length = s.length - p) := by rw [← hbl2, List.length_take, List.length_drop]; omega
   have hps16 : (p : Int) ≤ 200000 := by omega
   clear hp hps hbl hbl2
   rw [ep]
   go_wp2_with fail
   obtain ⟨H, hH⟩ : ∃ H, wr.heap.size = H := ⟨_, rfl⟩
   go_loopw [8, 9] (fun v i wq => ∃ j x : Nat, j ≤ bl.length ∧ p + j = x ∧ i = .int .i64 x ∧ Own wq H 3 v (n64s (ints8 (bl.take j))) ∧ Below H wr wq) (fun _ i _ => s.length + 16 - (intOf i).toNat)
   case atStart => exact ⟨0, p, by omega, rfl, rfl, Own.nil, by rw [← hH]; exact Below.refl _ _⟩
   case round =>
    obtain ⟨j, x, hj, hx, rfl, hownb, hbelb⟩ := hrel
    have hszb := hbelb.size
    have HX := Lib.hid hx
    by_cases hjl : j < bl.length
    ·
     have c1 : (x : Int) < (p : Int) + 16 := by omega
     have c2 : (x : Int) < s.length := by omega
     have c3 : x < s.length := by omega
     obtain ⟨e, he⟩ : ∃ e, s[x].toNat = e := ⟨_, rfl⟩
     have ve : e < 256 := by rw [← he]; exact s[x].toNat_lt
     have hb : ints8 (bl.take (j + 1)) = ints8 (bl.take j) ++ [e] := by
      rw [List.take_succ_eq_append_getElem hjl, ints8_append]
      congr 1
      have hbj : bl[j] = s[x] := by
       have h1 : bl[j]? = s[x]? := by rw [← HBL.out, List.getElem?_take, if_pos (by omega), List.getElem?_drop, hx]
       rw [List.getElem?_eq_getElem hjl, List.getElem?_eq_getElem c3] at h1
       exact Option.some.inj h1
      rw [hbj]
      show [s[x].toNat] = [e]
      rw [he]
     have HB := Lib.hid hb
     have hlen : (n64s (ints8 (bl.take j))).length + 1 ≤ 1000000 := by rw [n64s_length, ints8_length, List.length_take]; omega
     clear hb hx
     go_wp2_with (at_builtin; refine wpList_append1 rfl rfl inferInstance H _ _ rfl hownb _ rfl rfl hlen (by omega) ?_)
     intro v3 w3 o3 b3
     go_wp2_with fail
     go_roundw
     case rel => exact ⟨j + 1, x + 1, by omega, by have := HX.out; omega, by simp, by rw [HB.out, n64s_append]; exact o3, hbelb.trans b3⟩
     case measure => simp [intOf]; omega
    ·
     obtain rfl : j = bl.length := by omega
     have c1 : (x : Int) < (p : Int) + 16 ∧ ¬ (x : Int) < s.length ∨ ¬ (x : Int) < (p : Int) + 16 := by omega
     rw [List.take_of_length_le (Nat.le_refl _)] at hownb
     have hlen : (n64s (ints8 bl)).length + 1 ≤ 1000000 := by rw [n64s_length, ints8_length]; omega
     clear hx
     rcases c1 with ⟨c1, c2⟩ | c1
     ·
      go_wp2_with (at_builtin; refine wpList_append1 rfl rfl inferInstance H _ _ rfl hownb _ rfl rfl hlen (by omega) ?_)
      intro v3 w3 o3 b3
      obtain ⟨b, hb⟩ : ∃ b, ints8 bl ++ [1] = b := ⟨_, rfl⟩
      have o3 : Own w3 H 3 v3 (n64s b) := by rw [← hb, n64s_append]; exact o3
      have hbl1 : 0 < b.length ∧ b.length ≤ 17 := by rw [← hb]; simp [ints8_length]; omega
      have hbd : Dig b := by rw [← hb]; exact (ints8_dig bl).snoc (by decide)
      have HBB := Lib.hid hb
      clear hb
      obtain ⟨gb, cb, sb, rfl, hcb, hgb, zgb, rowb⟩ := o3.ints hbl1.1
      have b3' := hbelb.trans b3
      have rowa3 := (row_below b3' (by omega)).trans rowa
      have rr3 := (row_below b3' (by omega)).trans rr
      have z3 : H ≤ w3.heap.size := by have := b3'.size; omega
      have bb3 : Below B w2 w3 := hbel.trans (b3'.mono (by omega))
      have zga3 : ga < w3.heap.size := by omega
      clear b3 b3' o3 hownb hbelb
      go_wp2_with fail
      (with_reducible refine (plusR_any a b ga ca gb cb sa sb _ rowa3 rowb zga3 zgb (List.length_pos_iff.1 ha0) hda hbd (by omega) (by omega)).mono ?_)
      rintro e w4 ⟨v4, l4, rfl, o4, n4, d4, e4, y4, x4, b4⟩
      have hl4 : 0 < l4.length := List.length_pos_iff.2 n4
      obtain ⟨g4, c4, s4, rfl, hc4, hg4, zg4, row4⟩ := o4.ints hl4
      have rr4 := (row_below b4 (by omega)).trans rr3
      have z4 := b4.size
      have bb4 : Below B w2 w4 := bb3.trans (b4.mono (by omega))
      clear b4 o4 rr3
      go_wp2_with fail
      (with_reducible refine (timesR_any l4 r g4 c4 gr cr s4 sr _ row4 rr4 zg4 (by omega) n4 d4 hrd (by omega) (by omega)).mono ?_)
      rintro e w5 ⟨v5, l5, rfl, o5, y5, d5, e5, b5⟩
      have hl5 : 0 < l5.length := by omega
      obtain ⟨g5, c5, s5, rfl, hc5, hg5, zg5, row5⟩ := o5.ints hl5
      have z5 := b5.size
      have bb5 : Below B w2 w5 := bb4.trans (b5.mono (by omega))
      have HY5 := Lib.hid y5
      have hl5b : l5.length ≤ 40 := by omega
      clear b5 o5 y5
      go_wp2_with fail
      (with_reducible refine (restR_any l5 g5 c5 s5 _ row5 zg5 hl5 hl5b d5).mono ?_)
      rintro e w6 ⟨v6, l6, rfl, o6, y6, d6, e6, b6⟩
      have bb6 : Below B w2 w6 := bb5.trans (b6.mono (by omega))
      have hval : valB l6 = upTo (psV k s) (m + 1) 0 := by
       rw [upTo, HPS.out, e6, e5, e4, HVA.out, HBB.out]
      have HV6 := Lib.hid hval
      have H6 := Lib.hid y6
      clear e4 e5 e6 hval b6 y6
      go_wp2_with fail
      go_roundw
      case rel => exact ⟨m + 1, l6, by have := HPP.out; simp; omega, by have := HPP.out; omega, o6.lower (by omega), by have := H6.out; omega, by have := H6.out; omega, d6, HV6.out, bb6⟩
      case measure => simp [intOf]; omega
     ·
      go_wp2_with (at_builtin; refine wpList_append1 rfl rfl inferInstance H _ _ rfl hownb _ rfl rfl hlen (by omega) ?_)
      intro v3 w3 o3 b3
      obtain ⟨b, hb⟩ : ∃ b, ints8 bl ++ [1] = b := ⟨_, rfl⟩
      have o3 : Own w3 H 3 v3 (n64s b) := by rw [← hb, n64s_append]; exact o3
      have hbl1 : 0 < b.length ∧ b.length ≤ 17 := by rw [← hb]; simp [ints8_length]; omega
      have hbd : Dig b := by rw [← hb]; exact (ints8_dig bl).snoc (by decide)
      have HBB := Lib.hid hb
      clear hb
      obtain ⟨gb, cb, sb, rfl, hcb, hgb, zgb, rowb⟩ := o3.ints hbl1.1
      have b3' := hbelb.trans b3
      have rowa3 := (row_below b3' (by omega)).trans rowa
      have rr3 := (row_below b3' (by omega)).trans rr
      have z3 : H ≤ w3.heap.size := by have := b3'.size; omega
      have bb3 : Below B w2 w3 := hbel.trans (b3'.mono (by omega))
      have zga3 : ga < w3.heap.size := by omega
      clear b3 b3' o3 hownb hbelb
      go_wp2_with fail
      (with_reducible refine (plusR_any a b ga ca gb cb sa sb _ rowa3 rowb zga3 zgb (List.length_pos_iff.1 ha0) hda hbd (by omega) (by omega)).mono ?_)
      rintro e w4 ⟨v4, l4, rfl, o4, n4, d4, e4, y4, x4, b4⟩
      have hl4 : 0 < l4.length := List.length_pos_iff.2 n4
      obtain ⟨g4, c4, s4, rfl, hc4, hg4, zg4, row4⟩ := o4.ints hl4
      have rr4 := (row_below b4 (by omega)).trans rr3
      have z4 := b4.size
      have bb4 : Below B w2 w4 := bb3.trans (b4.mono (by omega))
      clear b4 o4 rr3
      go_wp2_with fail
      (with_reducible refine (timesR_any l4 r g4 c4 gr cr s4 sr _ row4 rr4 zg4 (by omega) n4 d4 hrd (by omega) (by omega)).mono ?_)
      rintro e w5 ⟨v5, l5, rfl, o5, y5, d5, e5, b5⟩
      have hl5 : 0 < l5.length := by omega
      obtain ⟨g5, c5, s5, rfl, hc5, hg5, zg5, row5⟩ := o5.ints hl5
      have z5 := b5.size
      have bb5 : Below B w2 w5 := bb4.trans (b5.mono (by omega))
      have HY5 := Lib.hid y5
      have hl5b : l5.length ≤ 40 := by omega
      clear b5 o5 y5
      go_wp2_with fail
      (with_reducible refine (restR_any l5 g5 c5 s5 _ row5 zg5 hl5 hl5b d5).mono ?_)
      rintro e w6 ⟨v6, l6, rfl, o6, y6, d6, e6, b6⟩
      have bb6 : Below B w2 w6 := bb5.trans (b6.mono (by omega))
      have hval : valB l6 = upTo (psV k s) (m + 1) 0 := by
       rw [upTo, HPS.out, e6, e5, e4, HVA.out, HBB.out]
      have HV6 := Lib.hid hval
      have H6 := Lib.hid y6
      clear e4 e5 e6 hval b6 y6
      go_wp2_with fail
      go_roundw
      case rel => exact ⟨m + 1, l6, by have := HPP.out; simp; omega, by have := HPP.out; omega, o6.lower (by omega), by have := H6.out; omega, by have := H6.out; omega, d6, HV6.out, bb6⟩
      case measure => simp [intOf]; omega
  ·
   have g1 : ¬ (16 : Int) * (m : Int) < s.length := by omega
   have hm2 : m = (s.length + 15) / 16 := by omega
   have hva : valB a = upTo (psV k s) ((s.length + 15) / 16) 0 := by rw [← hm2]; exact HVA.out
   have HVF := Lib.hid hva
   clear hm2 hva hp
   rw [ep]
   have g1' : ¬ (p : Int) < s.length := by omega
   go_wp2_with fail
   obtain ⟨H, hH⟩ : ∃ H, wr.heap.size = H := ⟨_, rfl⟩
   have zK : w.heap.size < H := by omega
   go_loopw [10, 11] (fun v i wq => ∃ j x : Nat, j ≤ 16 ∧ 16 + j = x ∧ i = .int .i64 x ∧ Own wq H 3 v (n64s (ints8 ((k.drop 16).take j))) ∧ Below H wr wq) (fun _ i _ => 32 - (intOf i).toNat)
   case atStart => exact ⟨0, 16, by omega, rfl, rfl, Own.nil, by rw [← hH]; exact Below.refl _ _⟩
   case round =>
    obtain ⟨j, x, hj, hx, rfl, hownt, hbelt⟩ := hrel
    have hszt := hbelt.size
    have rKt := (row_below hbelt zK).trans rK
    have zKt : w.heap.size < wr.heap.size := by omega
    have hkl : (k.drop 16).length = 16 := by rw [List.length_drop]; omega
    by_cases hjl : j < 16
    ·
     have c1 : (x : Int) < 32 := by omega
     have c3 : x < 32 := by omega
     have c4 : x < k.length := by omega
     obtain ⟨e, he⟩ : ∃ e, k[x].toNat = e := ⟨_, rfl⟩
     have ve : e < 256 := by rw [← he]; exact k[x].toNat_lt
     have hb : ints8 ((k.drop 16).take (j + 1)) = ints8 ((k.drop 16).take j) ++ [e] := by
      rw [List.take_succ_eq_append_getElem (by omega), ints8_append]
      congr 1
      show [(k.drop 16)[j].toNat] = [e]
      rw [List.getElem_drop, ← he]
      simp only [hx]
     have HB := Lib.hid hb
     have HX := Lib.hid hx
     have hlen : (n64s (ints8 ((k.drop 16).take j))).length + 1 ≤ 1000000 := by rw [n64s_length, ints8_length, List.length_take]; omega
     clear hb hx hkl
     go_wp2_with (at_builtin; refine wpList_append1 rfl rfl inferInstance H _ _ rfl hownt _ rfl rfl hlen (by omega) ?_)
     intro v3 w3 o3 b3
     go_wp2_with fail
     go_roundw
     case rel => exact ⟨j + 1, x + 1, by omega, by have := HX.out; omega, by simp, by rw [HB.out, n64s_append]; exact o3, hbelt.trans b3⟩
     case measure => simp [intOf]; omega
    ·
     obtain rfl : j = 16 := by omega
     obtain rfl : x = 32 := by omega
     rw [List.take_of_length_le (by omega)] at hownt
     obtain ⟨b, hb⟩ : ∃ b, ints8 (k.drop 16) = b := ⟨_, rfl⟩
     have hbl1 : b.length = 16 := by rw [← hb, ints8_length]; exact hkl
     have hb16' : 16 ≤ b.length := by omega
     have hbd : Dig b := by rw [← hb]; exact ints8_dig _
     rw [hb] at hownt
     have HBB := Lib.hid hb
     have hb0 : 0 < b.length := by omega
     have hb16 : b.length ≤ 16 := by omega
     clear hb hbl1 hkl hx
     obtain ⟨gb, cb, sb, rfl, hcb, hgb, zgb, rowb⟩ := hownt.ints hb0
     have rowa3 := (row_below hbelt (by omega)).trans rowa
     have rR3 := (row_below hbelt (by omega)).trans rR
     have zga3 : ga < wr.heap.size := by omega
     have bb3 : Below B w2 wr := hbel.trans (hbelt.mono (by omega))
     rw [show ((32 : Nat) : Int) = 32 from rfl]
     clear hownt rKt
     go_wp2_with fail
     (with_reducible refine (plusR_any a b ga ca gb cb sa sb _ rowa3 rowb zga3 zgb (List.length_pos_iff.1 ha0) hda hbd (by omega) (by omega)).mono ?_)
     rintro e w4 ⟨v4, l4, rfl, o4, n4, d4, e4, y4, x4, b4⟩
     have hl4 : 0 < l4.length := List.length_pos_iff.2 n4
     obtain ⟨g4, c4, s4, rfl, hc4, hg4, zg4, row4⟩ := o4.ints hl4
     have rR4 := (row_below b4 (by omega)).trans rR3
     have z4 := b4.size
     have bb4 : Below B w2 w4 := bb3.trans (b4.mono (by omega))
     have hF : valB l4 = sumV k s := by rw [sumV, e4, HVF.out, HBB.out]
     have HFF := Lib.hid hF
     have l4b : (l4.length : Int) ≤ 100 := by omega
     have l4c : 16 ≤ l4.length := by omega
     have l4d : (16 : Int) ≤ l4.length := by omega
     clear b4 o4 e4 hF rR3 bb3
     go_wp2_with fail
     obtain ⟨D, hD⟩ : ∃ D, w4.heap.size = D := ⟨_, rfl⟩
     obtain ⟨w5, hw5⟩ : ∃ v, w4.alloc (.cells (zeros 16 (Value.int .u8 0)).toArray 156) = v := ⟨_, rfl⟩
     have r5 : row w5 D = (u8s (List.replicate 16 0)).toArray := by rw [← hw5, ← hD, row_alloc_at _ _ _ rfl]; rfl
     have row5 : row w5 g4 = (n64s l4 ++ s4).toArray := by rw [← hw5, row_alloc_past _ _ zg4]; exact row4
     have rR5 : row w5 (w.heap.size + 1) = (zeros 16 (Value.int .u8 0)).toArray := by rw [← hw5, row_alloc_past _ _ (by omega)]; exact rR4
     have z5 : D < w5.heap.size := by rw [← hw5, ← hD]; simp
     have bb5 : Below w.heap.size w w5 := B2.trans (by rw [← hw5]; exact Below.alloc (bb4.mono (by omega)) (by omega) _)
     have zD1 : w.heap.size + 1 < D := by omega
     have zD2 : g4 < D := by omega
     have zD3 : w.heap.size ≤ D := by omega
     rw [hw5, hD]
     clear hw5 hD row4 rR4 bb4
     go_loopw [13] (fun i wq => ∃ n : Nat, n ≤ 16 ∧ i = .int .i64 n ∧ row wq D = (u8s (upTo (sumF k s) n (List.replicate 16 0))).toArray ∧ Below D w5 wq) (fun i _ => 16 - (intOf i).toNat)
     case atStart => exact ⟨0, by omega, rfl, by rw [upTo]; exact r5, by skip; exact Below.refl _ _⟩
     case round =>
      clear r5
      obtain ⟨n, hn, rfl, rD, hbelD⟩ := hrel
      have rowD := (row_below hbelD zD2).trans row5
      have rRD := (row_below hbelD zD1).trans rR5
      have zsD := hbelD.size
      have zDD : D < wr.heap.size := by omega
      have zgD : g4 < wr.heap.size := by omega
      obtain ⟨L, hL⟩ : ∃ L, upTo (sumF k s) n (List.replicate 16 0) = L := ⟨_, rfl⟩
      have hLl : L.length = 16 := by rw [← hL, upTo_len8 (sumF_length _ _)]; simp
      rw [hL] at rD
      have HL := Lib.hid hL
      clear hL
      by_cases hlt : n < 16
      ·
       have c1 : (n : Int) < 16 := by omega
       have c2 : (n : Int) < l4.length := by omega
       have c3 : n < l4.length := by omega
       have c4 : n < L.length := by omega
       obtain ⟨y, hy⟩ : ∃ y : UInt8, l4[n] = y.toNat := ⟨UInt8.ofNat l4[n], by have := d4.get n c3; simp; omega⟩
       have vy := y.toNat_lt
       have ux : n < l4.length + s4.length := by omega
       have tx : (n64s l4 ++ s4)[n]'(by simp; omega) = .int .i64 (y.toNat : Int) := by rw [List.getElem_append_left (by simpa using c3), n64s_get, hy]
       have hyv : UInt8.ofNat (sumV k s / 256 ^ n % 256) = y := by
        rw [← HFF.out, ← valB_digit l4 d4 n, getD_at _ _ c3, hy]
        simp
       have hs : upTo (sumF k s) (n + 1) (List.replicate 16 0) = L.set n y := by rw [upTo, HL.out, sumF, hyv]
       have HS := Lib.hid hs
       have hset := u8s_setB L n y
       have hr7 := row_setRow_same (w := wr) (g := D) (c := (u8s (L.set n y)).toArray) (by rw [rD]; simp; omega) (by rw [rD]; simp)
       have b7 : Below D w5 (wr.setRow D (u8s (L.set n y)).toArray) := Below.setRow hbelD (Nat.le_refl _) _
       have hL0 : 0 < L.length := by omega
       clear hs hyv hy
       go_wp2_with fail
       go_roundw
       case rel => exact ⟨n + 1, by omega, rfl, by rw [HS.out]; exact hr7, b7⟩
       case measure => simp [intOf]; omega
      ·
       obtain rfl : n = 16 := by omega
       rw [show ((16 : Nat) : Int) = 16 from rfl]
       have hLs : L = sumL k s := by rw [sumL]; exact HL.out.symm
       rw [hLs] at rD
       have hsl := sumL_length k s
       have hb8 : Below w.heap.size w wr := bb5.trans (hbelD.mono zD3)
       clear hLs hLl
       go_wp2_with fail
       have hfin := row_setRow_same (w := wr) (g := w.heap.size + 1) (c := (u8s (sumL k s)).toArray) (by rw [rRD]; simp) (by rw [rRD]; simp [hsl])
       (try simp only [Exit.inBlock, Exit.then])
       refine bodyPost_ret (results_1 rfl (resOk_row rfl ?_)) rfl ?_
       ·
        rw [hfin]
        simp [hsl]
       refine ⟨by rw [hfin], ?_⟩
       exact Below.setRow hb8 (by omega) _
end Go.Proofs.YtakkicppgkmokaaGreat
