/- Texts of this proof, merged: GrV, GrR, GrD, GrT, GrP, GrI. -/
import Derived.Test.YtakkicppgkmokaaGreatJ6
import Derived.Test.YtakkicppgkmokaaGreatJ1
import Derived.Lib.Hide
set_option linter.unusedSimpArgs false
set_option linter.unusedVariables false
namespace Go.Proofs.YtakkicppgkmokaaGreat
section
open Go.RowKit
theorem digit_stepG (l : List Nat) (j c e q : Nat) (h : j < l.length) (hq : c + l[j] + e = q) :
  valB (l.set j (q % 256)) + 256 ^ (j + 1) * (q / 256) = valB l + 256 ^ j * c + 256 ^ j * e := by
 have hs := valB_set l j (q % 256) h
 have e2 : 256 ^ j * (q % 256) + 256 ^ (j + 1) * (q / 256) = 256 ^ j * q := by
  rw [Nat.pow_succ, Nat.mul_assoc, ← Nat.mul_add, Nat.mod_add_div]
 have e4 : 256 ^ j * q = 256 ^ j * c + 256 ^ j * l[j] + 256 ^ j * e := by
  rw [← hq, Nat.mul_add, Nat.mul_add]
 omega
def fold255 (x : Nat) : Nat := x % 57896044618658097711785492504343953926634992332820282019728792003956564819968 + 19 * (x / 57896044618658097711785492504343953926634992332820282019728792003956564819968)
def gD (t : List Nat) (j : Nat) : Nat := t.getD j 0 / 128 + t.getD (j + 1) 0 % 128 * 2
def gV (t : List Nat) : Nat → Nat
 | 0 => 0
 | n + 1 => gV t n + 256 ^ n * gD t n
theorem gV_val (t : List Nat) (n : Nat) : valB (t.take n) + 256 ^ n * (t.getD n 0 % 128) = 128 * gV t n + t.getD 0 0 % 128 := by
 induction n with
 | zero => simp [valB, gV]
 | succ n ih =>
  rw [valB_take_succ, gV, gD, Nat.pow_succ]
  generalize 256 ^ n = p at *
  generalize t.getD n 0 = a at *
  generalize t.getD (n + 1) 0 = b at *
  have h1 : p * a = p * (128 * (a / 128)) + p * (a % 128) := by rw [← Nat.mul_add, Nat.div_add_mod]
  have h2 : p * 256 * (b % 128) = 128 * (p * (b % 128 * 2)) := by
   rw [Nat.mul_assoc, Nat.mul_left_comm 128 p]
   congr 1
   omega
  have h3 : p * (128 * (a / 128)) = 128 * (p * (a / 128)) := Nat.mul_left_comm ..
  rw [Nat.mul_add p, Nat.mul_add 128, Nat.mul_add 128]
  omega
theorem gV_all (t : List Nat) : valB t = 128 * gV t t.length + t.getD 0 0 % 128 := by
 have := gV_val t t.length
 rw [List.take_of_length_le (Nat.le_refl _), getD_past _ _ (Nat.le_refl _)] at this
 simpa using this
theorem gD_lt (t : List Nat) (h : Dig t) (j : Nat) : gD t j < 256 := by
 have h1 := h.getD j
 unfold gD
 omega
theorem foldG_round (x : List Nat) (hx : Dig x) (hl : 32 ≤ x.length) :
  valB ((x.take 32).set 31 ((x.drop 31).getD 0 0 % 128)) + 19 * gV (x.drop 31) (x.drop 31).length = fold255 (valB x) := by
 have h1 := valB_parts x 31 (by omega)
 have h2 := gV_all (x.drop 31)
 have h3 := valB_lt (x.take 31) (hx.take 31)
 have h4 : (x.take 32).set 31 ((x.drop 31).getD 0 0 % 128) = x.take 31 ++ [(x.drop 31).getD 0 0 % 128] := by
  rw [List.take_succ_eq_append_getElem (by omega), List.set_append_right _ _ (by rw [List.length_take]; omega)]
  congr 1
  rw [show 31 - (List.take 31 x).length = 0 by rw [List.length_take]; omega]
  rfl
 rw [h4, valB_snoc, List.length_take, Nat.min_eq_left (by omega)] at *
 generalize gV (x.drop 31) (x.drop 31).length = H at *
 generalize valB (x.take 31) = A at *
 generalize valB (x.drop 31) = T at *
 generalize (x.drop 31).getD 0 0 = t at *
 rw [h1, h2, fold255]
 clear h1 h2 h4
 omega
theorem gV_stop (t : List Nat) (n : Nat) (h : t.length ≤ n) : gV t n = gV t t.length := by
 induction n with
 | zero => rw [Nat.le_zero.1 h]
 | succ n ih =>
  rcases Nat.lt_or_ge n t.length with h1 | h1
  ·
   rw [show n + 1 = t.length by omega]
  ·
   rw [gV, ih h1, gD, getD_past _ _ h1, getD_past _ _ (by omega)]
   simp
theorem foldG_three (x : Nat) (h : x < 256 ^ 65) :
  fold255 (fold255 (fold255 x)) < 57896044618658097711785492504343953926634992332820282019728792003956564819968 ∧ fold255 (fold255 (fold255 x)) % 57896044618658097711785492504343953926634992332820282019728792003956564819949 = x % 57896044618658097711785492504343953926634992332820282019728792003956564819949 := by
 unfold fold255
 constructor <;> omega
theorem valG_top (y : List Nat) (hy : Dig y) (hl : 32 ≤ y.length) (hv : valB y < 256 ^ 32) : valB (y.take 32) = valB y ∧ y.getD 31 0 = valB y / 256 ^ 31 ∧ valB (y.take 31) = valB y % 256 ^ 31 := by
 have h1 := valB_parts y 32 hl
 have h2 := valB_lt (y.take 31) (hy.take 31)
 have h3 := valB_take_succ y 31
 rw [List.length_take, Nat.min_eq_left (by omega)] at h2
 have h4 := hy.getD 31
 generalize valB (y.drop 32) = T at *
 generalize valB (y.take 31) = A at *
 have hT : T = 0 := by
  rcases Nat.eq_zero_or_pos T with h | h
  ·
   exact h
  ·
   have := Nat.le_mul_of_pos_right (256 ^ 32) h
   omega
 subst hT
 rw [Nat.mul_zero, Nat.add_zero] at h1
 rw [← h1] at h3
 refine ⟨h1.symm, ?_, ?_⟩ <;> omega
theorem restG_hi (X O O4 R V : Nat) (h : X < 57896044618658097711785492504343953926634992332820282019728792003956564819968) (hO : O = (X + 19) / 256 ^ 31) (hr : X % 57896044618658097711785492504343953926634992332820282019728792003956564819949 = R) (h4 : 128 ≤ O) (h5 : O - 128 = O4) (hv : V + 256 ^ 31 * O = X + 19 + 256 ^ 31 * O4) :
  V = R ∧ V < 256 ^ 32 := by
 have h6 : O = O4 + 128 := by omega
 have h7 : 256 ^ 31 * O = 256 ^ 31 * O4 + 57896044618658097711785492504343953926634992332820282019728792003956564819968 := by rw [h6, Nat.mul_add]
 have h8 : V + 57896044618658097711785492504343953926634992332820282019728792003956564819968 = X + 19 := by omega
 clear hv h6 h7 h5 hO h4
 constructor <;> omega
theorem restG_lo (X O R : Nat) (h : X < 57896044618658097711785492504343953926634992332820282019728792003956564819968) (hO : O = (X + 19) / 256 ^ 31) (hr : X % 57896044618658097711785492504343953926634992332820282019728792003956564819949 = R) (h4 : ¬ 128 ≤ O) : X = R := by
 have h6 : (X + 19) / 256 ^ 31 < 128 := by omega
 have h7 := Nat.lt_mul_of_div_lt h6 (by decide)
 clear hO h4 h6
 omega
end
section
open Go.RowKit
theorem gDs_succ (t : List Nat) (n : Nat) : (List.range (n + 1)).map (gD t) = (List.range n).map (gD t) ++ [gD t n] := by simp [List.range_succ]
set_option maxRecDepth 20000 in
set_option maxHeartbeats 8000000 in
theorem restG_any (l : List Nat) (g0 c0 : Nat) (s0 : List Value) (w : World) (hr : row w g0 = (n64s l ++ s0).toArray) (z0 : g0 < w.heap.size) (l0 : 0 < l.length) (l1 : l.length ≤ 65) (dl : Dig l) :
  Calls Tryz.prog 105 #[.slice (some ⟨g0, 0, none⟩) l.length c0] w fun e w' => ∃ r, e = .returned (.agg (n64s r).toArray) ∧ r.length = 32 ∧ Dig r ∧ valB r = valB l % 57896044618658097711785492504343953926634992332820282019728792003956564819949 ∧ Below w.heap.size w w' := by
 have o0 : Own ((w.alloc (.cells (zeros 32 (Value.int .i64 0)).toArray 120)).alloc (.cells #[] 3)) (w.heap.size + 1) 3 (.slice (some ⟨w.heap.size + 1, 0, none⟩) 0 0) [] := by
  have := Own.empty (w := w.alloc (.cells (zeros 32 (Value.int .i64 0)).toArray 120)) (e := 3) (B := w.heap.size + 1) (by simp)
  simpa using this
 go_enter Tryz.func105, Tryz.ntmps105
 go_wp2_with (at_builtin; refine wpList_appendAll rfl rfl inferInstance (w.heap.size + 1) _ [] rfl o0 g0 l.length c0 (n64s l) s0 rfl (by simp) (by rw [row_alloc_past _ _ (by simp; omega), row_alloc_past _ _ z0]; exact hr) (one_n64s l) (by simp; omega) (by simp) ?_)
 intro v1 w1 o1 b1
 have b1' : Below w.heap.size w w1 := Below.trans (Below.alloc (Below.alloc (Below.refl _ _) (Nat.le_refl _) _) (by simp) _) (b1.mono (by omega))
 have rR1 : row w1 w.heap.size = (zeros 32 (Value.int .i64 0)).toArray := by rw [row_below b1 (by omega)]; simp [go_sem]
 have zR1 : w.heap.size < w1.heap.size := by have := b1.size; simp at this; omega
 clear b1
 go_wp2_with fail
 go_loopw [3] (fun v wr => ∃ l' : List Nat, Own wr (w.heap.size + 1) 3 v (n64s l') ∧ l.length ≤ l'.length ∧ l'.length ≤ 65 ∧ Dig l' ∧ valB l' = valB l ∧ row wr w.heap.size = (zeros 32 (Value.int .i64 0)).toArray ∧ w.heap.size < wr.heap.size ∧ Below w.heap.size w wr) (fun v _ => 33 - sliceLen v)
 case atStart => exact ⟨l, o1, Nat.le_refl _, l1, dl, rfl, rR1, zR1, b1'⟩
 case round =>
  clear o1 b1' rR1 zR1
  obtain ⟨l', hown, hl0, hl1, hd, hval, hRR, hRz, hbel⟩ := hrel
  obtain ⟨g, c, s, rfl, hc, hg, hgz, hrow⟩ := hown.ints (by omega)
  by_cases hlt : l'.length < 33
  ·
   have j1 : (l'.length : Int) < 33 := by omega
   go_wp2_with (at_builtin; refine wpList_append1 rfl rfl inferInstance (w.heap.size + 1) _ (n64s l') rfl hown _ rfl rfl (by simp; omega) (by omega) ?_)
   intro v2 w2 o2 b2
   have r2 := (row_below b2 (by omega)).trans hRR
   have z2 := b2.size
   go_wp2_with fail
   go_roundw
   case rel => exact ⟨l' ++ [0], by rw [n64s_append]; exact o2, by simp; omega, by simp; omega, hd.snoc (by decide), by rw [valB_snoc, Nat.mul_zero]; exact hval, r2, by omega, hbel.trans (b2.mono (by omega))⟩
   case measure => have := o2.len; simp [sliceLen] at this ⊢; omega
  ·
   have j1 : ¬ (l'.length : Int) < 33 := by omega
   go_wp2_with fail
   go_loopw [3, 4] (fun v i wq => ∃ (n : Nat) (x : List Nat), n ≤ 3 ∧ i = .int .i64 n ∧ Own wq (w.heap.size + 1) 3 v (n64s x) ∧ 33 ≤ x.length ∧ x.length ≤ 65 ∧ Dig x ∧ valB x = upTo (fun _ => fold255) n (valB l) ∧ row wq w.heap.size = (zeros 32 (Value.int .i64 0)).toArray ∧ w.heap.size < wq.heap.size ∧ Below w.heap.size w wq) (fun _ i _ => 3 - (intOf i).toNat)
   case atStart => exact ⟨0, l', by omega, rfl, hown, by omega, by omega, hd, by rw [upTo]; exact hval, hRR, hRz, hbel⟩
   case round =>
    clear hrow hgz hown hval hbel hd hRR hRz
    obtain ⟨n, x, hn3, rfl, hown, hx0, hx1, hd, hval, hRR, hRz, hbel⟩ := hrel
    obtain ⟨gx, cx, sx, rfl, hcx, hgx, zgx, rowx⟩ := hown.ints (by omega)
    have xI : (33 : Int) ≤ x.length := by omega
    have xI2 : (x.length : Int) ≤ 65 := by omega
    have xI3 : (x.length : Int) ≤ cx := by omega
    have hsz := hbel.size
    by_cases hlt3 : n < 3
    ·
     have jn : (n : Int) < 3 := by omega
     have HVL := Lib.hid hval
     clear hval
     obtain ⟨t, ht⟩ : ∃ t, x.drop 31 = t := ⟨_, rfl⟩
     have hr0 := foldG_round x hd (by omega)
     rw [ht] at hr0
     have htN0 : t.length = x.length - 31 := by rw [← ht]; simp
     have hdt : Dig t := by rw [← ht]; exact hd.drop 31
     have hget : ∀ m, t.getD m 0 = x.getD (31 + m) 0 := by
      intro m
      rw [← ht]
      simp [List.getD_eq_getElem?_getD, List.getElem?_drop]
     have HG := Lib.hid hget
     have HTX := Lib.hid ht
     have htN := Lib.hid htN0
     have hN2 : 2 ≤ t.length := by omega
     have hN3 : t.length ≤ 34 := by omega
     have hNI : (t.length : Int) ≤ 40 := by omega
     have HR0 := Lib.hid hr0
     clear hget ht htN0 hr0
     go_wp2_with fail
     obtain ⟨H1, hH1⟩ : ∃ H, wr.heap.size = H := ⟨_, rfl⟩
     rw [hH1] at hsz zgx hRz
     go_loopw [5, 6] (fun v j wq => ∃ m r, r ≤ t.length ∧ 31 + r = m ∧ j = .int .i64 (m : Nat) ∧ Own wq H1 3 v (n64s ((List.range r).map (gD t))) ∧ Below H1 wr wq) (fun _ j _ => x.length - (intOf j).toNat)
     case atStart => exact ⟨31, 0, by omega, rfl, rfl, Own.nil, by skip; exact Below.refl _ _⟩
     case round =>
      obtain ⟨m, r, hrt, hm, rfl, hownh, hbelh⟩ := hrel
      have hszB := hbelh.size
      have rx := (row_below hbelh zgx).trans rowx
      have hrl : ((List.range r).map (gD t)).length = r := by simp
      obtain ⟨L, hL⟩ : ∃ L, (List.range r).map (gD t) = L := ⟨_, rfl⟩
      rw [hL] at hownh hrl
      have HL := Lib.hid hL
      have HM := Lib.hid hm
      have HRL := Lib.hid hrl
      have HTN := htN.out
      by_cases hltm : m < x.length
      ·
       have jm : (m : Int) < x.length := by omega
       obtain ⟨e, he⟩ : ∃ e, x[m] = e := ⟨_, rfl⟩
       have ve : e < 256 := by rw [← he]; exact hd.get m hltm
       have ux : m < x.length + sx.length := by omega
       have tx : (n64s x ++ sx)[m]'(by simp; omega) = .int .i64 (e : Int) := by rw [List.getElem_append_left (by simpa using hltm), n64s_get, he]
       have hge : t.getD r 0 = e := by rw [HG.out, hm, getD_at _ _ hltm, he]
       obtain ⟨e1, he1⟩ : ∃ v, e / 128 = v := ⟨_, rfl⟩
       have dv1 : (e : Int) / 128 = (e1 : Int) := by omega
       have dt1 : (e : Int).tdiv 128 = (e1 : Int) := by rw [Int.tdiv_eq_ediv_of_nonneg (by omega)]; exact dv1
       obtain ⟨m1, hm1⟩ : ∃ v, m + 1 = v := ⟨_, rfl⟩
       have fm1 : IntKind.i64.wrap ((m : Int) + 1) = (m1 : Int) := wrapN _ _ (by omega) (by omega)
       have HM1 := Lib.hid hm1
       by_cases hltm2 : m1 < x.length
       ·
        have jm2 : (m1 : Int) < x.length := by omega
        obtain ⟨f, hf⟩ : ∃ e, x[m1] = e := ⟨_, rfl⟩
        have vf : f < 256 := by rw [← hf]; exact hd.get m1 hltm2
        have uf : m1 < x.length + sx.length := by omega
        have tf : (n64s x ++ sx)[m1]'(by simp; omega) = .int .i64 (f : Int) := by rw [List.getElem_append_left (by simpa using hltm2), n64s_get, hf]
        have hgf : t.getD (r + 1) 0 = f := by rw [HG.out, show 31 + (r + 1) = m1 by omega, getD_at _ _ hltm2, hf]
        obtain ⟨f1, hf1⟩ : ∃ v, f % 128 = v := ⟨_, rfl⟩
        have mf1 : (f : Int) % 128 = (f1 : Int) := by omega
        have mt1 : (f : Int).tmod 128 = (f1 : Int) := by rw [Int.tmod_eq_emod_of_nonneg (by omega)]; exact mf1
        obtain ⟨f2, hf2⟩ : ∃ v, f1 * 2 = v := ⟨_, rfl⟩
        have ff2 : IntKind.i64.wrap ((f1 : Int) * 2) = (f2 : Int) := wrapN _ _ (by omega) (by omega)
        obtain ⟨h, hh⟩ : ∃ v, e1 + f2 = v := ⟨_, rfl⟩
        have fhh : IntKind.i64.wrap ((e1 : Int) + (f2 : Int)) = (h : Int) := wrapN _ _ (by omega) (by omega)
        have hHD : gD t r = h := by rw [gD, hge, hgf, he1, hf1, hf2, hh]
        have hnx : (List.range (r + 1)).map (gD t) = L ++ [h] := by rw [gDs_succ, HL.out, hHD]
        have HNX := Lib.hid hnx
        clear hge hgf he1 hf1 hf2 hh hHD hnx hm1 hm hrl hL HTN
        go_wp2_with (at_builtin; refine wpList_append1 rfl rfl inferInstance H1 _ _ rfl hownh _ rfl rfl (by have := HRL.out; simp; omega) (by omega) ?_)
        intro v2 w2 o2 b2
        go_wp2_with fail
        go_roundw
        case rel => exact ⟨m1, r + 1, by have := htN.out; have := HM.out; omega, by have := HM.out; have := HM1.out; omega, rfl, by rw [HNX.out, n64s_append]; exact o2, hbelh.trans b2⟩
        case measure => have := HM1.out; simp [intOf]; omega
       ·
        have jm2 : ¬ (m1 : Int) < x.length := by omega
        have hgf : t.getD (r + 1) 0 = 0 := getD_past _ _ (by omega)
        have hHD : gD t r = e1 := by rw [gD, hge, hgf, he1]; omega
        have hnx : (List.range (r + 1)).map (gD t) = L ++ [e1] := by rw [gDs_succ, HL.out, hHD]
        have HNX := Lib.hid hnx
        clear hge hgf he1 hHD hnx hm1 hm hrl hL HTN
        go_wp2_with (at_builtin; refine wpList_append1 rfl rfl inferInstance H1 _ _ rfl hownh _ rfl rfl (by have := HRL.out; simp; omega) (by omega) ?_)
        intro v2 w2 o2 b2
        go_wp2_with fail
        go_roundw
        case rel => exact ⟨m1, r + 1, by have := htN.out; have := HM.out; omega, by have := HM.out; have := HM1.out; omega, rfl, by rw [HNX.out, n64s_append]; exact o2, hbelh.trans b2⟩
        case measure => have := HM1.out; simp [intOf]; omega
      ·
       have jm : ¬ (m : Int) < x.length := by omega
       have hrN : r = t.length := by omega
       obtain rfl := hrN
       have hjlen : ∀ j (hj : j < L.length), L[j] = gD t j := by
        intro j hj
        have : L[j] = ((List.range t.length).map (gD t))[j]'(by rw [hL]; exact hj) := by simp only [hL]
        rw [this]
        simp
       have HJ := Lib.hid hjlen
       obtain ⟨gh, ch, sh, rfl, hch, hgh, zgh, rowh⟩ := hownh.ints (by omega)
       have hdrop : (n64s x ++ sx).toArray = (n64s (x.take 32) ++ (n64s (x.drop 32) ++ sx)).toArray := by
        rw [← List.append_assoc, ← n64s_append, List.take_append_drop]
       obtain ⟨x32, hx32⟩ : ∃ v, x.take 32 = v := ⟨_, rfl⟩
       have l32 : x32.length = 32 := by rw [← hx32, List.length_take]; omega
       have d32 : Dig x32 := by rw [← hx32]; exact hd.take 32
       rw [hx32] at hdrop
       have hr0 := HR0.out
       rw [hx32] at hr0
       have u31 : 31 < x32.length := by omega
       obtain ⟨e, he⟩ : ∃ e, x32[31]'u31 = e := ⟨_, rfl⟩
       have ve : e < 256 := by rw [← he]; exact d32.get 31 (by omega)
       have hge : t.getD 0 0 = e := by
        rw [HG.out, getD_at _ _ (by omega), ← he]
        simp only [← hx32, List.getElem_take, Nat.add_zero]
       obtain ⟨d, hde⟩ : ∃ v, e % 128 = v := ⟨_, rfl⟩
       rw [hge, hde] at hr0
       have md : (e : Int) % 128 = (d : Int) := by omega
       have mt : (e : Int).tmod 128 = (d : Int) := by rw [Int.tmod_eq_emod_of_nonneg (by omega)]; exact md
       have vd : d < 256 := by omega
       have HF0 := Lib.hid hr0
       have c32 : (32 : Int) ≤ cx := by omega
       have c32' : 32 ≤ cx := by omega
       have htI : (0 : Int) < L.length := by omega
       have L40 : L.length ≤ 34 := by omega
       have L40I : (L.length : Int) ≤ 40 := by omega
       have x32p : 0 < x32.length := by omega
       have l32H := Lib.hid l32
       have LTN : L.length = t.length := by rw [← hL]; simp
       have HLT := Lib.hid LTN
       have L2 : 2 ≤ L.length := by omega
       clear hde hr0 hjlen hge hL HTN hm l32 LTN hrl
       go_wp2_with (at_builtin; refine wpList_appendAll rfl rfl inferInstance wr.heap.size _ [] rfl (Own.empty (Nat.le_refl _)) gx 32 cx (n64s x32) (n64s (x.drop 32) ++ sx) rfl (by simpa using l32H.out) (by rw [row_alloc_past _ _ (by omega), rx]; exact hdrop) (one_n64s _) (by have := l32H.out; simp; omega) (by simp) ?_)
       intro v3 w3 o3 b3
       obtain ⟨H2, hH2⟩ : ∃ H, wr.heap.size = H := ⟨_, rfl⟩
       have b3' : Below H2 wr w3 := by rw [← hH2]; exact Below.trans (Below.alloc (Below.refl _ _) (Nat.le_refl _) _) (by exact b3)
       rw [hH2] at o3 zgh
       have o3 : Own w3 H2 3 v3 (n64s x32) := o3
       obtain ⟨gy, cy, sy, rfl, hcy, hgy, zgy, rowy⟩ := o3.ints x32p
       have z3 : H2 ≤ w3.heap.size := by have := b3'.size; omega
       have rh3 := (row_below b3' zgh).trans rowh
       have rR3 := (row_below b3' (by omega)).trans ((row_below hbelh hRz).trans hRR)
       have bw3 : Below w.heap.size w w3 := Below.trans hbel (Below.trans (hbelh.mono (by omega)) (b3'.mono (by omega)))
       have h2sz : w.heap.size + 1 ≤ H2 := by omega
       have ux31 : 31 < x32.length + sy.length := by have := l32H.out; omega
       have tx31 : (n64s x32 ++ sy)[31]'(by simp; omega) = .int .i64 (e : Int) := by rw [List.getElem_append_left (by simp; omega), n64s_get, he]
       have u31I : (31 : Int) < x32.length := by omega
       have hset : (n64s x32 ++ sy).set 31 (.int .i64 (d : Int)) = n64s (x32.set 31 d) ++ sy := by rw [set_left _ _ _ _ (by simpa using u31), n64s_set]
       have hpos : 0 < x32.length + sy.length := by omega
       have o4 := o3.setInts rowy 31 u31 d
       have rh4 : row (w3.setRow gy (n64s (x32.set 31 d) ++ sy).toArray) gh = (n64s L ++ sh).toArray := by rw [row_setRow_other _ _ _ (by omega)]; exact rh3
       have rR4 : row (w3.setRow gy (n64s (x32.set 31 d) ++ sy).toArray) w.heap.size = (zeros 32 (Value.int .i64 0)).toArray := by rw [row_setRow_other _ _ _ (by omega)]; exact rR3
       have bw4 : Below w.heap.size w (w3.setRow gy (n64s (x32.set 31 d) ++ sy).toArray) := Below.setRow bw3 (by omega) _
       have hyl4 : (x32.set 31 d).length = 32 := by rw [List.length_set]; exact l32H.out
       have HY4 := Lib.hid hyl4
       have hd4 : Dig (x32.set 31 d) := d32.set _ vd
       obtain ⟨M, hM1, hM2, hM3⟩ : ∃ M, L.length ≤ M ∧ 33 ≤ M ∧ M ≤ 40 := by
        rcases Nat.le_total L.length 33 with h | h
        ·
         exact ⟨33, h, Nat.le_refl _, by omega⟩
        ·
         exact ⟨L.length, Nat.le_refl _, h, by omega⟩
       obtain ⟨V0, hV0⟩ : ∃ V, valB (x32.set 31 d) = V := ⟨_, rfl⟩
       have HV0 := Lib.hid hV0
       clear b3 b3' hH2 rx hbel hownh rowh o3 rh3 rR3 bw3 hyl4 hV0 hbelh
       go_wp2_with fail
       obtain ⟨w4, hw4⟩ : ∃ v, w3.setRow gy (n64s (x32.set 31 d) ++ sy).toArray = v := ⟨_, rfl⟩
       have z4 : H2 ≤ w4.heap.size := by rw [← hw4]; simpa using z3
       rw [hw4] at o4 rh4 rR4 bw4 ⊢
       clear hw4 tx31 hset rowy
       have zgh3 : gh < H2 := zgh
       go_loopw [3, 8, 9] (fun v c i wq => ∃ (j k : Nat) (y : List Nat), i = .int .i64 j ∧ c = .int .i64 k ∧ k ≤ 19 ∧ (j ≤ M ∨ j = M + 1 ∧ k = 0) ∧ (y.length = 32 ∧ j ≤ 32 ∨ y.length = j ∧ 32 ≤ j) ∧ Dig y ∧ valB y + 256 ^ j * k = V0 + 19 * gV t j ∧ Own wq H2 3 v (n64s y) ∧ Below H2 w4 wq) (fun _ _ i _ => M + 2 - (intOf i).toNat)
       case atStart => exact ⟨0, 0, x32.set 31 d, rfl, rfl, by omega, .inl (by omega), .inl ⟨HY4.out, by omega⟩, hd4, by rw [HV0.out, gV], o4, by skip; exact Below.refl _ _⟩
       case round =>
        clear o4
        obtain ⟨j, k, y, rfl, rfl, hk, hM, hL, hdy, hvy, hown, hbel⟩ := hrel
        have hszC := hbel.size
        have rht := (row_below hbel zgh3).trans rh4
        have zgt : gh < wr.heap.size := by omega
        have HV := Lib.hid hvy
        have HM := Lib.hid hM
        have HL := Lib.hid hL
        have jb : (j : Int) ≤ 50 := by omega
        clear hvy hM hL
        by_cases hjN : j < L.length
        ·
         have jN : (j : Int) < L.length := by omega
         obtain ⟨h, hh⟩ : ∃ v, L[j] = v := ⟨_, rfl⟩
         have hHD : gD t j = h := by rw [← HJ.out j hjN, hh]
         have vh : h < 256 := by rw [← hHD]; exact gD_lt t hdt j
         have uh : j < L.length + sh.length := by omega
         have th : (n64s L ++ sh)[j]'(by simp; omega) = .int .i64 (h : Int) := by rw [List.getElem_append_left (by simp; omega), n64s_get, hh]
         have hh0 : j < L.length ∨ h = 0 := .inl hjN
         have HH := Lib.hid hHD
         clear hHD
         go_wp2_with fail
         go_loopw [3] (fun v wq => ∃ y', (y' = y ∨ y' = y ++ [0] ∧ y.length ≤ j) ∧ Own wq H2 3 v (n64s y') ∧ Below H2 w4 wq) (fun v _ => j + 1 - sliceLen v)
         case atStart => exact ⟨y, .inl rfl, hown, hbel⟩
         case round =>
          clear hown hbel
          obtain ⟨y', hy', hown, hbel⟩ := hrel
          have hszD := hbel.size
          have rhD := (row_below hbel zgh3).trans rh4
          have zghD : gh < wr.heap.size := by omega
          have HY := Lib.hid hy'
          have hyl : y'.length = y.length ∨ y'.length = y.length + 1 ∧ y.length ≤ j := by
           rcases hy' with rfl | ⟨rfl, h1⟩
           ·
            exact .inl rfl
           ·
            exact .inr ⟨by simp, h1⟩
          have hyd : Dig y' := by
           rcases hy' with rfl | ⟨rfl, h1⟩
           ·
            exact hdy
           ·
            exact hdy.snoc (by decide)
          have hyv : valB y' = valB y := by
           rcases hy' with rfl | ⟨rfl, h1⟩
           ·
            rfl
           ·
            rw [valB_snoc, Nat.mul_zero]; rfl
          have hy0 : j < 32 ∨ y'.getD j 0 = 0 := by
           rcases hy' with rfl | ⟨rfl, h1⟩
           ·
            rcases HL.out with h2 | h2
            ·
             rcases Nat.lt_or_ge j 32 with h3 | h3
             ·
              exact .inl h3
             ·
              exact .inr (getD_past _ _ (by omega))
            ·
             exact .inr (getD_past _ _ (by omega))
           ·
            rcases HL.out with h2 | h2
            ·
             rcases Nat.lt_or_ge j 32 with h3 | h3
             ·
              exact .inl h3
             ·
              right
              rw [show j = y.length by omega, List.getD_eq_getElem?_getD]
              simp
            ·
             right
             rw [show j = y.length by omega, List.getD_eq_getElem?_getD]
             simp
          clear hy'
          have hyp : 0 < y'.length := by have := HL.out; omega
          obtain ⟨gy, cy, sy, rfl, hcy, hgy, zgy, rowy⟩ := hown.ints hyp
          have yI : (y'.length : Int) ≤ 100 := by have := HL.out; omega
          have HYV := Lib.hid hyv
          have HY0 := Lib.hid hy0
          have HYL := Lib.hid hyl
          clear hyv hy0 hyl
          by_cases hlj : j < y'.length
          ·
           have jj : (j : Int) < y'.length := by omega
           have jj2 : ¬ (y'.length : Int) ≤ (j : Int) := by omega
           obtain ⟨O, hO⟩ : ∃ O, y'[j] = O := ⟨_, rfl⟩
           have vO : O < 256 := by rw [← hO]; exact hyd.get j hlj
           have hO2 : j < 32 ∨ O = 0 := by rcases HY0.out with h1 | h1; exact .inl h1; right; rw [← hO, ← getD_at _ _ hlj]; exact h1
           have uy : j < y'.length + sy.length := by omega
           have ty : (n64s y' ++ sy)[j]'(by simp; omega) = .int .i64 (O : Int) := by rw [List.getElem_append_left (by simpa using hlj), n64s_get, hO]
           obtain ⟨q0, hq0⟩ : ∃ q, k + O = q := ⟨_, rfl⟩
           obtain ⟨h5, hh5⟩ : ∃ v, 19 * h = v := ⟨_, rfl⟩
           obtain ⟨q, hq⟩ : ∃ v, q0 + h5 = v := ⟨_, rfl⟩
           have fq1 : IntKind.i64.wrap ((k : Int) + (O : Int)) = (q0 : Int) := wrapN _ _ (by omega) (by omega)
           have fq2 : IntKind.i64.wrap (19 * (h : Int)) = (h5 : Int) := wrapN _ _ (by omega) (by omega)
           have fq3 : IntKind.i64.wrap ((q0 : Int) + (h5 : Int)) = (q : Int) := wrapN _ _ (by omega) (by omega)
           skip
           obtain ⟨d, hd2⟩ : ∃ v, q % 256 = v := ⟨_, rfl⟩
           obtain ⟨k2, hk2⟩ : ∃ v, q / 256 = v := ⟨_, rfl⟩
           obtain ⟨m1, m2⟩ := modt _ _ hd2
           obtain ⟨m3, m4⟩ := divt _ _ hk2
           have hk3 : k2 ≤ 19 := by omega
           have hd3 : d < 256 := by omega
           have hM2 : j + 1 ≤ M ∨ j + 1 = M + 1 ∧ k2 = 0 := by have := HM.out; omega
           have hL2 : (y'.set j d).length = 32 ∧ j + 1 ≤ 32 ∨ (y'.set j d).length = j + 1 ∧ 32 ≤ j + 1 := by
            have := HL.out
            have := HYL.out
            rw [List.length_set]
            omega
           have hs : valB (y'.set j d) + 256 ^ (j + 1) * k2 = V0 + 19 * gV t (j + 1) := by
            rw [← hd2, ← hk2, digit_stepG y' j k h5 q hlj (by rw [hO, hq0, hq]), HYV.out, HV.out, gV, HH.out, ← hh5, Nat.mul_add, Nat.mul_left_comm (256 ^ j) 19 h, Nat.add_assoc]
           have HS := Lib.hid hs
           have HM2 := Lib.hid hM2
           have HL2 := Lib.hid hL2
           have o3 := hown.setInts rowy j hlj d
           have b3 : Below H2 w4 (wr.setRow gy (n64s (y'.set j d) ++ sy).toArray) := Below.setRow hbel hgy _
           have hset : (n64s y' ++ sy).set j (.int .i64 (d : Int)) = n64s (y'.set j d) ++ sy := by rw [set_left _ _ _ _ (by simpa using hlj), n64s_set]
           have hpos : 0 < y'.length + sy.length := by omega
           clear hs hM2 hL2 hq0 hh5 hq hd2 hk2 hO2 hown hbel
           go_wp2_with fail
           go_roundw
           case rel => exact ⟨j + 1, k2, y'.set j d, rfl, rfl, hk3, HM2.out, HL2.out, hyd.set _ hd3, HS.out, o3, b3⟩
           case measure => have := HM.out; simp [intOf]; omega
          ·
           have jj : ¬ (j : Int) < y'.length := by omega
           have jj2 : (y'.length : Int) ≤ (j : Int) := by omega
           go_wp2_with (at_builtin; refine wpList_append1 rfl rfl inferInstance H2 _ _ rfl hown _ rfl rfl (by have := HL.out; have := HYL.out; simp; omega) (by omega) ?_)
           intro v2 w5 o5 b5
           go_wp2_with fail
           go_roundw
           case rel =>
            rcases HY.out with rfl | ⟨rfl, h1⟩
            ·
             exact ⟨y' ++ [0], .inr ⟨rfl, by omega⟩, by rw [n64s_append]; exact o5, hbel.trans b5⟩
            ·
             exfalso
             have := HL.out
             simp at hlj
             omega
           case measure => have := o5.len; simp [sliceLen] at this ⊢; omega
        ·
         have jN : ¬ (j : Int) < L.length := by omega
         obtain ⟨h, hz⟩ : ∃ v, (0 : Nat) = v := ⟨_, rfl⟩
         have hHD : gD t j = h := by have := HLT.out; rw [gD, getD_past _ _ (by omega), getD_past _ _ (by omega), ← hz]
         have hh0 : j < L.length ∨ h = 0 := .inr hz.symm
         have vh : h < 256 := by omega
         have HZ := Lib.hid hz
         have HH := Lib.hid hHD
         clear hz hHD
         by_cases hk0 : 0 < k
         ·
          have kI : (0 : Int) < (k : Int) := by omega
          go_wp2_with fail
          go_loopw [3] (fun v wq => ∃ y', (y' = y ∨ y' = y ++ [0] ∧ y.length ≤ j) ∧ Own wq H2 3 v (n64s y') ∧ Below H2 w4 wq) (fun v _ => j + 1 - sliceLen v)
          case atStart => exact ⟨y, .inl rfl, hown, hbel⟩
          case round =>
           clear hown hbel
           obtain ⟨y', hy', hown, hbel⟩ := hrel
           have hszD := hbel.size
           have rhD := (row_below hbel zgh3).trans rh4
           have zghD : gh < wr.heap.size := by omega
           have HY := Lib.hid hy'
           have hyl : y'.length = y.length ∨ y'.length = y.length + 1 ∧ y.length ≤ j := by
            rcases hy' with rfl | ⟨rfl, h1⟩
            ·
             exact .inl rfl
            ·
             exact .inr ⟨by simp, h1⟩
           have hyd : Dig y' := by
            rcases hy' with rfl | ⟨rfl, h1⟩
            ·
             exact hdy
            ·
             exact hdy.snoc (by decide)
           have hyv : valB y' = valB y := by
            rcases hy' with rfl | ⟨rfl, h1⟩
            ·
             rfl
            ·
             rw [valB_snoc, Nat.mul_zero]; rfl
           have hy0 : j < 32 ∨ y'.getD j 0 = 0 := by
            rcases hy' with rfl | ⟨rfl, h1⟩
            ·
             rcases HL.out with h2 | h2
             ·
              rcases Nat.lt_or_ge j 32 with h3 | h3
              ·
               exact .inl h3
              ·
               exact .inr (getD_past _ _ (by omega))
             ·
              exact .inr (getD_past _ _ (by omega))
            ·
             rcases HL.out with h2 | h2
             ·
              rcases Nat.lt_or_ge j 32 with h3 | h3
              ·
               exact .inl h3
              ·
               right
               rw [show j = y.length by omega, List.getD_eq_getElem?_getD]
               simp
             ·
              right
              rw [show j = y.length by omega, List.getD_eq_getElem?_getD]
              simp
           clear hy'
           have hyp : 0 < y'.length := by have := HL.out; omega
           obtain ⟨gy, cy, sy, rfl, hcy, hgy, zgy, rowy⟩ := hown.ints hyp
           have yI : (y'.length : Int) ≤ 100 := by have := HL.out; omega
           have HYV := Lib.hid hyv
           have HY0 := Lib.hid hy0
           have HYL := Lib.hid hyl
           clear hyv hy0 hyl
           by_cases hlj : j < y'.length
           ·
            have jj : (j : Int) < y'.length := by omega
            have jj2 : ¬ (y'.length : Int) ≤ (j : Int) := by omega
            obtain ⟨O, hO⟩ : ∃ O, y'[j] = O := ⟨_, rfl⟩
            have vO : O < 256 := by rw [← hO]; exact hyd.get j hlj
            have hO2 : j < 32 ∨ O = 0 := by rcases HY0.out with h1 | h1; exact .inl h1; right; rw [← hO, ← getD_at _ _ hlj]; exact h1
            have uy : j < y'.length + sy.length := by omega
            have ty : (n64s y' ++ sy)[j]'(by simp; omega) = .int .i64 (O : Int) := by rw [List.getElem_append_left (by simpa using hlj), n64s_get, hO]
            obtain ⟨q0, hq0⟩ : ∃ q, k + O = q := ⟨_, rfl⟩
            obtain ⟨h5, hh5⟩ : ∃ v, 19 * h = v := ⟨_, rfl⟩
            obtain ⟨q, hq⟩ : ∃ v, q0 + h5 = v := ⟨_, rfl⟩
            have fq1 : IntKind.i64.wrap ((k : Int) + (O : Int)) = (q0 : Int) := wrapN _ _ (by omega) (by omega)
            have fq2 : IntKind.i64.wrap (19 * (h : Int)) = (h5 : Int) := wrapN _ _ (by omega) (by omega)
            have fq3 : IntKind.i64.wrap ((q0 : Int) + (h5 : Int)) = (q : Int) := wrapN _ _ (by omega) (by omega)
            have fq4 : IntKind.i64.wrap (q0 : Int) = (q : Int) := wrapN _ _ (by have := HZ.out; omega) (by omega)
            obtain ⟨d, hd2⟩ : ∃ v, q % 256 = v := ⟨_, rfl⟩
            obtain ⟨k2, hk2⟩ : ∃ v, q / 256 = v := ⟨_, rfl⟩
            obtain ⟨m1, m2⟩ := modt _ _ hd2
            obtain ⟨m3, m4⟩ := divt _ _ hk2
            have hk3 : k2 ≤ 19 := by omega
            have hd3 : d < 256 := by omega
            have hM2 : j + 1 ≤ M ∨ j + 1 = M + 1 ∧ k2 = 0 := by have := HM.out; omega
            have hL2 : (y'.set j d).length = 32 ∧ j + 1 ≤ 32 ∨ (y'.set j d).length = j + 1 ∧ 32 ≤ j + 1 := by
             have := HL.out
             have := HYL.out
             rw [List.length_set]
             omega
            have hs : valB (y'.set j d) + 256 ^ (j + 1) * k2 = V0 + 19 * gV t (j + 1) := by
             rw [← hd2, ← hk2, digit_stepG y' j k h5 q hlj (by rw [hO, hq0, hq]), HYV.out, HV.out, gV, HH.out, ← hh5, Nat.mul_add, Nat.mul_left_comm (256 ^ j) 19 h, Nat.add_assoc]
            have HS := Lib.hid hs
            have HM2 := Lib.hid hM2
            have HL2 := Lib.hid hL2
            have o3 := hown.setInts rowy j hlj d
            have b3 : Below H2 w4 (wr.setRow gy (n64s (y'.set j d) ++ sy).toArray) := Below.setRow hbel hgy _
            have hset : (n64s y' ++ sy).set j (.int .i64 (d : Int)) = n64s (y'.set j d) ++ sy := by rw [set_left _ _ _ _ (by simpa using hlj), n64s_set]
            have hpos : 0 < y'.length + sy.length := by omega
            clear hs hM2 hL2 hq0 hh5 hq hd2 hk2 hO2 hown hbel
            go_wp2_with fail
            go_roundw
            case rel => exact ⟨j + 1, k2, y'.set j d, rfl, rfl, hk3, HM2.out, HL2.out, hyd.set _ hd3, HS.out, o3, b3⟩
            case measure => have := HM.out; simp [intOf]; omega
           ·
            have jj : ¬ (j : Int) < y'.length := by omega
            have jj2 : (y'.length : Int) ≤ (j : Int) := by omega
            go_wp2_with (at_builtin; refine wpList_append1 rfl rfl inferInstance H2 _ _ rfl hown _ rfl rfl (by have := HL.out; have := HYL.out; simp; omega) (by omega) ?_)
            intro v2 w5 o5 b5
            go_wp2_with fail
            go_roundw
            case rel =>
             rcases HY.out with rfl | ⟨rfl, h1⟩
             ·
              exact ⟨y' ++ [0], .inr ⟨rfl, by omega⟩, by rw [n64s_append]; exact o5, hbel.trans b5⟩
             ·
              exfalso
              have := HL.out
              simp at hlj
              omega
            case measure => have := o5.len; simp [sliceLen] at this ⊢; omega
         ·
          have kI : ¬ (0 : Int) < (k : Int) := by omega
          by_cases hj33 : j < 33
          ·
           have j33 : (j : Int) < 33 := by omega
           go_wp2_with fail
           go_loopw [3] (fun v wq => ∃ y', (y' = y ∨ y' = y ++ [0] ∧ y.length ≤ j) ∧ Own wq H2 3 v (n64s y') ∧ Below H2 w4 wq) (fun v _ => j + 1 - sliceLen v)
           case atStart => exact ⟨y, .inl rfl, hown, hbel⟩
           case round =>
            clear hown hbel
            obtain ⟨y', hy', hown, hbel⟩ := hrel
            have hszD := hbel.size
            have rhD := (row_below hbel zgh3).trans rh4
            have zghD : gh < wr.heap.size := by omega
            have HY := Lib.hid hy'
            have hyl : y'.length = y.length ∨ y'.length = y.length + 1 ∧ y.length ≤ j := by
             rcases hy' with rfl | ⟨rfl, h1⟩
             ·
              exact .inl rfl
             ·
              exact .inr ⟨by simp, h1⟩
            have hyd : Dig y' := by
             rcases hy' with rfl | ⟨rfl, h1⟩
             ·
              exact hdy
             ·
              exact hdy.snoc (by decide)
            have hyv : valB y' = valB y := by
             rcases hy' with rfl | ⟨rfl, h1⟩
             ·
              rfl
             ·
              rw [valB_snoc, Nat.mul_zero]; rfl
            have hy0 : j < 32 ∨ y'.getD j 0 = 0 := by
             rcases hy' with rfl | ⟨rfl, h1⟩
             ·
              rcases HL.out with h2 | h2
              ·
               rcases Nat.lt_or_ge j 32 with h3 | h3
               ·
                exact .inl h3
               ·
                exact .inr (getD_past _ _ (by omega))
              ·
               exact .inr (getD_past _ _ (by omega))
             ·
              rcases HL.out with h2 | h2
              ·
               rcases Nat.lt_or_ge j 32 with h3 | h3
               ·
                exact .inl h3
               ·
                right
                rw [show j = y.length by omega, List.getD_eq_getElem?_getD]
                simp
              ·
               right
               rw [show j = y.length by omega, List.getD_eq_getElem?_getD]
               simp
            clear hy'
            have hyp : 0 < y'.length := by have := HL.out; omega
            obtain ⟨gy, cy, sy, rfl, hcy, hgy, zgy, rowy⟩ := hown.ints hyp
            have yI : (y'.length : Int) ≤ 100 := by have := HL.out; omega
            have HYV := Lib.hid hyv
            have HY0 := Lib.hid hy0
            have HYL := Lib.hid hyl
            clear hyv hy0 hyl
            by_cases hlj : j < y'.length
            ·
             have jj : (j : Int) < y'.length := by omega
             have jj2 : ¬ (y'.length : Int) ≤ (j : Int) := by omega
             obtain ⟨O, hO⟩ : ∃ O, y'[j] = O := ⟨_, rfl⟩
             have vO : O < 256 := by rw [← hO]; exact hyd.get j hlj
             have hO2 : j < 32 ∨ O = 0 := by rcases HY0.out with h1 | h1; exact .inl h1; right; rw [← hO, ← getD_at _ _ hlj]; exact h1
             have uy : j < y'.length + sy.length := by omega
             have ty : (n64s y' ++ sy)[j]'(by simp; omega) = .int .i64 (O : Int) := by rw [List.getElem_append_left (by simpa using hlj), n64s_get, hO]
             obtain ⟨q0, hq0⟩ : ∃ q, k + O = q := ⟨_, rfl⟩
             obtain ⟨h5, hh5⟩ : ∃ v, 19 * h = v := ⟨_, rfl⟩
             obtain ⟨q, hq⟩ : ∃ v, q0 + h5 = v := ⟨_, rfl⟩
             have fq1 : IntKind.i64.wrap ((k : Int) + (O : Int)) = (q0 : Int) := wrapN _ _ (by omega) (by omega)
             have fq2 : IntKind.i64.wrap (19 * (h : Int)) = (h5 : Int) := wrapN _ _ (by omega) (by omega)
             have fq3 : IntKind.i64.wrap ((q0 : Int) + (h5 : Int)) = (q : Int) := wrapN _ _ (by omega) (by omega)
             have fq4 : IntKind.i64.wrap (q0 : Int) = (q : Int) := wrapN _ _ (by have := HZ.out; omega) (by omega)
             obtain ⟨d, hd2⟩ : ∃ v, q % 256 = v := ⟨_, rfl⟩
             obtain ⟨k2, hk2⟩ : ∃ v, q / 256 = v := ⟨_, rfl⟩
             obtain ⟨m1, m2⟩ := modt _ _ hd2
             obtain ⟨m3, m4⟩ := divt _ _ hk2
             have hk3 : k2 ≤ 19 := by omega
             have hd3 : d < 256 := by omega
             have hM2 : j + 1 ≤ M ∨ j + 1 = M + 1 ∧ k2 = 0 := by have := HM.out; omega
             have hL2 : (y'.set j d).length = 32 ∧ j + 1 ≤ 32 ∨ (y'.set j d).length = j + 1 ∧ 32 ≤ j + 1 := by
              have := HL.out
              have := HYL.out
              rw [List.length_set]
              omega
             have hs : valB (y'.set j d) + 256 ^ (j + 1) * k2 = V0 + 19 * gV t (j + 1) := by
              rw [← hd2, ← hk2, digit_stepG y' j k h5 q hlj (by rw [hO, hq0, hq]), HYV.out, HV.out, gV, HH.out, ← hh5, Nat.mul_add, Nat.mul_left_comm (256 ^ j) 19 h, Nat.add_assoc]
             have HS := Lib.hid hs
             have HM2 := Lib.hid hM2
             have HL2 := Lib.hid hL2
             have o3 := hown.setInts rowy j hlj d
             have b3 : Below H2 w4 (wr.setRow gy (n64s (y'.set j d) ++ sy).toArray) := Below.setRow hbel hgy _
             have hset : (n64s y' ++ sy).set j (.int .i64 (d : Int)) = n64s (y'.set j d) ++ sy := by rw [set_left _ _ _ _ (by simpa using hlj), n64s_set]
             have hpos : 0 < y'.length + sy.length := by omega
             clear hs hM2 hL2 hq0 hh5 hq hd2 hk2 hO2 hown hbel
             go_wp2_with fail
             go_roundw
             case rel => exact ⟨j + 1, k2, y'.set j d, rfl, rfl, hk3, HM2.out, HL2.out, hyd.set _ hd3, HS.out, o3, b3⟩
             case measure => have := HM.out; simp [intOf]; omega
            ·
             have jj : ¬ (j : Int) < y'.length := by omega
             have jj2 : (y'.length : Int) ≤ (j : Int) := by omega
             go_wp2_with (at_builtin; refine wpList_append1 rfl rfl inferInstance H2 _ _ rfl hown _ rfl rfl (by have := HL.out; have := HYL.out; simp; omega) (by omega) ?_)
             intro v2 w5 o5 b5
             go_wp2_with fail
             go_roundw
             case rel =>
              rcases HY.out with rfl | ⟨rfl, h1⟩
              ·
               exact ⟨y' ++ [0], .inr ⟨rfl, by omega⟩, by rw [n64s_append]; exact o5, hbel.trans b5⟩
              ·
               exfalso
               have := HL.out
               simp at hlj
               omega
             case measure => have := o5.len; simp [sliceLen] at this ⊢; omega
          ·
           have j33 : ¬ (j : Int) < 33 := by omega
           obtain rfl : k = 0 := by omega
           have hfin : valB y = fold255 (valB x) := by
            have := HV.out
            rw [Nat.mul_zero, Nat.add_zero, gV_stop t j (by have := HLT.out; omega)] at this
            rw [this, ← HF0.out, HV0.out]
           have hyl : 33 ≤ y.length ∧ y.length ≤ 41 := by have := HL.out; have := HM.out; omega
           have HF := Lib.hid hfin
           have rRz := (row_below hbel (by omega)).trans rR4
           clear hfin
           go_wp2_with fail
           go_roundw
           case rel => exact ⟨n + 1, y, by omega, rfl, hown.lower h2sz, by omega, by omega, hdy, by rw [upTo, ← HVL.out]; exact HF.out, rRz, by omega, bw4.trans (hbel.mono (by omega))⟩
           case measure => simp [intOf]; omega
    ·
     obtain rfl : n = 3 := by omega
     rw [show ((3 : Nat) : Int) = 3 from rfl]
     have hb40 : valB l < 256 ^ 65 := Nat.lt_of_lt_of_le (valB_lt l dl) (Nat.pow_le_pow_right (by decide) l1)
     have h3 := foldG_three (valB l) hb40
     rw [upTo, upTo, upTo, upTo] at hval
     rw [← hval] at h3
     obtain ⟨hX1, hX2⟩ := h3
     obtain ⟨X, hX⟩ : ∃ X, valB x = X := ⟨_, rfl⟩
     rw [hX] at hX1 hX2
     obtain ⟨R, hR⟩ : ∃ R, valB l % 57896044618658097711785492504343953926634992332820282019728792003956564819949 = R := ⟨_, rfl⟩
     rw [hR] at hX2
     have HRR := Lib.hid hR
     have HX := Lib.hid hX
     have HX1 := Lib.hid hX1
     have HX2 := Lib.hid hX2
     clear hX hX1 hX2 hval hb40 hR
     go_wp2_with (at_builtin; refine wpList_appendAll rfl rfl inferInstance wr.heap.size _ [] rfl (Own.empty (Nat.le_refl _)) gx x.length cx (n64s x) sx rfl (by simp) (by rw [row_alloc_past _ _ zgx]; exact rowx) (one_n64s x) (by simp; omega) (by simp) ?_)
     intro v5 w5 o5 b5
     obtain ⟨H3, hH3⟩ : ∃ H, wr.heap.size = H := ⟨_, rfl⟩
     have b5' : Below wr.heap.size wr w5 := Below.trans (Below.alloc (Below.refl _ _) (Nat.le_refl _) _) b5
     have rx5 := (row_below b5' zgx).trans rowx
     have rR5 := (row_below b5' hRz).trans hRR
     have bw5 : Below w.heap.size w w5 := hbel.trans (b5'.mono hsz)
     rw [hH3] at o5
     have o5 : Own w5 H3 3 v5 (n64s x) := o5
     obtain ⟨gy, cy, sy, rfl, hcy, hgy, zgy, rowy⟩ := o5.ints (by omega)
     have h3sz : w.heap.size < H3 := by omega
     have z5 : H3 ≤ w5.heap.size := by have := b5'.size; omega
     have zgx3 : gx < H3 := by omega
     clear b5 b5' hH3 hown hbel rowx rowy hRR
     go_wp2_with fail
     go_loopw [12, 13] (fun c i wq => ∃ (j k : Nat) (y : List Nat), i = .int .i64 j ∧ c = .int .i64 k ∧ k ≤ 19 ∧ j ≤ 32 ∧ y.length = x.length ∧ Dig y ∧ valB y + 256 ^ j * k = X + 19 ∧ Own wq H3 3 (.slice (some ⟨gy, 0, none⟩) x.length cy) (n64s y) ∧ Below H3 w5 wq) (fun _ i _ => 32 - (intOf i).toNat)
     case atStart => exact ⟨0, 19, x, rfl, rfl, by omega, by omega, rfl, hd, by rw [HX.out], o5, by skip; exact Below.refl _ _⟩
     case round =>
      clear o5
      obtain ⟨j, k, y, rfl, rfl, hk, hjx, hyx, hdy, hvy, hown, hbel⟩ := hrel
      obtain ⟨sy, rowy, zgy, _, _, _⟩ := hown.intsAt (by omega)
      have hszF := hbel.size
      have HV := Lib.hid hvy
      have HYX := Lib.hid hyx
      by_cases hj : j < 32
      ·
       have jj : (j : Int) < 32 := by omega
       have jx : (j : Int) < x.length := by omega
       have hjy : j < y.length := by omega
       obtain ⟨O, hO⟩ : ∃ O, y[j] = O := ⟨_, rfl⟩
       have vO : O < 256 := by rw [← hO]; exact hdy.get j hjy
       have uy : j < y.length + sy.length := by omega
       have ty : (n64s y ++ sy)[j]'(by simp; omega) = .int .i64 (O : Int) := by rw [List.getElem_append_left (by simpa using hjy), n64s_get, hO]
       obtain ⟨q, hq⟩ : ∃ q, k + O = q := ⟨_, rfl⟩
       have fq1 : IntKind.i64.wrap ((k : Int) + (O : Int)) = (q : Int) := wrapN _ _ (by omega) (by omega)
       obtain ⟨d, hd2⟩ : ∃ v, q % 256 = v := ⟨_, rfl⟩
       obtain ⟨k2, hk2⟩ : ∃ v, q / 256 = v := ⟨_, rfl⟩
       obtain ⟨m1, m2⟩ := modt _ _ hd2
       obtain ⟨m3, m4⟩ := divt _ _ hk2
       have hk3 : k2 ≤ 19 := by omega
       have hd3 : d < 256 := by omega
       have hs : valB (y.set j d) + 256 ^ (j + 1) * k2 = X + 19 := by
        have := digit_stepG y j k 0 q hjy (by rw [hO]; exact hq)
        rw [← hd2, ← hk2, this, Nat.mul_zero, Nat.add_zero]
        exact HV.out
       have HS := Lib.hid hs
       have hset : (n64s y ++ sy).set j (.int .i64 (d : Int)) = n64s (y.set j d) ++ sy := by rw [set_left _ _ _ _ (by simpa using hjy), n64s_set]
       have hpos : 0 < y.length + sy.length := by omega
       have o6 := hown.setInts rowy j hjy d
       have b6 : Below H3 w5 (wr.setRow gy (n64s (y.set j d) ++ sy).toArray) := Below.setRow hbel hgy _
       have hyx2 : (y.set j d).length = x.length := by rw [List.length_set]; exact hyx
       have HY2 := Lib.hid hyx2
       clear hs hq hd2 hk2 hown hbel hvy hyx hyx2
       go_wp2_with fail
       go_roundw
       case rel => exact ⟨j + 1, k2, y.set j d, rfl, rfl, hk3, by omega, HY2.out, hdy.set _ hd3, HS.out, o6, b6⟩
       case measure => simp [intOf]; omega
      ·
       obtain rfl : j = 32 := by omega
       rw [show ((32 : Nat) : Int) = 32 from rfl]
       have hX1 := HX1.out
       have hk0 : k = 0 := by
        rcases Nat.eq_zero_or_pos k with h | h
        ·
         exact h
        ·
         have h1 := Nat.le_mul_of_pos_right (256 ^ 32) h
         omega
       subst hk0
       rw [Nat.mul_zero, Nat.add_zero] at hvy
       have htop := valG_top y hdy (by omega) (by rw [hvy]; omega)
       rw [hvy] at htop
       obtain ⟨ht1, ht2, ht3⟩ := htop
       have h16 : 31 < y.length := by omega
       have htx := valG_top x hd (by omega) (by rw [HX.out]; omega)
       have htx1 := htx.1
       rw [HX.out] at htx1
       obtain ⟨O, hO⟩ : ∃ O, y[31] = O := ⟨_, rfl⟩
       rw [getD_at _ _ h16, hO] at ht2
       have uy : 31 < y.length + sy.length := by omega
       have ty : (n64s y ++ sy)[31]'(by simp; omega) = .int .i64 (O : Int) := by rw [List.getElem_append_left (by simpa using h16), n64s_get, hO]
       have rx6 := (row_below hbel zgx3).trans rx5
       have rR6 := (row_below hbel h3sz).trans rR5
       have h31x : (31 : Int) < x.length := by omega
       have bwf := bw5.trans (hbel.mono (by omega))
       have hX2 := HX2.out
       have hHI := Lib.hid (fun (h4 : 128 ≤ O) O4 (h5 : O - 128 = O4) V (hv : V + 256 ^ 31 * O = X + 19 + 256 ^ 31 * O4) => restG_hi X O O4 R V hX1 ht2 hX2 h4 h5 hv)
       have hLO := Lib.hid (fun (h4 : ¬ 128 ≤ O) => restG_lo X O R hX1 ht2 hX2 h4)
       have vO : O < 256 := by rw [← hO]; exact hdy.get 31 h16
       have HT1 := Lib.hid htx1
       have HVY := Lib.hid hvy
       have zgxF : gx < wr.heap.size := by omega
       have zgyF : gy < wr.heap.size := zgy
       have zRF : w.heap.size < wr.heap.size := by omega
       clear ht1 ht2 ht3 hX1 hX2 htx1 htx hvy
       by_cases h4 : 128 ≤ O
       ·
        have jO : (128 : Int) ≤ (O : Int) := by omega
        obtain ⟨O4, hO4⟩ : ∃ v, O - 128 = v := ⟨_, rfl⟩
        have fO : IntKind.i64.wrap ((O : Int) - 128) = (O4 : Int) := by rw [wraps_i64 _ (by omega) (by omega)]; omega
        have vO4 : O4 < 256 := by omega
        have hvs := valB_set y 31 O4 h16
        rw [hO, HVY.out] at hvs
        have hzd : Dig (y.set 31 O4) := hdy.set _ vO4
        have hzl : (y.set 31 O4).length = y.length := List.length_set
        obtain ⟨hR, hR17⟩ := hHI.out h4 O4 hO4 _ hvs
        have htz := valG_top (y.set 31 O4) hzd (by rw [hzl]; omega) hR17
        have htz1 := htz.1
        rw [hR] at htz1
        have HT := Lib.hid htz1
        have hset : (n64s y ++ sy).set 31 (.int .i64 (O4 : Int)) = n64s (y.set 31 O4) ++ sy := by rw [set_left _ _ _ _ (by simpa using h16), n64s_set]
        have hpos : 0 < y.length + sy.length := by omega
        obtain ⟨z, hz⟩ : ∃ z, y.set 31 O4 = z := ⟨_, rfl⟩
        have hzl2 : z.length = y.length := by rw [← hz]; exact hzl
        have HZL := Lib.hid hzl2
        rw [hz] at HT hzd hset
        have rz0 : row (wr.setRow gy (n64s z ++ sy).toArray) gy = (n64s z ++ sy).toArray := row_setRow_same (by rw [rowy]; simp; omega) (by rw [rowy]; simp [hzl2])
        have rR7 : row (wr.setRow gy (n64s z ++ sy).toArray) w.heap.size = (zeros 32 (Value.int .i64 0)).toArray := by rw [row_setRow_other _ _ _ (by omega)]; exact rR6
        have bw7 : Below w.heap.size w (wr.setRow gy (n64s z ++ sy).toArray) := Below.setRow bwf (by omega) _
        have hz32 : 32 ≤ z.length := by omega
        have hyxI : (32 : Int) ≤ x.length := by omega
        clear hR hyx htz htz1 hvs hzl hO4 hown hR17 hz hzl2 rx6 rR6
        go_wp2_with fail
        obtain ⟨w7, hw7⟩ : ∃ v, wr.setRow gy (n64s z ++ sy).toArray = v := ⟨_, rfl⟩
        have zw7 : gy < w7.heap.size := by rw [← hw7]; simpa using zgyF
        have zw8 : w.heap.size < w7.heap.size := by rw [← hw7]; simpa using zRF
        have hsz7 : wr.heap.size = w7.heap.size := by rw [← hw7]; simp
        rw [hw7] at rz0 rR7 bw7 ⊢
        clear hw7
        obtain ⟨w8, hw8⟩ : ∃ v, w7.alloc (.cells (zeros 32 (Value.int .i64 0)).toArray 120) = v := ⟨_, rfl⟩
        obtain ⟨D, hD⟩ : ∃ D, w7.heap.size = D := ⟨_, rfl⟩
        have hD2 : wr.heap.size = D := by rw [← hD]; exact hsz7
        have rD0 : row w8 D = (n64s (z.take 0 ++ List.replicate (32 - 0) 0)).toArray := by rw [← hw8, ← hD, row_alloc_at _ _ _ rfl]; rfl
        have rz8 : row w8 gy = (n64s z ++ sy).toArray := by rw [← hw8, row_alloc_past _ _ zw7]; exact rz0
        have rR8 : row w8 w.heap.size = (zeros 32 (Value.int .i64 0)).toArray := by rw [← hw8, row_alloc_past _ _ zw8]; exact rR7
        have zD8 : D < w8.heap.size := by rw [← hw8, ← hD]; simp
        have bw8 : Below w.heap.size w w8 := by rw [← hw8]; exact Below.alloc bw7 (by omega) _
        have zD1 : w.heap.size < D := by omega
        have zD2 : gy < D := by omega
        rw [hw8]
        rw [hD2]
        clear hw8 hD hD2
        go_loopw [15] (fun i wq => ∃ n : Nat, n ≤ 32 ∧ i = .int .i64 n ∧ row wq D = (n64s (z.take n ++ List.replicate (32 - n) 0)).toArray ∧ Below D w8 wq) (fun i _ => 32 - (intOf i).toNat)
        case atStart => exact ⟨0, by omega, rfl, rD0, by skip; exact Below.refl _ _⟩
        case round =>
         clear rD0
         obtain ⟨n, hn, rfl, rD, hbelD⟩ := hrel
         have rowD := (row_below hbelD zD2).trans rz8
         have rRD := (row_below hbelD zD1).trans rR8
         have zsD := hbelD.size
         have zDD : D < wr.heap.size := by omega
         have zgD : gy < wr.heap.size := by omega
         obtain ⟨L, hL⟩ : ∃ L, z.take n ++ List.replicate (32 - n) 0 = L := ⟨_, rfl⟩
         have hLl : L.length = 32 := by rw [← hL]; simp; omega
         rw [hL] at rD
         have HL := Lib.hid hL
         clear hL
         by_cases hlt : n < 32
         ·
          have c1 : (n : Int) < 32 := by omega
          have c2 : (n : Int) < x.length := by omega
          have c2' : (n : Int) < y.length := by omega
          have c3 : n < z.length := by omega
          have c4 : n < L.length := by omega
          obtain ⟨e, he⟩ : ∃ e, z[n] = e := ⟨_, rfl⟩
          have ux : n < z.length + sy.length := by omega
          have tx : (n64s z ++ sy)[n]'(by simp; omega) = .int .i64 (e : Int) := by rw [List.getElem_append_left (by simpa using c3), n64s_get, he]
          have hs : z.take (n + 1) ++ List.replicate (32 - (n + 1)) 0 = L.set n e := by
           rw [← HL.out, List.set_append_right _ _ (by rw [List.length_take]; omega), show n - (z.take n).length = 0 by rw [List.length_take]; omega, show 32 - n = (32 - (n + 1)) + 1 by omega, List.replicate_succ, List.set_cons_zero, List.take_succ_eq_append_getElem c3, he, List.append_assoc]
           rfl
          have HS := Lib.hid hs
          have hr7 := row_setRow_same (w := wr) (g := D) (c := (n64s (L.set n e)).toArray) (by rw [rD]; simp; omega) (by rw [rD]; simp)
          have b7 : Below D w8 (wr.setRow D (n64s (L.set n e)).toArray) := Below.setRow hbelD (Nat.le_refl _) _
          have hL0 : 0 < L.length := by omega
          clear hs
          go_wp2_with fail
          go_roundw
          case rel => exact ⟨n + 1, by omega, rfl, by rw [HS.out]; exact hr7, b7⟩
          case measure => simp [intOf]; omega
         ·
          obtain rfl : n = 32 := by omega
          rw [show ((32 : Nat) : Int) = 32 from rfl]
          have hLs : L = z.take 32 := by rw [← HL.out]; simp
          rw [hLs] at rD
          have hsl : (z.take 32).length = 32 := by rw [List.length_take]; omega
          have hb8 : Below w.heap.size w wr := bw8.trans (hbelD.mono (by omega))
          obtain ⟨r, hr9⟩ : ∃ r, z.take 32 = r := ⟨_, rfl⟩
          have hrd : Dig r := by rw [← hr9]; exact hzd.take 32
          have hrv : valB r = valB l % 57896044618658097711785492504343953926634992332820282019728792003956564819949 := by rw [HRR.out, ← hr9]; exact HT.out
          rw [hr9] at rD hsl
          have HRV := Lib.hid hrv
          have hfin := row_setRow_same (w := wr) (g := w.heap.size) (c := (n64s r).toArray) (by rw [rRD]; simp) (by rw [rRD]; simp [hsl])
          clear hLs hLl hrv hr9
          go_wp2_with fail
          (try simp only [Exit.inBlock, Exit.then])
          refine bodyPost_ret (results_1 rfl (resOk_row rfl ?_)) rfl ?_
          ·
           rw [hfin]
           simp [hsl]
          refine ⟨r, by rw [hfin], hsl, hrd, HRV.out, ?_⟩
          exact Below.setRow hb8 (Nat.le_refl _) _
       ·
        have jO : ¬ (128 : Int) ≤ (O : Int) := by omega
        have hR : X = R := hLO.out h4
        have HR2 := Lib.hid hR
        obtain ⟨z, hz⟩ : ∃ z, x = z := ⟨_, rfl⟩
        have hz32 : 32 ≤ z.length := by rw [← hz]; omega
        have rz0 : row wr gx = (n64s z ++ sx).toArray := by rw [← hz]; exact rx6
        have hzd : Dig z := by rw [← hz]; exact hd
        have hHT : valB (z.take 32) = R := by rw [← hz, HT1.out]; exact HR2.out
        have HT := Lib.hid hHT
        have HZX := Lib.hid hz
        have hzI : (32 : Int) ≤ x.length := by omega
        clear hR hyx hown hHT hz
        go_wp2_with fail
        obtain ⟨w7, hw7⟩ : ∃ v, wr = v := ⟨_, rfl⟩
        have zw7 : gx < w7.heap.size := by rw [← hw7]; exact zgxF
        have zw8 : w.heap.size < w7.heap.size := by rw [← hw7]; exact zRF
        rw [hw7] at rz0 rR6 bwf ⊢
        clear hw7
        obtain ⟨w8, hw8⟩ : ∃ v, w7.alloc (.cells (zeros 32 (Value.int .i64 0)).toArray 120) = v := ⟨_, rfl⟩
        obtain ⟨D, hD⟩ : ∃ D, w7.heap.size = D := ⟨_, rfl⟩
        skip
        have rD0 : row w8 D = (n64s (z.take 0 ++ List.replicate (32 - 0) 0)).toArray := by rw [← hw8, ← hD, row_alloc_at _ _ _ rfl]; rfl
        have rz8 : row w8 gx = (n64s z ++ sx).toArray := by rw [← hw8, row_alloc_past _ _ zw7]; exact rz0
        have rR8 : row w8 w.heap.size = (zeros 32 (Value.int .i64 0)).toArray := by rw [← hw8, row_alloc_past _ _ zw8]; exact rR6
        have zD8 : D < w8.heap.size := by rw [← hw8, ← hD]; simp
        have bw8 : Below w.heap.size w w8 := by rw [← hw8]; exact Below.alloc bwf (by omega) _
        have zD1 : w.heap.size < D := by omega
        have zD2 : gx < D := by omega
        rw [hw8]
        rw [hD]
        clear hw8 hD
        go_loopw [15] (fun i wq => ∃ n : Nat, n ≤ 32 ∧ i = .int .i64 n ∧ row wq D = (n64s (z.take n ++ List.replicate (32 - n) 0)).toArray ∧ Below D w8 wq) (fun i _ => 32 - (intOf i).toNat)
        case atStart => exact ⟨0, by omega, rfl, rD0, by skip; exact Below.refl _ _⟩
        case round =>
         clear rD0
         obtain ⟨n, hn, rfl, rD, hbelD⟩ := hrel
         have rowD := (row_below hbelD zD2).trans rz8
         have rRD := (row_below hbelD zD1).trans rR8
         have zsD := hbelD.size
         have zDD : D < wr.heap.size := by omega
         have zgD : gx < wr.heap.size := by omega
         obtain ⟨L, hL⟩ : ∃ L, z.take n ++ List.replicate (32 - n) 0 = L := ⟨_, rfl⟩
         have hLl : L.length = 32 := by rw [← hL]; simp; omega
         rw [hL] at rD
         have HL := Lib.hid hL
         clear hL
         by_cases hlt : n < 32
         ·
          have c1 : (n : Int) < 32 := by omega
          have c2 : (n : Int) < x.length := by omega
          have c2' : (n : Int) < y.length := by omega
          have c3 : n < z.length := by omega
          have c4 : n < L.length := by omega
          obtain ⟨e, he⟩ : ∃ e, z[n] = e := ⟨_, rfl⟩
          have ux : n < z.length + sx.length := by omega
          have tx : (n64s z ++ sx)[n]'(by simp; omega) = .int .i64 (e : Int) := by rw [List.getElem_append_left (by simpa using c3), n64s_get, he]
          have hs : z.take (n + 1) ++ List.replicate (32 - (n + 1)) 0 = L.set n e := by
           rw [← HL.out, List.set_append_right _ _ (by rw [List.length_take]; omega), show n - (z.take n).length = 0 by rw [List.length_take]; omega, show 32 - n = (32 - (n + 1)) + 1 by omega, List.replicate_succ, List.set_cons_zero, List.take_succ_eq_append_getElem c3, he, List.append_assoc]
           rfl
          have HS := Lib.hid hs
          have hr7 := row_setRow_same (w := wr) (g := D) (c := (n64s (L.set n e)).toArray) (by rw [rD]; simp; omega) (by rw [rD]; simp)
          have b7 : Below D w8 (wr.setRow D (n64s (L.set n e)).toArray) := Below.setRow hbelD (Nat.le_refl _) _
          have hL0 : 0 < L.length := by omega
          clear hs
          go_wp2_with fail
          go_roundw
          case rel => exact ⟨n + 1, by omega, rfl, by rw [HS.out]; exact hr7, b7⟩
          case measure => simp [intOf]; omega
         ·
          obtain rfl : n = 32 := by omega
          rw [show ((32 : Nat) : Int) = 32 from rfl]
          have hLs : L = z.take 32 := by rw [← HL.out]; simp
          rw [hLs] at rD
          have hsl : (z.take 32).length = 32 := by rw [List.length_take]; omega
          have hb8 : Below w.heap.size w wr := bw8.trans (hbelD.mono (by omega))
          obtain ⟨r, hr9⟩ : ∃ r, z.take 32 = r := ⟨_, rfl⟩
          have hrd : Dig r := by rw [← hr9]; exact hzd.take 32
          have hrv : valB r = valB l % 57896044618658097711785492504343953926634992332820282019728792003956564819949 := by rw [HRR.out, ← hr9]; exact HT.out
          rw [hr9] at rD hsl
          have HRV := Lib.hid hrv
          have hfin := row_setRow_same (w := wr) (g := w.heap.size) (c := (n64s r).toArray) (by rw [rRD]; simp) (by rw [rRD]; simp [hsl])
          clear hLs hLl hrv hr9
          go_wp2_with fail
          (try simp only [Exit.inBlock, Exit.then])
          refine bodyPost_ret (results_1 rfl (resOk_row rfl ?_)) rfl ?_
          ·
           rw [hfin]
           simp [hsl]
          refine ⟨r, by rw [hfin], hsl, hrd, HRV.out, ?_⟩
          exact Below.setRow hb8 (Nat.le_refl _) _
end
section
open Go.RowKit
def pB : Nat := 57896044618658097711785492504343953926634992332820282019728792003956564819949
theorem valB_digitG (l : List Nat) (h : Dig l) (i : Nat) : l.getD i 0 = valB l / 256 ^ i % 256 := by
 induction l generalizing i with
 | nil => simp [valB]
 | cons a l ih =>
  have ha := h a (List.mem_cons_self ..)
  have hl : Dig l := fun x hx => h x (List.mem_cons_of_mem _ hx)
  cases i with
  | zero =>
   rw [valB]
   simp
   omega
  | succ i =>
   have e : (a + 256 * valB l) / 256 = valB l := by omega
   rw [valB, Nat.pow_succ, Nat.mul_comm (256 ^ i) 256, ← Nat.div_div_eq_div_mul, e, ← ih hl i]
   simp
def digB (v : Nat) : List Nat := (List.range 32).map fun i => v / 256 ^ i % 256
theorem digB_length (v : Nat) : (digB v).length = 32 := by simp [digB]
theorem digB_dig (v : Nat) : Dig (digB v) := by
 intro x hx
 obtain ⟨i, _, rfl⟩ := List.mem_map.1 hx
 exact Nat.mod_lt _ (by decide)
theorem eq_digB (l : List Nat) (hl : l.length = 32) (hd : Dig l) : l = digB (valB l) := by
 refine List.ext_getElem (by rw [hl, digB_length]) fun i h1 h2 => ?_
 rw [← getD_at _ _ h1, valB_digitG l hd i]
 simp [digB]
theorem valB_range (v n : Nat) : valB ((List.range n).map fun i => v / 256 ^ i % 256) = v % 256 ^ n := by
 induction n with
 | zero => simp [valB, Nat.mod_one]
 | succ n ih =>
  rw [List.range_succ, List.map_append, List.map_singleton, valB_snoc, ih, List.length_map, List.length_range, Nat.pow_succ, Nat.mod_mul]
theorem valB_digB (v : Nat) (h : v < 256 ^ 32) : valB (digB v) = v := by
 rw [digB, valB_range, Nat.mod_eq_of_lt h]
theorem pB_lt (v : Nat) : v % pB < 256 ^ 32 := by
 have : v % pB < pB := Nat.mod_lt _ (by decide)
 unfold pB at *
 omega
theorem valB_add (l : List Nat) (p z : Nat) (h : p < l.length) : valB (l.set p (l[p] + z)) = valB l + 256 ^ p * z := by
 have := valB_set l p (l[p] + z) h
 rw [Nat.mul_add] at this
 omega
theorem carryG (l : List Nat) (n O O1 d q s : Nat) (h : n + 1 < l.length) (h0 : l[n] = O) (h1 : l[n + 1] = O1) (hd : O % 256 = d) (hq : O / 256 = q) (hs : O1 + q = s) :
  valB ((l.set (n + 1) s).set n d) = valB l := by
 have e1 := valB_set l (n + 1) s h
 have e2 := valB_set (l.set (n + 1) s) n d (by simp; omega)
 rw [List.getElem_set_ne (by omega), h0] at e2
 rw [h1] at e1
 have e3 : 256 ^ (n + 1) * s = 256 ^ (n + 1) * O1 + 256 ^ n * (256 * q) := by rw [← hs, Nat.mul_add, Nat.pow_succ, Nat.mul_assoc, Nat.mul_assoc]
 have e4 : 256 ^ n * O = 256 ^ n * d + 256 ^ n * (256 * q) := by rw [← hd, ← hq, ← Nat.mul_add, Nat.mod_add_div]
 omega
theorem dig_getD (l : List Nat) (h : ∀ i, i < l.length → l.getD i 0 < 256) : Dig l := by
 intro x hx
 obtain ⟨i, hi, rfl⟩ := List.getElem_of_mem hx
 rw [← getD_at _ _ hi]
 exact h i hi
theorem times_fit (l : List Nat) (hl : l.length = 65) (V : Nat) (hV : V < 256 ^ 64) (hv : valB l = V) (hd : ∀ i, i < 64 → l.getD i 0 < 256) : Dig l := by
 refine dig_getD l fun i hi => ?_
 rcases Nat.lt_or_ge i 64 with h | h
 ·
  exact hd i h
 ·
  obtain rfl : i = 64 := by omega
  have h1 := valB_parts l 64 (by omega)
  have h2 : l.drop 64 = [l.getD 64 0] := by
   rw [List.drop_eq_getElem_cons (by omega), List.drop_eq_nil_of_le (by omega), getD_at _ _ (by omega)]
  rw [h2] at h1
  have h3 : valB [l.getD 64 0] = l.getD 64 0 := by simp [valB]
  rw [h3] at h1
  rcases Nat.eq_zero_or_pos (l.getD 64 0) with h0 | h0
  ·
   omega
  ·
   have := Nat.le_mul_of_pos_right (256 ^ 64) h0
   omega
theorem mul_lt64 (u v : Nat) (hu : u < 256 ^ 32) (hv : v < 256 ^ 32) : u * v < 256 ^ 64 := by
 have := Nat.mul_lt_mul'' hu hv
 rwa [← Nat.pow_add] at this
end
section
open Go.RowKit
theorem rest_fun (l : List Nat) (g0 c0 : Nat) (s0 : List Value) (w : World) (hr : row w g0 = (n64s l ++ s0).toArray) (z0 : g0 < w.heap.size) (l0 : 0 < l.length) (l1 : l.length ≤ 65) (dl : Dig l) :
  Calls Tryz.prog 105 #[.slice (some ⟨g0, 0, none⟩) l.length c0] w fun e w' => e = .returned (.agg (n64s (digB (valB l % pB))).toArray) ∧ Below w.heap.size w w' := by
 refine (restG_any l g0 c0 s0 w hr z0 l0 l1 dl).mono ?_
 rintro e w' ⟨r, rfl, h1, h2, h3, h4⟩
 refine ⟨?_, h4⟩
 rw [eq_digB r h1 h2, h3]
 rfl
theorem getD_zerosG (n i : Nat) : (List.replicate n 0).getD i 0 = 0 := by
 rw [List.getD_eq_getElem?_getD, List.getElem?_replicate]
 split <;> rfl
set_option maxRecDepth 20000 in
set_option maxHeartbeats 4000000 in
theorem timesG_any (u v : Nat) (w : World) (hu : u < 256 ^ 32) (hv : v < 256 ^ 32) :
  Calls Tryz.prog 67 #[.agg (n64s (digB u)).toArray, .agg (n64s (digB v)).toArray] w fun e w' => e = .returned (.agg (n64s (digB (u * v % pB))).toArray) ∧ Below w.heap.size w w' := by
 have hau := valB_digB u hu
 have hbv := valB_digB v hv
 have la := digB_length u
 have lb := digB_length v
 have da := digB_dig u
 have db := digB_dig v
 have huv := mul_lt64 u v hu hv
 obtain ⟨a, ea⟩ : ∃ a, digB u = a := ⟨_, rfl⟩
 obtain ⟨b, eb⟩ : ∃ a, digB v = a := ⟨_, rfl⟩
 rw [ea] at hau la da ⊢
 rw [eb] at hbv lb db ⊢
 have HAU := Lib.hid hau
 have HBV := Lib.hid hbv
 have HUV := Lib.hid huv
 have LA := Lib.hid la
 have LB := Lib.hid lb
 have la32 : 32 ≤ a.length := by omega
 have lb32 : 32 ≤ b.length := by omega
 have ta32 : a.take 32 = a := List.take_of_length_le (by omega)
 have tb32 : b.take 32 = b := List.take_of_length_le (by omega)
 have TA := Lib.hid ta32
 have TB := Lib.hid tb32
 clear ea eb hau hbv huv hu hv ta32 tb32
 obtain ⟨w0, hw0⟩ : ∃ v, ((w.alloc (.cells (n64s a).toArray 120)).alloc (.cells (n64s b).toArray 120)).alloc (.cells (zeros 32 (Value.int .i64 0)).toArray 120) = v := ⟨_, rfl⟩
 obtain ⟨X, hX⟩ : ∃ X, w.heap.size + 1 + 1 + 1 = X := ⟨_, rfl⟩
 have z0 : w0.heap.size = X := by rw [← hw0, ← hX]; simp
 have ra0 : row w0 w.heap.size = (n64s a).toArray := by rw [← hw0]; simp [go_sem]
 have rb0 : row w0 (w.heap.size + 1) = (n64s b).toArray := by rw [← hw0]; simp [go_sem]
 have rR0 : row w0 (w.heap.size + 1 + 1) = (zeros 32 (Value.int .i64 0)).toArray := by rw [← hw0]; simp [go_sem]
 have b0 : Below w.heap.size w w0 := by
  rw [← hw0]
  (repeat (first | exact Below.refl _ _ | refine Below.al ?_ _ | refine Below.drew ?_ | refine Below.sr ?_ _ | refine Below.sc ?_ _))
 obtain ⟨w1, hmk0, o1, b1⟩ := make_own (P := Tryz.prog) (w := w0) (t := 103) inferInstance .i64 .i64 65 (by omega)
 rw [z0] at hmk0 o1 b1
 have hmk : (Instr.makeSlice 103 (.int .i64 65) (.int .i64 65)).run Tryz.prog w0 = .ok (.slice (some ⟨X, 0, none⟩) 65 65) w1 := hmk0
 have o1 : Own w1 X 3 (.slice (some ⟨X, 0, none⟩) 65 65) (n64s (List.replicate 65 0)) := by
  have e : List.replicate 65 (Value.int .i64 0) = n64s (List.replicate 65 0) := by simp [n64s]
  rw [e] at o1
  exact o1
 have zX : w.heap.size + 3 ≤ X := by omega
 have ra1 := (row_below b1 (by omega)).trans ra0
 have rb1 := (row_below b1 (by omega)).trans rb0
 have rR1 := (row_below b1 (by omega)).trans rR0
 have z1 : X ≤ w1.heap.size := by have := b1.size; omega
 have bw1 : Below w.heap.size w w1 := b0.trans (b1.mono (by omega))
 clear hX hmk0 z0 ra0 rb0 rR0 b0 b1 la lb
 go_enter Tryz.func67, Tryz.ntmps67
 go_wp2_with fail
 go_loopw [6] (fun i wr => ∃ (n : Nat) (l : List Nat), n ≤ 32 ∧ i = .int .i64 n ∧ l.length = 65 ∧ (∀ i, l.getD i 0 ≤ 65025 * (32 * n)) ∧ valB l = valB (a.take n) * valB b ∧ Own wr X 3 (.slice (some ⟨X, 0, none⟩) 65 65) (n64s l) ∧ Below X w1 wr) (fun i _ => 32 - (intOf i).toNat)
 case atStart => exact ⟨0, List.replicate 65 0, by omega, rfl, by simp, fun i => by rw [getD_zerosG]; omega, by rw [valB_zeros]; simp [valB], o1, by skip; exact Below.refl _ _⟩
 case round =>
  clear o1
  obtain ⟨n, l, hn, rfl, hll, hbd, hval, hown, hbel⟩ := hrel
  have hsz := hbel.size
  by_cases hlt : n < 32
  ·
   have jn : (n : Int) < 32 := by omega
   have hna : n < a.length := by omega
   obtain ⟨x, hx⟩ : ∃ v, a[n] = v := ⟨_, rfl⟩
   have vx : x < 256 := by rw [← hx]; exact da.get n hna
   have hT := valB_take_succ a n
   rw [getD_at _ _ hna, hx] at hT
   have HT := Lib.hid hT
   have HV := Lib.hid hval
   clear hT hval
   go_wp2_with fail
   go_loopw [7] (fun j wq => ∃ (m : Nat) (l' : List Nat), m ≤ 32 ∧ j = .int .i64 m ∧ l'.length = 65 ∧ (∀ i, l'.getD i 0 ≤ 65025 * (32 * n + m)) ∧ valB l' = valB l + 256 ^ n * (x * valB (b.take m)) ∧ Own wq X 3 (.slice (some ⟨X, 0, none⟩) 65 65) (n64s l') ∧ Below X w1 wq) (fun j _ => 32 - (intOf j).toNat)
   case atStart => exact ⟨0, l, by omega, rfl, hll, fun i => by have := hbd i; omega, by simp [valB], hown, hbel⟩
   case round =>
    clear hown hbel hsz hll hbd
    obtain ⟨m, l', hm, rfl, hll, hbd, hval, hown, hbel⟩ := hrel
    have hsz := hbel.size
    have HV2 := Lib.hid hval
    have HBD := Lib.hid hbd
    clear hval hbd
    by_cases hlt2 : m < 32
    ·
     have jm : (m : Int) < 32 := by omega
     have hmb : m < b.length := by omega
     have ra := (row_below hbel (by omega)).trans ra1
     have rb := (row_below hbel (by omega)).trans rb1
     have za2 : w.heap.size < wr.heap.size := by omega
     have zb2 : w.heap.size + 1 < wr.heap.size := by omega
     obtain ⟨rX, zX2, _⟩ := hown.full
     obtain ⟨y, hy⟩ : ∃ v, b[m] = v := ⟨_, rfl⟩
     have vy : y < 256 := by rw [← hy]; exact db.get m hmb
     have hT2 := valB_take_succ b m
     rw [getD_at _ _ hmb, hy] at hT2
     obtain ⟨p, hp⟩ : ∃ p, n + m = p := ⟨_, rfl⟩
     have hp65 : p < 65 := by omega
     have hpI : (p : Int) < 65 := by omega
     have hpl : p < l'.length := by omega
     have fp : IntKind.i64.wrap ((n : Int) + (m : Int)) = (p : Int) := wrapN _ _ (by omega) (by omega)
     obtain ⟨O, hO⟩ : ∃ O, l'[p] = O := ⟨_, rfl⟩
     have vO : O ≤ 65025 * (32 * n + m) := by rw [← hO, ← getD_at _ _ hpl]; exact HBD.out p
     obtain ⟨z, hz⟩ : ∃ z, x * y = z := ⟨_, rfl⟩
     have vz : z ≤ 65025 := by rw [← hz]; exact Nat.mul_le_mul (show x ≤ 255 by omega) (show y ≤ 255 by omega)
     obtain ⟨q, hq⟩ : ∃ v, O + z = v := ⟨_, rfl⟩
     have f2 : IntKind.i64.wrap ((x : Int) * (y : Int)) = (z : Int) := wrapN _ _ (by rw [← hz]; simp) (by omega)
     have f3 : IntKind.i64.wrap ((O : Int) + (z : Int)) = (q : Int) := wrapN _ _ (by omega) (by omega)
     have hs : valB (l'.set p q) = valB l + 256 ^ n * (x * valB (b.take (m + 1))) := by
      have h1 := valB_add l' p z hpl
      rw [hO, hq] at h1
      rw [h1, HV2.out, hT2, ← hp, ← hz, Nat.pow_add, Nat.mul_add, Nat.mul_add, Nat.mul_left_comm x, Nat.mul_assoc, Nat.add_assoc]
     have hbd2 : ∀ i, (l'.set p q).getD i 0 ≤ 65025 * (32 * n + (m + 1)) := by
      intro i
      by_cases hi : p = i
      ·
       subst hi
       rw [getD_at _ _ (by simpa using hpl), List.getElem_set_self]
       omega
      ·
       rw [List.getD_eq_getElem?_getD, List.getElem?_set_ne hi, ← List.getD_eq_getElem?_getD]
       have := HBD.out i
       omega
     have HS := Lib.hid hs
     have HB2 := Lib.hid hbd2
     have hl2 : (l'.set p q).length = 65 := by rw [List.length_set]; exact hll
     have HL2 := Lib.hid hl2
     have hl0 : 0 < l'.length := by omega
     clear hs hp hT2 hq hz hbd2 hl2 hll vO
     go_wp2_with fail
     refine wp_region_beginK 19 [(w.heap.size, (n64s a).toArray), (w.heap.size + 1, (n64s b).toArray), (X, (n64s l').toArray)] [] rfl (by simp only [Rws]; (repeat (first | exact trivial | refine ⟨(by first | assumption | (simp [go_sem, *]; done)), (by first | omega | (simp; done) | (simp; omega)), ?_⟩))) (fun hS => ?_)
     refine kp 0 hS ?_
     refine kp 1 hS ?_
     refine kp 2 hS ?_
     refine kp 3 hS ?_
     refine kp 4 hS ?_
     refine kp 5 hS ?_
     refine kp 6 hS ?_
     refine kp 7 hS ?_
     refine kp 8 hS ?_
     refine kp 9 hS ?_
     refine kp 10 hS ?_
     refine kp 11 hS ?_
     refine kp 12 hS ?_
     refine kp 13 hS ?_
     refine kp 14 hS ?_
     refine kp 15 hS ?_
     refine kp 16 hS ?_
     refine kp 17 hS ?_
     refine kp 18 hS ?_
     refine wpAnyK_store (k := 19) (by simp only [List.getElem?_toArray, List.getElem?_cons_succ, List.getElem?_cons_zero]; rfl) rfl rfl (by kernel_rfl) (fun u1 hu1 => ?_)
     have zu1 : wr.heap.size ≤ u1.heap.size := hu1.size
     have hu2 := below_step (Below.drew (Below.refl _ _)) hu1
     have ou := hown.below hu2
     obtain ⟨rXu, _, _⟩ := ou.full
     have o3 := ou.setFull (u := .int .i64 (q : Int)) (j := p) (by simpa using hpl)
     have b3 : Below X w1 (u1.setRow X ((n64s l').set p (.int .i64 (q : Int))).toArray) := Below.setRow (hbel.trans (hu2.mono (by omega))) (Nat.le_refl _) _
     rw [n64s_set] at o3 b3
     obtain ⟨w5, hw5⟩ : ∃ v, u1.setRow X (n64s (l'.set p q)).toArray = v := ⟨_, rfl⟩
     rw [hw5] at o3 b3
     have z5 : X < w5.heap.size := by rw [← hw5]; simp; omega
     refine ⟨w5, by go_simp; (try rw [hw5]), trivial, fun hS2 => ?_⟩
     clear hw5
     (try simp only [Act.put, List.setIfInBounds_toArray, List.set_cons_zero, List.set_cons_succ])
     refine wpAnyR_done (by kernel_rfl) (fun w6 h6 => ?_) _
     have o6 := o3.below h6
     have b6 := b3.trans (h6.mono (by omega))
     clear o3 b3 ou hu1 hu2 hown hbel rX rXu ra rb hS hS2 h6
     go_wp2_with fail
     go_roundw
     case rel => exact ⟨m + 1, l'.set p q, by omega, rfl, HL2.out, HB2.out, HS.out, o6, b6⟩
     case measure => simp [intOf]; omega
    ·
     obtain rfl : m = 32 := by omega
     rw [show ((32 : Nat) : Int) = 32 from rfl]
     have hs : valB l' = valB (a.take (n + 1)) * valB b := by
      rw [HV2.out, HV.out, HT.out, TB.out, Nat.add_mul, Nat.mul_assoc]
     have HS := Lib.hid hs
     clear hs
     go_wp2_with fail
     go_roundw
     case rel => exact ⟨n + 1, l', by omega, rfl, hll, fun i => by have := HBD.out i; omega, HS.out, hown, hbel⟩
     case measure => simp [intOf]; omega
  ·
   obtain rfl : n = 32 := by omega
   rw [show ((32 : Nat) : Int) = 32 from rfl]
   rw [TA.out, HAU.out, HBV.out] at hval
   have hbd2 : ∀ i, l.getD i 0 ≤ 66585600 := fun i => by have := hbd i; omega
   have HVV := Lib.hid hval
   have HB := Lib.hid hbd2
   clear hval hbd hbd2
   go_wp2_with fail
   go_loopw [8] (fun i wq => ∃ (n : Nat) (l' : List Nat), n ≤ 64 ∧ i = .int .i64 n ∧ l'.length = 65 ∧ (∀ i, n < i → l'.getD i 0 ≤ 66585600) ∧ l'.getD n 0 ≤ 67000000 ∧ (∀ i, i < n → l'.getD i 0 < 256) ∧ valB l' = u * v ∧ Own wq X 3 (.slice (some ⟨X, 0, none⟩) 65 65) (n64s l') ∧ Below X w1 wq) (fun i _ => 64 - (intOf i).toNat)
   case atStart => exact ⟨0, l, by omega, rfl, hll, fun i _ => HB.out i, by have := HB.out 0; omega, fun i hi => by omega, HVV.out, hown, hbel⟩
   case round =>
    clear hown hbel hsz hll hlt
    obtain ⟨n, l', hn, rfl, hll, hb1, hb2, hb3, hval, hown, hbel⟩ := hrel
    have hsz := hbel.size
    obtain ⟨rX, zX2, _⟩ := hown.full
    have rR := (row_below hbel (by omega)).trans rR1
    have HVV2 := Lib.hid hval
    have HB1 := Lib.hid hb1
    have HB3 := Lib.hid hb3
    clear hval hb1 hb3
    by_cases hlt : n < 64
    ·
     have jn : (n : Int) < 64 := by omega
     have jn2 : (n : Int) < 65 := by omega
     have hnl : n < l'.length := by omega
     obtain ⟨n1, hn1⟩ : ∃ v, n + 1 = v := ⟨_, rfl⟩
     have fn1 : IntKind.i64.wrap ((n : Int) + 1) = (n1 : Int) := wrapN _ _ (by omega) (by omega)
     have jn1 : (n1 : Int) < 65 := by omega
     have jn1' : n1 < 65 := by omega
     have hnl1 : n1 < l'.length := by omega
     obtain ⟨O, hO⟩ : ∃ v, l'[n] = v := ⟨_, rfl⟩
     obtain ⟨O1, hO1⟩ : ∃ v, l'[n1] = v := ⟨_, rfl⟩
     have vO : O ≤ 67000000 := by rw [← hO, ← getD_at _ _ hnl]; exact hb2
     have vO1 : O1 ≤ 66585600 := by rw [← hO1, ← getD_at _ _ hnl1]; exact HB1.out n1 (by omega)
     obtain ⟨q, hq⟩ : ∃ v, O / 256 = v := ⟨_, rfl⟩
     obtain ⟨d, hd⟩ : ∃ v, O % 256 = v := ⟨_, rfl⟩
     obtain ⟨m1, m2⟩ := modt _ _ hd
     obtain ⟨m3, m4⟩ := divt _ _ hq
     obtain ⟨s, hs⟩ : ∃ v, O1 + q = v := ⟨_, rfl⟩
     have fs : IntKind.i64.wrap ((O1 : Int) + (q : Int)) = (s : Int) := wrapN _ _ (by omega) (by omega)
     have fqq : IntKind.i64.wrap (q : Int) = (q : Int) := wrapN _ _ rfl (by omega)
     have vs : s ≤ 67000000 := by omega
     have vd : d < 256 := by omega
     obtain ⟨L1, hL1⟩ : ∃ v, l'.set n1 s = v := ⟨_, rfl⟩
     have l1l : L1.length = 65 := by rw [← hL1, List.length_set]; exact hll
     have hnL1 : n < L1.length := by omega
     have hO' : L1[n] = O := by simp only [← hL1]; rw [List.getElem_set_ne (by omega), hO]
     obtain ⟨L2, hL2⟩ : ∃ v, L1.set n d = v := ⟨_, rfl⟩
     have l2l : L2.length = 65 := by rw [← hL2, List.length_set]; exact l1l
     have hv2 : valB L2 = u * v := by
      rw [← hL2, ← hL1, ← HVV2.out]
      have hnn := hn1
      subst hnn
      exact carryG l' n O O1 d q s hnl1 hO hO1 hd hq hs
     have g2 : ∀ i, L2.getD i 0 = if n = i then d else if n1 = i then s else l'.getD i 0 := by
      intro i
      rw [← hL2]
      have t1 : ∀ (M : List Nat) (i j v : Nat), i < M.length → (M.set i v).getD j 0 = if i = j then v else M.getD j 0 := by
       intro M i j v h
       by_cases hij : i = j
       ·
        subst hij
        simp [List.getD_eq_getElem?_getD, h]
       ·
        simp [List.getD_eq_getElem?_getD, hij]
      rw [t1 L1 n i d hnL1]
      split
      ·
       rfl
      ·
       rw [← hL1, t1 l' n1 i s hnl1]
     have c1 : ∀ i, n1 < i → L2.getD i 0 ≤ 66585600 := fun i hi => by rw [g2, if_neg (by omega), if_neg (by omega)]; exact HB1.out i (by omega)
     have c2 : L2.getD n1 0 ≤ 67000000 := by rw [g2, if_neg (by omega), if_pos rfl]; exact vs
     have c3 : ∀ i, i < n1 → L2.getD i 0 < 256 := fun i hi => by
      rw [g2]
      split
      ·
       exact vd
      ·
       rw [if_neg (by omega)]
       exact HB3.out i (by omega)
     have C1 := Lib.hid c1
     have C2 := Lib.hid c2
     have C3 := Lib.hid c3
     have V2 := Lib.hid hv2
     have LL2 := Lib.hid l2l
     have HN1 := Lib.hid hn1
     have HL1 := Lib.hid hL1
     have HL2 := Lib.hid hL2
     have hset1 : (n64s l').set n1 (.int .i64 (s : Int)) = n64s L1 := by rw [n64s_set, hL1]
     have hset2 : (n64s L1).set n (.int .i64 (d : Int)) = n64s L2 := by rw [n64s_set, hL2]
     have hl0 : 0 < l'.length := by omega
     have hL10 : 0 < L1.length := by omega
     have hll1 : n1 < l'.length := hnl1
     have LL1 := Lib.hid l1l
     clear hq hd hs hL1 hL2 c1 c2 c3 hv2 l2l hn1 g2 hll l1l
     go_wp2_with fail
     refine wp_region_beginK 15 [(X, (n64s l').toArray)] [] rfl (by simp only [Rws]; (repeat (first | exact trivial | refine ⟨(by first | assumption | (simp [go_sem, *]; done)), (by first | omega | (simp; done) | (simp; omega)), ?_⟩))) (fun hS => ?_)
     refine kp 0 hS ?_
     refine kp 1 hS ?_
     refine kp 2 hS ?_
     refine kp 3 hS ?_
     refine kp 4 hS ?_
     refine kp 5 hS ?_
     refine kp 6 hS ?_
     refine kp 7 hS ?_
     refine kp 8 hS ?_
     refine kp 9 hS ?_
     refine kp 10 hS ?_
     refine kp 11 hS ?_
     refine kp 12 hS ?_
     refine kp 13 hS ?_
     refine kp 14 hS ?_
     refine wpAnyK_store (k := 15) (by simp only [List.getElem?_toArray, List.getElem?_cons_succ, List.getElem?_cons_zero]; rfl) rfl rfl (by kernel_rfl) (fun u1 hu1 => ?_)
     have zu1 : wr.heap.size ≤ u1.heap.size := hu1.size
     have hu2 := below_step (Below.drew (Below.refl _ _)) hu1
     have ou := hown.below hu2
     obtain ⟨rXu, _, _⟩ := ou.full
     have o3 := ou.setFull (u := .int .i64 (s : Int)) (j := n1) (by simpa using hll1)
     have b3 : Below X w1 (u1.setRow X ((n64s l').set n1 (.int .i64 (s : Int))).toArray) := Below.setRow (hbel.trans (hu2.mono (by omega))) (Nat.le_refl _) _
     rw [hset1] at o3 b3
     obtain ⟨w5, hw5⟩ : ∃ v, u1.setRow X (n64s L1).toArray = v := ⟨_, rfl⟩
     rw [hw5] at o3 b3
     have z5 : X < w5.heap.size := by rw [← hw5]; simp; omega
     refine ⟨w5, by go_simp; (try rw [HL1.out, hw5]), trivial, fun hS2 => ?_⟩
     clear hw5
     (try simp only [Act.put, List.setIfInBounds_toArray, List.set_cons_zero, List.set_cons_succ])
     refine wpAnyR_done (by kernel_rfl) (fun w6 h6 => ?_) _
     have o6 := o3.below h6
     have b6 := b3.trans (h6.mono (by omega))
     obtain ⟨rX6, zX6, _⟩ := o6.full
     have o7 := o6.setFull (u := .int .i64 (d : Int)) (j := n) (by simpa using hnL1)
     have b7 : Below X w1 (w6.setRow X ((n64s L1).set n (.int .i64 (d : Int))).toArray) := Below.setRow b6 (Nat.le_refl _) _
     rw [hset2] at o7 b7
     clear o3 b3 ou hu1 hu2 hown hbel rX rXu rR hS hS2 h6 o6 b6 hset1
     go_wp2_with fail
     go_roundw
     case rel => exact ⟨n1, L2, by omega, by first | rfl | (rw [← HN1.out]; rfl), LL2.out, C1.out, C2.out, C3.out, V2.out, o7, b7⟩
     case measure => have := HN1.out; simp [intOf]; omega
    ·
     obtain rfl : n = 64 := by omega
     rw [show ((64 : Nat) : Int) = 64 from rfl]
     have hdl : Dig l' := times_fit l' hll (u * v) HUV.out HVV2.out HB3.out
     have hlp : 0 < l'.length := by omega
     have hl65 : l'.length ≤ 65 := by omega
     have rX' : row wr X = (n64s l' ++ []).toArray := by rw [List.append_nil]; exact rX
     have hrest := fun W' => rest_fun l' X 65 [] W'
     rw [hll] at hrest
     have HRE := Lib.hid (hrest wr rX' zX2 (by decide) (by decide) hdl)
     rw [HVV2.out] at HRE
     have hrl := digB_length (u * v % pB)
     obtain ⟨r, hr⟩ : ∃ r, digB (u * v % pB) = r := ⟨_, rfl⟩
     rw [hr] at HRE hrl
     have HR := Lib.hid hr
     have bwr : Below w.heap.size w wr := bw1.trans (hbel.mono (by omega))
     clear hr hrest hll hown
     go_wp2_with fail
     (with_reducible refine HRE.out.mono ?_)
     rintro e w8 ⟨rfl, b8⟩
     have rR8 := (row_below b8 (by omega)).trans rR
     have hfin := row_setRow_same (w := w8) (g := w.heap.size + 1 + 1) (c := (n64s r).toArray) (by rw [rR8]; simp) (by rw [rR8]; simp [hrl])
     have bw8 := bwr.trans (b8.mono (by omega))
     go_wp2_with fail
     (try simp only [Exit.inBlock, Exit.then])
     refine bodyPost_ret (results_1 rfl (resOk_row rfl ?_)) rfl ?_
     ·
      rw [hfin]
      simp [hrl]
     refine ⟨by rw [hfin, HR.out], ?_⟩
     exact Below.setRow bw8 (by omega) _
end
section
open Go.RowKit
def ints8G (l : List UInt8) : List Nat := l.map UInt8.toNat
theorem ints8G_length (l : List UInt8) : (ints8G l).length = l.length := by simp [ints8G]
theorem ints8G_dig (l : List UInt8) : Dig (ints8G l) := by
 intro x hx
 obtain ⟨b, _, rfl⟩ := List.mem_map.1 hx
 exact b.toNat_lt
def nK (k : List UInt8) : Nat := valB ((ints8G k).set 31 ((ints8G k).getD 31 0 % 128))
set_option maxRecDepth 20000 in
set_option maxHeartbeats 2000000 in
theorem placeG_any (k : List UInt8) (w : World) (hk : k.length = 32) :
  Calls Tryz.prog 65 #[.agg (u8s k).toArray] w fun e w' => e = .returned (.agg (n64s (digB (nK k % pB))).toArray) ∧ Below w.heap.size w w' := by
 have hkl := ints8G_length k
 have hkd := ints8G_dig k
 go_enter Tryz.func65, Tryz.ntmps65
 go_wp2_with fail
 obtain ⟨w0, hw0⟩ : ∃ v, (w.alloc (.cells (u8s k).toArray 22)).alloc (.cells (zeros 32 (Value.int .i64 0)).toArray 120) = v := ⟨_, rfl⟩
 have rk0 : row w0 w.heap.size = (u8s k).toArray := by rw [← hw0]; simp [go_sem]
 have rR0 : row w0 (w.heap.size + 1) = (zeros 32 (Value.int .i64 0)).toArray := by rw [← hw0]; simp [go_sem]
 have z0 : w0.heap.size = w.heap.size + 2 := by rw [← hw0]; simp
 have b0 : Below w.heap.size w w0 := by
  rw [← hw0]
  (repeat (first | exact Below.refl _ _ | refine Below.al ?_ _ | refine Below.drew ?_ | refine Below.sr ?_ _ | refine Below.sc ?_ _))
 rw [hw0]
 clear hw0
 go_loopw [3, 4] (fun v i wr => ∃ n : Nat, n ≤ 32 ∧ i = .int .i64 n ∧ Own wr (w.heap.size + 2) 3 v (n64s ((ints8G k).take n)) ∧ Below (w.heap.size + 2) w0 wr) (fun _ i _ => 32 - (intOf i).toNat)
 case atStart => exact ⟨0, by omega, rfl, Own.nil, by rw [← z0]; exact Below.refl _ _⟩
 case round =>
  obtain ⟨n, hn, rfl, hown, hbel⟩ := hrel
  have hsz := hbel.size
  have rk := (row_below hbel (by omega)).trans rk0
  have rR := (row_below hbel (by omega)).trans rR0
  have zk : w.heap.size < wr.heap.size := by omega
  by_cases hlt : n < 32
  ·
   have c1 : (n : Int) < 32 := by omega
   have c3 : n < k.length := by omega
   obtain ⟨e, he⟩ : ∃ e, k[n].toNat = e := ⟨_, rfl⟩
   have ve : e < 256 := by rw [← he]; exact k[n].toNat_lt
   have hb : (ints8G k).take (n + 1) = (ints8G k).take n ++ [e] := by
    rw [List.take_succ_eq_append_getElem (by omega)]
    congr 1
    simp [ints8G, he]
   have HB := Lib.hid hb
   have hlen : (n64s ((ints8G k).take n)).length + 1 ≤ 1000000 := by rw [n64s_length, List.length_take]; omega
   have HK := Lib.hid hkl
   clear hb hkl
   go_wp2_with (at_builtin; refine wpList_append1 rfl rfl inferInstance (w.heap.size + 2) _ _ rfl hown _ rfl rfl hlen (by omega) ?_)
   intro v3 w3 o3 b3
   go_wp2_with fail
   go_roundw
   case rel => exact ⟨n + 1, by omega, rfl, by rw [HB.out, n64s_append]; exact o3, hbel.trans b3⟩
   case measure => simp [intOf]; omega
  ·
   obtain rfl : n = 32 := by omega
   rw [show ((32 : Nat) : Int) = 32 from rfl]
   rw [List.take_of_length_le (by omega)] at hown
   obtain ⟨L, hL⟩ : ∃ L, ints8G k = L := ⟨_, rfl⟩
   have hnk : nK k = valB (L.set 31 (L.getD 31 0 % 128)) := by rw [nK, hL]
   rw [hL] at hown hkl hkd
   have hL32 : 31 < L.length := by omega
   obtain ⟨g, c, s, rfl, hc, hg, zg, rowg⟩ := hown.ints (by omega)
   obtain ⟨e, he⟩ : ∃ e, L[31] = e := ⟨_, rfl⟩
   have ve : e < 256 := by rw [← he]; exact hkd.get 31 hL32
   obtain ⟨d, hd⟩ : ∃ v, e % 128 = v := ⟨_, rfl⟩
   have md : (e : Int) % 128 = (d : Int) := by omega
   have mt : (e : Int).tmod 128 = (d : Int) := by rw [Int.tmod_eq_emod_of_nonneg (by omega)]; exact md
   rw [getD_at _ _ hL32, he, hd] at hnk
   have ux : 31 < L.length + s.length := by omega
   have tx : (n64s L ++ s)[31]'(by simp; omega) = .int .i64 (e : Int) := by rw [List.getElem_append_left (by simpa using hL32), n64s_get, he]
   have hset : (n64s L ++ s).set 31 (.int .i64 (d : Int)) = n64s (L.set 31 d) ++ s := by rw [set_left _ _ _ _ (by simpa using hL32), n64s_set]
   have hpos : 0 < L.length + s.length := by omega
   obtain ⟨M, hM⟩ : ∃ M, L.set 31 d = M := ⟨_, rfl⟩
   have hMl : M.length = L.length := by rw [← hM, List.length_set]
   have hMd : Dig M := by rw [← hM]; exact hkd.set _ (by omega)
   rw [hM] at hnk hset
   have hI : (31 : Int) < L.length := by omega
   have rM : row (wr.setRow g (n64s M ++ s).toArray) g = (n64s M ++ s).toArray := row_setRow_same (by rw [rowg]; simp; omega) (by rw [rowg]; simp [hMl])
   have rR2 : row (wr.setRow g (n64s M ++ s).toArray) (w.heap.size + 1) = (zeros 32 (Value.int .i64 0)).toArray := by rw [row_setRow_other _ _ _ (by omega)]; exact rR
   have zg2 : g < (wr.setRow g (n64s M ++ s).toArray).heap.size := by simpa using zg
   have zR2 : w.heap.size + 1 < (wr.setRow g (n64s M ++ s).toArray).heap.size := by simp; omega
   have bw2 : Below w.heap.size w (wr.setRow g (n64s M ++ s).toArray) := Below.setRow (b0.trans (hbel.mono (by omega))) (by omega) _
   have hrest := fun W' hr hz => rest_fun M g c s W' hr hz (by omega) (by omega) hMd
   rw [← hnk, hMl] at hrest
   have HRE := Lib.hid (hrest _ rM zg2)
   have hrl := digB_length (nK k % pB)
   obtain ⟨r, hr⟩ : ∃ r, digB (nK k % pB) = r := ⟨_, rfl⟩
   rw [hr] at HRE hrl
   have HR := Lib.hid hr
   clear hr hrest hM hMl hnk hL hkl hd rM
   go_wp2_with fail
   (with_reducible refine HRE.out.mono ?_)
   rintro e w8 ⟨rfl, b8⟩
   have rR8 := (row_below b8 zR2).trans rR2
   have hfin := row_setRow_same (w := w8) (g := w.heap.size + 1) (c := (n64s r).toArray) (by rw [rR8]; simp) (by rw [rR8]; simp [hrl])
   have bw8 := bw2.trans (b8.mono (by simp; omega))
   go_wp2_with fail
   (try simp only [Exit.inBlock, Exit.then])
   refine bodyPost_ret (results_1 rfl (resOk_row rfl ?_)) rfl ?_
   ·
    rw [hfin]
    simp [hrl]
   refine ⟨by rw [hfin, HR.out], ?_⟩
   exact Below.setRow bw8 (by omega) _
def kB (v : Nat) : List UInt8 := (digB v).map UInt8.ofNat
theorem kB_length (v : Nat) : (kB v).length = 32 := by simp [kB, digB_length]
set_option maxRecDepth 20000 in
set_option maxHeartbeats 2000000 in
theorem keyG_any (v : Nat) (w : World) :
  Calls Tryz.prog 69 #[.agg (n64s (digB v)).toArray] w fun e w' => e = .returned (.agg (u8s (kB v)).toArray) ∧ Below w.heap.size w w' := by
 have hxl := digB_length v
 have hxd := digB_dig v
 have hkb : kB v = (digB v).map UInt8.ofNat := rfl
 obtain ⟨x, hx⟩ : ∃ x, digB v = x := ⟨_, rfl⟩
 rw [hx] at hxl hxd hkb ⊢
 have HKB := Lib.hid hkb
 clear hkb hx
 go_enter Tryz.func69, Tryz.ntmps69
 go_wp2_with fail
 obtain ⟨w0, hw0⟩ : ∃ v, ((w.alloc (.cells (n64s x).toArray 120)).alloc (.cells (zeros 32 (Value.int .u8 0)).toArray 22)).alloc (.cells (zeros 32 (Value.int .u8 0)).toArray 22) = v := ⟨_, rfl⟩
 have rx0 : row w0 w.heap.size = (n64s x).toArray := by rw [← hw0]; simp [go_sem]
 have rR0 : row w0 (w.heap.size + 1) = (zeros 32 (Value.int .u8 0)).toArray := by rw [← hw0]; simp [go_sem]
 have rD0 : row w0 (w.heap.size + 1 + 1) = (u8s ((x.map UInt8.ofNat).take 0 ++ List.replicate (32 - 0) 0)).toArray := by
  rw [← hw0]
  rw [show (x.map UInt8.ofNat).take 0 ++ List.replicate (32 - 0) (0 : UInt8) = List.replicate 32 0 from rfl]
  simp [go_sem, u8s, zeros]
 have z0 : w0.heap.size = w.heap.size + 3 := by rw [← hw0]; simp
 have b0 : Below w.heap.size w w0 := by
  rw [← hw0]
  (repeat (first | exact Below.refl _ _ | refine Below.al ?_ _ | refine Below.drew ?_ | refine Below.sr ?_ _ | refine Below.sc ?_ _))
 rw [hw0]
 clear hw0
 go_loopw [4] (fun i wr => ∃ n : Nat, n ≤ 32 ∧ i = .int .i64 n ∧ row wr (w.heap.size + 1 + 1) = (u8s ((x.map UInt8.ofNat).take n ++ List.replicate (32 - n) 0)).toArray ∧ Below (w.heap.size + 2) w0 wr) (fun i _ => 32 - (intOf i).toNat)
 case atStart => exact ⟨0, by omega, rfl, rD0, by skip; exact Below.refl _ _⟩
 case round =>
  clear rD0
  obtain ⟨n, hn, rfl, rD, hbel⟩ := hrel
  have hsz := hbel.size
  have rx := (row_below hbel (by omega)).trans rx0
  have rR := (row_below hbel (by omega)).trans rR0
  have zx : w.heap.size < wr.heap.size := by omega
  have zD : w.heap.size + 1 + 1 < wr.heap.size := by omega
  have hml : (x.map UInt8.ofNat).length = 32 := by simpa using hxl
  obtain ⟨L, hL⟩ : ∃ L, (x.map UInt8.ofNat).take n ++ List.replicate (32 - n) (0 : UInt8) = L := ⟨_, rfl⟩
  have hLl : L.length = 32 := by rw [← hL]; simp; omega
  rw [hL] at rD
  have HL := Lib.hid hL
  clear hL
  by_cases hlt : n < 32
  ·
   have c1 : (n : Int) < 32 := by omega
   have c3 : n < x.length := by omega
   have c4 : n < L.length := by omega
   obtain ⟨y, hy⟩ : ∃ y : UInt8, x[n] = y.toNat := ⟨UInt8.ofNat x[n], by have := hxd.get n c3; simp; omega⟩
   have vy := y.toNat_lt
   have tx : (n64s x)[n]'(by simpa using c3) = .int .i64 (y.toNat : Int) := by rw [n64s_get, hy]
   have hs : (x.map UInt8.ofNat).take (n + 1) ++ List.replicate (32 - (n + 1)) 0 = L.set n y := by
    have hyv : (x.map UInt8.ofNat)[n]'(by omega) = y := by rw [List.getElem_map, hy]; simp
    rw [← HL.out, List.set_append_right _ _ (by rw [List.length_take]; omega), show n - ((x.map UInt8.ofNat).take n).length = 0 by rw [List.length_take]; omega, show 32 - n = (32 - (n + 1)) + 1 by omega, List.replicate_succ, List.set_cons_zero, List.take_succ_eq_append_getElem (by omega), hyv, List.append_assoc]
    rfl
   have HS := Lib.hid hs
   have hset := u8s_setB L n y
   have hr7 := row_setRow_same (w := wr) (g := w.heap.size + 1 + 1) (c := (u8s (L.set n y)).toArray) (by rw [rD]; simp; omega) (by rw [rD]; simp)
   have b7 : Below (w.heap.size + 2) w0 (wr.setRow (w.heap.size + 1 + 1) (u8s (L.set n y)).toArray) := Below.setRow hbel (Nat.le_refl _) _
   have hL0 : 0 < L.length := by omega
   have HXL := Lib.hid hxl
   clear hs hy hml hxl
   go_wp2_with fail
   go_roundw
   case rel => exact ⟨n + 1, by omega, rfl, by rw [HS.out]; exact hr7, b7⟩
   case measure => simp [intOf]; omega
  ·
   obtain rfl : n = 32 := by omega
   rw [show ((32 : Nat) : Int) = 32 from rfl]
   have hLs : L = kB v := by rw [HKB.out, ← HL.out, List.take_of_length_le (by omega)]; simp
   rw [hLs] at rD
   have hsl := kB_length v
   have hb8 : Below w.heap.size w wr := b0.trans (hbel.mono (by omega))
   obtain ⟨r, hr⟩ : ∃ r, kB v = r := ⟨_, rfl⟩
   rw [hr] at rD hsl
   have HR := Lib.hid hr
   have hfin := row_setRow_same (w := wr) (g := w.heap.size + 1) (c := (u8s r).toArray) (by rw [rR]; simp) (by rw [rR]; simp [hsl])
   clear hLs hLl hr
   go_wp2_with fail
   (try simp only [Exit.inBlock, Exit.then])
   refine bodyPost_ret (results_1 rfl (resOk_row rfl ?_)) rfl ?_
   ·
    rw [hfin]
    simp [hsl]
   refine ⟨by rw [hfin, HR.out], ?_⟩
   exact Below.setRow hb8 (by omega) _
end
section
open Go.RowKit
def eB : Nat → Nat
 | 0 => 0
 | k + 1 => if k = 252 ∨ k = 250 then 2 * eB k else 2 * eB k + 1
theorem pow_two_mod (a e : Nat) : (a ^ e % pB) * (a ^ e % pB) % pB = a ^ (2 * e) % pB := by
 rw [← Nat.mul_mod, ← Nat.pow_add, Nat.two_mul]
theorem pow_one_mod (a e : Nat) : a ^ e % pB * a % pB = a ^ (e + 1) % pB := by
 rw [Nat.pow_succ, Nat.mul_mod, Nat.mod_mod, ← Nat.mul_mod]
theorem digB_one : digB 1 = 1 :: List.replicate 31 0 := by decide +kernel
theorem one_cellsG : (Value.int .i64 1 :: (zeros 32 (Value.int .i64 0)).tail) = n64s (digB 1) := by
 rw [digB_one]
 rfl
set_option maxRecDepth 20000 in
set_option maxHeartbeats 2000000 in
theorem invG_any (v : Nat) (w : World) (hv : v < 256 ^ 32) :
  Calls Tryz.prog 70 #[.agg (n64s (digB v)).toArray] w fun e w' => e = .returned (.agg (n64s (digB (v ^ eB 255 % pB))).toArray) ∧ Below w.heap.size w w' := by
 have hvl := digB_length v
 obtain ⟨x, hx⟩ : ∃ x, digB v = x := ⟨_, rfl⟩
 rw [hx] at hvl ⊢
 have HX := Lib.hid hx
 clear hx
 go_enter Tryz.func70, Tryz.ntmps70
 obtain ⟨d1, hd1⟩ : ∃ x, digB 1 = x := ⟨_, rfl⟩
 have h1l : d1.length = 32 := by rw [← hd1]; exact digB_length 1
 have hone : (Value.int .i64 1 :: (zeros 32 (Value.int .i64 0)).tail) = n64s d1 := by rw [← hd1]; exact one_cellsG
 have HD1 := Lib.hid hd1
 clear hd1
 go_wp2_with fail
 obtain ⟨w0, hw0⟩ : ∃ v, ((w.alloc (.cells (n64s x).toArray 120)).alloc (.cells (zeros 32 (Value.int .i64 0)).toArray 120)).alloc (.cells (n64s d1).toArray 120) = v := ⟨_, rfl⟩
 have rx0 : row w0 w.heap.size = (n64s x).toArray := by rw [← hw0]; simp [go_sem]
 have rR0 : row w0 (w.heap.size + 1) = (zeros 32 (Value.int .i64 0)).toArray := by rw [← hw0]; simp [go_sem]
 have rO0 : row w0 (w.heap.size + 1 + 1) = (n64s d1).toArray := by rw [← hw0]; simp [go_sem]
 have z0 : w0.heap.size = w.heap.size + 3 := by rw [← hw0]; simp
 have b0 : Below w.heap.size w w0 := by
  rw [← hw0]
  (repeat (first | exact Below.refl _ _ | refine Below.al ?_ _ | refine Below.drew ?_ | refine Below.sr ?_ _ | refine Below.sc ?_ _))
 rw [hw0]
 clear hw0 hone
 go_loopw [4] (fun i wr => ∃ k : Nat, k ≤ 255 ∧ i = .int .i64 (254 - (k : Int)) ∧ row wr (w.heap.size + 1 + 1) = (n64s (digB (v ^ eB k % pB))).toArray ∧ Below (w.heap.size + 2) w0 wr) (fun i _ => (intOf i + 1).toNat)
 case atStart => exact ⟨0, by omega, by simp, by rw [show v ^ eB 0 % pB = 1 by rw [eB, Nat.pow_zero]; rfl, HD1.out]; exact rO0, by skip; exact Below.refl _ _⟩
 case round =>
  clear rO0
  obtain ⟨k, hk, rfl, rO, hbel⟩ := hrel
  have hsz := hbel.size
  have rx := (row_below hbel (by omega)).trans rx0
  have rR := (row_below hbel (by omega)).trans rR0
  by_cases hlt : k < 255
  ·
   obtain ⟨b, hb⟩ : ∃ b : Nat, (254 : Int) - (k : Int) = (b : Int) := ⟨254 - k, by omega⟩
   rw [hb]
   have HB := Lib.hid hb
   have hbI : (0 : Int) ≤ (b : Int) := by omega
   have hb254 : (b : Int) ≤ 254 := by omega
   obtain ⟨U, hU⟩ : ∃ U, v ^ eB k % pB = U := ⟨_, rfl⟩
   have hUl : U < 256 ^ 32 := by rw [← hU]; exact pB_lt _
   rw [hU] at rO
   have h2 : U * U % pB = v ^ (2 * eB k) % pB := by rw [← hU]; exact pow_two_mod v _
   have H2 := Lib.hid h2
   obtain ⟨U2, hU2⟩ : ∃ U2, U * U % pB = U2 := ⟨_, rfl⟩
   have hU2l : U2 < 256 ^ 32 := by rw [← hU2]; exact pB_lt _
   have HT1 := Lib.hid (fun W' => timesG_any U U W' hUl hUl)
   have HT2 := Lib.hid (fun W' => timesG_any U2 v W' hU2l hv)
   rw [hU2] at HT1
   rw [HX.out] at HT2
   have h3 : U2 * v % pB = v ^ (2 * eB k + 1) % pB := by rw [← hU2, h2]; exact pow_one_mod v _
   obtain ⟨U3, hU3⟩ : ∃ U3, U2 * v % pB = U3 := ⟨_, rfl⟩
   rw [hU3] at HT2 h3
   rw [hU2] at h2
   have H2' := Lib.hid h2
   have H3' := Lib.hid h3
   have lU := digB_length U
   have lU2 := digB_length U2
   have lU3 := digB_length U3
   obtain ⟨D, hD⟩ : ∃ D, digB U = D := ⟨_, rfl⟩
   obtain ⟨D2, hD2⟩ : ∃ D, digB U2 = D := ⟨_, rfl⟩
   obtain ⟨D3, hD3⟩ : ∃ D, digB U3 = D := ⟨_, rfl⟩
   rw [hD] at rO lU
   rw [hD2] at lU2
   rw [hD3] at lU3
   simp only [hD, hD2] at HT1
   simp only [hD2, hD3] at HT2
   have HD2 := Lib.hid hD2
   have HD3 := Lib.hid hD3
   clear hb hU h2 hU2 h3 hU3 H2 hD hD2 hD3
   go_wp2_with fail
   (with_reducible refine (HT1.out _).mono ?_)
   rintro e w2 ⟨rfl, b2⟩
   have z2 := b2.size
   have rO2 := (row_below b2 (by omega)).trans rO
   have hr3 := row_setRow_same (w := w2) (g := w.heap.size + 1 + 1) (c := (n64s D2).toArray) (by rw [rO2]; simp [lU]) (by rw [rO2]; simp [lU, lU2])
   have b3 : Below (w.heap.size + 2) w0 (w2.setRow (w.heap.size + 1 + 1) (n64s D2).toArray) := Below.setRow (hbel.trans (b2.mono (by omega))) (Nat.le_refl _) _
   have rx3 : row (w2.setRow (w.heap.size + 1 + 1) (n64s D2).toArray) w.heap.size = (n64s x).toArray := by rw [row_setRow_other _ _ _ (by omega), row_below b2 (by omega)]; exact rx
   have z3 : w.heap.size + 3 ≤ (w2.setRow (w.heap.size + 1 + 1) (n64s D2).toArray).heap.size := by simp; omega
   obtain ⟨w3, hw3⟩ : ∃ W, w2.setRow (w.heap.size + 1 + 1) (n64s D2).toArray = W := ⟨_, rfl⟩
   rw [hw3] at hr3 b3 rx3 z3
   by_cases hs : k = 252 ∨ k = 250
   ·
    have he : eB (k + 1) = 2 * eB k := by rw [eB, if_pos hs]
    have HE := Lib.hid he
    have hb24 : (b : Int) = 2 ∨ (b : Int) = 4 := by have := HB.out; omega
    have hfin : row w3 (w.heap.size + 1 + 1) = (n64s (digB (v ^ eB (k + 1) % pB))).toArray := by rw [HE.out, ← H2'.out, HD2.out]; exact hr3
    have b3' : Below (w.heap.size + 2) w0 w3 := b3
    clear he
    rcases hb24 with hb2 | hb4
    ·
     rw [hb2]
     rw [hb2] at HB
     go_wp2_with fail
     go_roundw
     case rel => exact ⟨k + 1, by omega, by have := HB.out; congr 1; omega, hfin, b3'⟩
     case measure => simp [intOf]; omega
    ·
     rw [hb4]
     rw [hb4] at HB
     go_wp2_with fail
     go_roundw
     case rel => exact ⟨k + 1, by omega, by have := HB.out; congr 1; omega, hfin, b3'⟩
     case measure => simp [intOf]; omega
   ·
    have he : eB (k + 1) = 2 * eB k + 1 := by rw [eB, if_neg hs]
    have HE := Lib.hid he
    have hb2 : ((b : Int) != 2) = true := by have := HB.out; simp; omega
    have hb4 : ((b : Int) != 4) = true := by have := HB.out; simp; omega
    have hb2n : ¬ (b : Int) = 2 := by have := HB.out; omega
    have hb4n : ¬ (b : Int) = 4 := by have := HB.out; omega
    clear he
    go_wp2_with fail
    (with_reducible refine (HT2.out _).mono ?_)
    rintro e w4 ⟨rfl, b4⟩
    have z4 := b4.size
    have rO4 := (row_below b4 (by omega)).trans hr3
    have hr5 := row_setRow_same (w := w4) (g := w.heap.size + 1 + 1) (c := (n64s D3).toArray) (by rw [rO4]; simp [lU2]) (by rw [rO4]; simp [lU2, lU3])
    have b5 : Below (w.heap.size + 2) w0 (w4.setRow (w.heap.size + 1 + 1) (n64s D3).toArray) := Below.setRow (b3.trans (b4.mono (by omega))) (Nat.le_refl _) _
    go_wp2_with fail
    go_roundw
    case rel => exact ⟨k + 1, by omega, by have := HB.out; congr 1; omega, by rw [HE.out, ← H3'.out, HD3.out]; exact hr5, b5⟩
    case measure => simp [intOf]
  ·
   obtain rfl : k = 255 := by omega
   have hneg : ((254 : Int) - ((255 : Nat) : Int)) = -1 := by omega
   rw [hneg]
   have lU := digB_length (v ^ eB 255 % pB)
   obtain ⟨r, hr⟩ : ∃ r, digB (v ^ eB 255 % pB) = r := ⟨_, rfl⟩
   rw [hr] at rO lU
   have HR := Lib.hid hr
   have hfin := row_setRow_same (w := wr) (g := w.heap.size + 1) (c := (n64s r).toArray) (by rw [rR]; simp) (by rw [rR]; simp [lU])
   have hb8 : Below w.heap.size w wr := b0.trans (hbel.mono (by omega))
   clear hr hneg
   go_wp2_with fail
   (try simp only [Exit.inBlock, Exit.then])
   refine bodyPost_ret (results_1 rfl (resOk_row rfl ?_)) rfl ?_
   ·
    rw [hfin]
    simp [lU]
   refine ⟨by rw [hfin, HR.out], ?_⟩
   exact Below.setRow hb8 (by omega) _
end
end Go.Proofs.YtakkicppgkmokaaGreat
