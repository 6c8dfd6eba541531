/- Texts of this proof, merged: RfV, RfR. -/
import Derived.Test.YtakkicppgkmokaaGreatJ6
import Derived.Test.YtakkicppgkmokaaGreatJ1
import Derived.Lib.Hide
set_option linter.unusedSimpArgs false
set_option linter.unusedVariables false
namespace Go.Proofs.YtakkicppgkmokaaGreat
section
open Go.RowKit
theorem digit_step (l : List Nat) (j c e q : Nat) (h : j < l.length) (hq : c + l[j] + e = q) :
  valB (l.set j (q % 256)) + 256 ^ (j + 1) * (q / 256) = valB l + 256 ^ j * c + 256 ^ j * e := by
 have hs := valB_set l j (q % 256) h
 have e2 : 256 ^ j * (q % 256) + 256 ^ (j + 1) * (q / 256) = 256 ^ j * q := by
  rw [Nat.pow_succ, Nat.mul_assoc, ← Nat.mul_add, Nat.mod_add_div]
 have e4 : 256 ^ j * q = 256 ^ j * c + 256 ^ j * l[j] + 256 ^ j * e := by
  rw [← hq, Nat.mul_add, Nat.mul_add]
 omega
def fold130 (x : Nat) : Nat := x % 1361129467683753853853498429727072845824 + 5 * (x / 1361129467683753853853498429727072845824)
def hD (t : List Nat) (j : Nat) : Nat := t.getD j 0 / 4 + t.getD (j + 1) 0 % 4 * 64
def hV (t : List Nat) : Nat → Nat
 | 0 => 0
 | n + 1 => hV t n + 256 ^ n * hD t n
theorem hV_val (t : List Nat) (n : Nat) : valB (t.take n) + 256 ^ n * (t.getD n 0 % 4) = 4 * hV t n + t.getD 0 0 % 4 := by
 induction n with
 | zero => simp [valB, hV]
 | succ n ih =>
  rw [valB_take_succ, hV, hD, Nat.pow_succ]
  generalize 256 ^ n = p at *
  generalize t.getD n 0 = a at *
  generalize t.getD (n + 1) 0 = b at *
  have h1 : p * a = p * (4 * (a / 4)) + p * (a % 4) := by rw [← Nat.mul_add, Nat.div_add_mod]
  have h2 : p * 256 * (b % 4) = 4 * (p * (b % 4 * 64)) := by
   rw [Nat.mul_assoc, Nat.mul_left_comm 4 p]
   congr 1
   omega
  have h3 : p * (4 * (a / 4)) = 4 * (p * (a / 4)) := Nat.mul_left_comm ..
  rw [Nat.mul_add p, Nat.mul_add 4, Nat.mul_add 4]
  omega
theorem hV_all (t : List Nat) : valB t = 4 * hV t t.length + t.getD 0 0 % 4 := by
 have := hV_val t t.length
 rw [List.take_of_length_le (Nat.le_refl _), getD_past _ _ (Nat.le_refl _)] at this
 simpa using this
theorem fold_round (x : List Nat) (hx : Dig x) (hl : 16 ≤ x.length) :
  valB (x.take 16 ++ [(x.drop 16).getD 0 0 % 4]) + 5 * hV (x.drop 16) (x.drop 16).length = fold130 (valB x) := by
 have h1 := valB_parts x 16 hl
 have h2 := hV_all (x.drop 16)
 have h3 := valB_lt (x.take 16) (hx.take 16)
 rw [valB_snoc, List.length_take, Nat.min_eq_left hl] at *
 generalize hV (x.drop 16) (x.drop 16).length = H at *
 generalize valB (x.take 16) = A at *
 generalize valB (x.drop 16) = T at *
 generalize (x.drop 16).getD 0 0 = t at *
 rw [h1, h2, fold130]
 omega
theorem hV_stop (t : List Nat) (n : Nat) (h : t.length ≤ n) : hV t n = hV t t.length := by
 induction n with
 | zero => rw [Nat.le_zero.1 h]
 | succ n ih =>
  rcases Nat.lt_or_ge n t.length with h1 | h1
  ·
   rw [show n + 1 = t.length by omega]
  ·
   rw [hV, ih h1, hD, getD_past _ _ h1, getD_past _ _ (by omega)]
   simp
theorem fold_three (x : Nat) (h : x < 256 ^ 40) :
  fold130 (fold130 (fold130 x)) < 1361129467683753853853498429727072845824 ∧ fold130 (fold130 (fold130 x)) % 1361129467683753853853498429727072845819 = x % 1361129467683753853853498429727072845819 := by
 unfold fold130
 constructor <;> omega
theorem val_top (y : List Nat) (hy : Dig y) (hl : 17 ≤ y.length) (hv : valB y < 256 ^ 17) : valB (y.take 17) = valB y ∧ y.getD 16 0 = valB y / 256 ^ 16 ∧ valB (y.take 16) = valB y % 256 ^ 16 := by
 have h1 := valB_parts y 17 hl
 have h2 := valB_lt (y.take 16) (hy.take 16)
 have h3 := valB_take_succ y 16
 rw [List.length_take, Nat.min_eq_left (by omega)] at h2
 have h4 := hy.getD 16
 generalize valB (y.drop 17) = T at *
 generalize valB (y.take 16) = A at *
 have hT : T = 0 := by
  rcases Nat.eq_zero_or_pos T with h | h
  ·
   exact h
  ·
   have := Nat.le_mul_of_pos_right (256 ^ 17) h
   omega
 subst hT
 rw [Nat.mul_zero, Nat.add_zero] at h1
 rw [← h1] at h3
 refine ⟨h1.symm, ?_, ?_⟩ <;> omega
theorem rest_hi (X O O4 R V : Nat) (h : X < 1361129467683753853853498429727072845824) (hO : O = (X + 5) / 256 ^ 16) (hr : X % 1361129467683753853853498429727072845819 = R) (h4 : 4 ≤ O) (h5 : O - 4 = O4) (hv : V + 256 ^ 16 * O = X + 5 + 256 ^ 16 * O4) :
  V = R ∧ V < 256 ^ 17 := by
 have h6 : O = O4 + 4 := by omega
 have h7 : 256 ^ 16 * O = 256 ^ 16 * O4 + 1361129467683753853853498429727072845824 := by rw [h6, Nat.mul_add]
 have h8 : V + 1361129467683753853853498429727072845824 = X + 5 := by omega
 clear hv h6 h7 h5 hO h4
 constructor <;> omega
theorem rest_lo (X O R : Nat) (h : X < 1361129467683753853853498429727072845824) (hO : O = (X + 5) / 256 ^ 16) (hr : X % 1361129467683753853853498429727072845819 = R) (h4 : ¬ 4 ≤ O) : X = R := by
 have h6 : (X + 5) / 256 ^ 16 < 4 := by omega
 have h7 := Nat.lt_mul_of_div_lt h6 (by decide)
 clear hO h4 h6
 omega
end
section
open Go.RowKit
set_option maxRecDepth 20000 in
set_option maxHeartbeats 4000000 in
theorem restR_any (l : List Nat) (g0 c0 : Nat) (s0 : List Value) (w : World) (hr : row w g0 = (n64s l ++ s0).toArray) (z0 : g0 < w.heap.size) (l0 : 0 < l.length) (l1 : l.length ≤ 40) (dl : Dig l) :
  Calls Tryz.prog 130 #[.slice (some ⟨g0, 0, none⟩) l.length c0] w fun e w' => ∃ v r, e = .returned v ∧ Own w' w.heap.size 3 v (n64s r) ∧ r.length = 17 ∧ Dig r ∧ valB r = valB l % 1361129467683753853853498429727072845819 ∧ Below w.heap.size w w' := by
 go_enter Tryz.func130, Tryz.ntmps130
 go_wp2_with (at_builtin; refine wpList_appendAll rfl rfl inferInstance w.heap.size _ [] rfl (Own.empty (Nat.le_refl _)) g0 l.length c0 (n64s l) s0 rfl (by simp) (by rw [row_alloc_past _ _ z0]; exact hr) (one_n64s l) (by simp; omega) (by simp) ?_)
 intro v1 w1 o1 b1
 have b1' : Below w.heap.size w w1 := Below.trans (Below.alloc (Below.refl _ _) (Nat.le_refl _) _) b1
 clear b1
 go_wp2_with fail
 go_loopw [3] (fun v wr => ∃ l' : List Nat, Own wr w.heap.size 3 v (n64s l') ∧ l.length ≤ l'.length ∧ l'.length ≤ 40 ∧ Dig l' ∧ valB l' = valB l ∧ Below w.heap.size w wr) (fun v _ => 18 - sliceLen v)
 case atStart => exact ⟨l, o1, Nat.le_refl _, l1, dl, rfl, b1'⟩
 case round =>
  clear o1 b1'
  obtain ⟨l', hown, hl0, hl1, hd, hval, hbel⟩ := hrel
  obtain ⟨g, c, s, rfl, hc, hg, hgz, hrow⟩ := hown.ints (by omega)
  by_cases hlt : l'.length < 18
  ·
   have j1 : (l'.length : Int) < 18 := by omega
   go_wp2_with (at_builtin; refine wpList_append1 rfl rfl inferInstance w.heap.size _ (n64s l') rfl hown _ rfl rfl (by simp; omega) (by omega) ?_)
   intro v2 w2 o2 b2
   go_wp2_with fail
   go_roundw
   case rel => exact ⟨l' ++ [0], by rw [n64s_append]; exact o2, by simp; omega, by simp; omega, hd.snoc (by decide), by rw [valB_snoc, Nat.mul_zero]; exact hval, hbel.trans b2⟩
   case measure => have := o2.len; simp [sliceLen] at this ⊢; omega
  ·
   have j1 : ¬ (l'.length : Int) < 18 := by omega
   go_wp2_with fail
   go_loopw [3, 4] (fun v i wq => ∃ (n : Nat) (x : List Nat), n ≤ 3 ∧ i = .int .i64 n ∧ Own wq w.heap.size 3 v (n64s x) ∧ 18 ≤ x.length ∧ x.length ≤ 45 ∧ Dig x ∧ valB x = upTo (fun _ => fold130) n (valB l) ∧ Below w.heap.size w wq) (fun _ i _ => 3 - (intOf i).toNat)
   case atStart => exact ⟨0, l', by omega, rfl, hown, by omega, by omega, hd, by rw [upTo]; exact hval, hbel⟩
   case round =>
    clear hrow hgz hown hval hbel hd
    obtain ⟨n, x, hn3, rfl, hown, hx0, hx1, hd, hval, hbel⟩ := hrel
    obtain ⟨gx, cx, sx, rfl, hcx, hgx, zgx, rowx⟩ := hown.ints (by omega)
    have xI : (18 : Int) ≤ x.length := by omega
    have xI2 : (x.length : Int) ≤ 45 := by omega
    have xI3 : (x.length : Int) ≤ cx := by omega
    have hsz := hbel.size
    by_cases hlt3 : n < 3
    ·
     have jn : (n : Int) < 3 := by omega
     have HVL := Lib.hid hval
     clear hval
     go_wp2_with fail
     obtain ⟨H1, hH1⟩ : ∃ H, wr.heap.size = H := ⟨_, rfl⟩
     obtain ⟨wA, hwA⟩ : ∃ v, wr.alloc (.cells #[] 3) = v := ⟨_, rfl⟩
     have oA : Own wA H1 3 (.slice (some ⟨H1, 0, none⟩) 0 0) [] := by rw [← hwA, ← hH1]; exact Own.empty (Nat.le_refl _)
     have rA : row wA gx = (n64s x ++ sx).toArray := by rw [← hwA, row_alloc_past _ _ zgx]; exact rowx
     have zA : wA.heap.size = H1 + 1 := by rw [← hwA, ← hH1]; simp
     have bA : Below w.heap.size w wA := by rw [← hwA]; exact Below.alloc hbel hsz _
     rw [hH1] at hsz zgx
     rw [hH1, hwA]
     clear hH1 hwA rowx hbel hown
     go_loopw [5, 6] (fun v j wq => ∃ m, 16 ≤ m ∧ m ≤ x.length ∧ j = .int .i64 m ∧ Own wq H1 3 v (n64s ((x.drop 16).take (m - 16))) ∧ Below H1 wA wq) (fun _ j _ => x.length - (intOf j).toNat)
     case atStart => exact ⟨16, by omega, by omega, rfl, oA, by skip; exact Below.refl _ _⟩
     case round =>
      clear oA
      obtain ⟨m, hm0, hm1, rfl, hown, hbel⟩ := hrel
      have hszB := hbel.size
      have rx := (row_below hbel zgx).trans rA
      by_cases hltm : m < x.length
      ·
       have jm : (m : Int) < x.length := by omega
       obtain ⟨e, he⟩ : ∃ e, x[m] = e := ⟨_, rfl⟩
       have ux : m < x.length + sx.length := by omega
       have tx : (n64s x ++ sx)[m]'(by simp; omega) = .int .i64 (e : Int) := by rw [List.getElem_append_left (by simpa using hltm), n64s_get, he]
       have ht : (x.drop 16).take (m + 1 - 16) = (x.drop 16).take (m - 16) ++ [e] := by
        rw [show m + 1 - 16 = (m - 16) + 1 by omega, List.take_succ_eq_append_getElem (by simp; omega)]
        congr 2
        rw [List.getElem_drop, ← he]
        congr 1
        omega
       have HT := Lib.hid ht
       clear ht
       go_wp2_with (at_builtin; refine wpList_append1 rfl rfl inferInstance H1 _ _ rfl hown _ rfl rfl (by simp; omega) (by omega) ?_)
       intro v2 w2 o2 b2
       go_wp2_with fail
       go_roundw
       case rel => exact ⟨m + 1, by omega, by omega, rfl, by rw [HT.out, n64s_append]; exact o2, hbel.trans b2⟩
       case measure => simp [intOf]; omega
      ·
       obtain rfl : m = x.length := by omega
       have jm : ¬ (x.length : Int) < x.length := by omega
       have htl : ((x.drop 16).take (x.length - 16)) = x.drop 16 := List.take_of_length_le (by simp)
       rw [htl] at hown
       have hr0 := fold_round x hd (by omega)
       obtain ⟨t, ht⟩ : ∃ t, x.drop 16 = t := ⟨_, rfl⟩
       have htN0 : t.length = x.length - 16 := by rw [← ht]; simp
       have htN := Lib.hid htN0
       have hN2 : 2 ≤ t.length := by omega
       have hN3 : t.length ≤ 29 := by omega
       have hNI : (t.length : Int) ≤ 40 := by omega
       clear htN0
       have hdt : Dig t := by rw [← ht]; exact hd.drop 16
       rw [ht] at hown hr0
       obtain ⟨gh, ch, sh, rfl, hch, hgh, zgh, rowh⟩ := hown.ints (by omega)
       have hdrop : (n64s x ++ sx).toArray = (n64s (x.take 16) ++ (n64s t ++ sx)).toArray := by
        rw [← ht, ← List.append_assoc, ← n64s_append, List.take_append_drop]
       have x16 : (x.take 16).length = 16 := by rw [List.length_take]; omega
       have dx16 : Dig (x.take 16) := hd.take 16
       obtain ⟨e0, he0⟩ : ∃ e, t.getD 0 0 = e := ⟨_, rfl⟩
       rw [he0] at hr0
       have te0 : (n64s t ++ sh)[0]'(by simp; omega) = .int .i64 (e0 : Int) := by rw [List.getElem_append_left (by simp; omega), n64s_get, ← getD_at _ _ (by omega), he0]
       have ve0 : e0 < 256 := by rw [← he0]; exact hdt.getD 0
       have uh : 0 < t.length + sh.length := by omega
       obtain ⟨d0, hd0⟩ : ∃ d, e0 % 4 = d := ⟨_, rfl⟩
       have md0 : (e0 : Int) % 4 = (d0 : Int) := by omega
       have mt0 : (e0 : Int).tmod 4 = (d0 : Int) := by rw [Int.tmod_eq_emod_of_nonneg (by omega)]; exact md0
       have vd0 : d0 < 256 := by omega
       rw [hd0] at hr0
       have HR := Lib.hid hr0
       have c16 : (16 : Int) ≤ cx := by omega
       have c16' : 16 ≤ cx := by omega
       have htI : (0 : Int) < t.length := by omega
       clear ht hd0 he0 hr0 htl
       go_wp2_with (at_builtin; refine wpList_appendAll rfl rfl inferInstance wr.heap.size _ [] rfl (Own.empty (Nat.le_refl _)) gx 16 cx (n64s (x.take 16)) (n64s t ++ sx) rfl (by simpa using x16) (by rw [row_alloc_past _ _ (by omega), rx]; exact hdrop) (one_n64s _) (by simp; omega) (by simp) ?_)
       intro v3 w3 o3 b3
       obtain ⟨H2, hH2⟩ : ∃ H, wr.heap.size = H := ⟨_, rfl⟩
       have b3' : Below H2 wr w3 := by rw [← hH2]; exact Below.trans (Below.alloc (Below.refl _ _) (Nat.le_refl _) _) (by exact b3)
       rw [hH2] at o3 zgh
       have o3 : Own w3 H2 3 v3 (n64s (x.take 16)) := o3
       have z3 : H2 ≤ w3.heap.size := by have := b3'.size; omega
       have rh3 : row w3 gh = (n64s t ++ sh).toArray := (row_below b3' zgh).trans rowh
       have zgh3 : gh < w3.heap.size := by omega
       have bw3 : Below w.heap.size w w3 := Below.trans bA (Below.trans (hbel.mono (by omega)) (b3'.mono (by omega)))
       have h2sz : w.heap.size ≤ H2 := by omega
       clear b3 b3' hH2 rx rA bA hbel hown rowh
       go_wp2_with (at_builtin; refine wpList_append1 rfl rfl inferInstance H2 _ _ rfl o3 _ rfl rfl (by simp; omega) (by omega) ?_)
       intro v4 w4 o4 b4
       have rh4 : row w4 gh = (n64s t ++ sh).toArray := (row_below b4 zgh).trans rh3
       have zgh4 : gh < w4.heap.size := by have := b4.size; omega
       have z4 : H2 ≤ w4.heap.size := by have := b4.size; omega
       have bw4 : Below w.heap.size w w4 := bw3.trans (b4.mono h2sz)
       have o4 : Own w4 H2 3 v4 (n64s (x.take 16 ++ [d0])) := by rw [n64s_append]; exact o4
       clear o3 rh3 zgh3 bw3 b4
       obtain ⟨V0, hV0⟩ : ∃ V, valB (x.take 16 ++ [d0]) = V := ⟨_, rfl⟩
       obtain ⟨M, hM1, hM2, hM3⟩ : ∃ M, t.length ≤ M ∧ 17 ≤ M ∧ M ≤ 40 := by
        rcases Nat.le_total t.length 17 with h | h
        ·
         exact ⟨17, h, Nat.le_refl _, by omega⟩
        ·
         exact ⟨t.length, Nat.le_refl _, h, by omega⟩
       go_wp2_with fail
       go_loopw [3, 7, 8] (fun v c i wq => ∃ (j k : Nat) (y : List Nat), i = .int .i64 j ∧ c = .int .i64 k ∧ k ≤ 5 ∧ (j ≤ M ∨ j = M + 1 ∧ k = 0) ∧ (y.length = 17 ∧ j ≤ 17 ∨ y.length = j ∧ 17 ≤ j) ∧ Dig y ∧ valB y + 256 ^ j * k = V0 + 5 * hV t j ∧ Own wq H2 3 v (n64s y) ∧ Below H2 w4 wq) (fun _ _ i _ => M + 2 - (intOf i).toNat)
       case atStart => exact ⟨0, 0, x.take 16 ++ [d0], rfl, rfl, by omega, .inl (by omega), .inl ⟨by simp; omega, by omega⟩, dx16.snoc vd0, by rw [hV0, hV], o4, Below.refl _ _⟩
       case round =>
        clear o4
        obtain ⟨j, k, y, rfl, rfl, hk, hM, hL, hdy, hvy, hown, hbel⟩ := hrel
        have hszC := hbel.size
        have rht := (row_below hbel (by omega)).trans rh4
        have zgt : gh < wr.heap.size := by omega
        have HV := Lib.hid hvy
        have HM := Lib.hid hM
        have HL := Lib.hid hL
        have jb : (j : Int) ≤ 50 := by omega
        clear hvy hM hL
        obtain ⟨j1, hj1⟩ : ∃ v, j + 1 = v := ⟨_, rfl⟩
        have fj1 : IntKind.i64.wrap ((j : Int) + 1) = (j1 : Int) := wrapN _ _ (by omega) (by omega)
        have HJ1 := Lib.hid hj1
        by_cases hjN : j < t.length
        ·
         have jN : (j : Int) < t.length := by omega
         obtain ⟨e, he⟩ : ∃ e, t[j] = e := ⟨_, rfl⟩
         have ve : e < 256 := by rw [← he]; exact hdt.get j (by omega)
         have ue : j < t.length + sh.length := by omega
         have te : (n64s t ++ sh)[j]'(by simp; omega) = .int .i64 (e : Int) := by rw [List.getElem_append_left (by simp; omega), n64s_get, he]
         have hge : t.getD j 0 = e := by rw [getD_at _ _ (by omega), he]
         obtain ⟨e4, he4⟩ : ∃ v, e / 4 = v := ⟨_, rfl⟩
         have dv4 : (e : Int) / 4 = (e4 : Int) := by omega
         have dt4 : (e : Int).tdiv 4 = (e4 : Int) := by rw [Int.tdiv_eq_ediv_of_nonneg (by omega)]; exact dv4
         by_cases hjN2 : j1 < t.length
         ·
          have jN2 : (j1 : Int) < t.length := by omega
          obtain ⟨f, hf⟩ : ∃ e, t[j1] = e := ⟨_, rfl⟩
          have vf : f < 256 := by rw [← hf]; exact hdt.get j1 (by omega)
          have uf : j1 < t.length + sh.length := by omega
          have tf : (n64s t ++ sh)[j1]'(by simp; omega) = .int .i64 (f : Int) := by rw [List.getElem_append_left (by simp; omega), n64s_get, hf]
          have hgf : t.getD (j + 1) 0 = f := by rw [hj1, getD_at _ _ (by omega), hf]
          obtain ⟨f4, hf4⟩ : ∃ v, f % 4 = v := ⟨_, rfl⟩
          have mf4 : (f : Int) % 4 = (f4 : Int) := by omega
          have mt4 : (f : Int).tmod 4 = (f4 : Int) := by rw [Int.tmod_eq_emod_of_nonneg (by omega)]; exact mf4
          obtain ⟨f6, hf6⟩ : ∃ v, f4 * 64 = v := ⟨_, rfl⟩
          have ff6 : IntKind.i64.wrap ((f4 : Int) * 64) = (f6 : Int) := wrapN _ _ (by omega) (by omega)
          obtain ⟨h, hh⟩ : ∃ v, e4 + f6 = v := ⟨_, rfl⟩
          have fhh : IntKind.i64.wrap ((e4 : Int) + (f6 : Int)) = (h : Int) := wrapN _ _ (by omega) (by omega)
          have hHD : hD t j = h := by rw [hD, hge, hgf, he4, hf4, hf6, hh]
          have vh : h < 256 := by omega
          have hh0 : j < t.length ∨ h = 0 := .inl hjN
          clear hge hgf he4 hf4 hf6 hh hj1
          have hV2 : hD t j = h := hHD
          have HH := Lib.hid hV2
          clear hHD hV2
          go_wp2_with fail
          go_loopw [3] (fun v wq => ∃ y', (y' = y ∨ y' = y ++ [0] ∧ y.length ≤ j) ∧ Own wq H2 3 v (n64s y') ∧ Below H2 w4 wq) (fun v _ => j + 1 - sliceLen v)
          case atStart => exact ⟨y, .inl rfl, hown, hbel⟩
          case round =>
           clear hown hbel
           obtain ⟨y', hy', hown, hbel⟩ := hrel
           have hszD := hbel.size
           have HY := Lib.hid hy'
           have hyl : y'.length = y.length ∨ y'.length = y.length + 1 ∧ y.length ≤ j := by
            rcases hy' with rfl | ⟨rfl, h1⟩
            ·
             exact .inl rfl
            ·
             exact .inr ⟨by simp, h1⟩
           have hyd : Dig y' := by
            rcases hy' with rfl | ⟨rfl, h1⟩
            ·
             exact hdy
            ·
             exact hdy.snoc (by decide)
           have hyv : valB y' = valB y := by
            rcases hy' with rfl | ⟨rfl, h1⟩
            ·
             rfl
            ·
             rw [valB_snoc, Nat.mul_zero]; rfl
           have hy0 : j < 17 ∨ y'.getD j 0 = 0 := by
            rcases hy' with rfl | ⟨rfl, h1⟩
            ·
             rcases HL.out with h2 | h2
             ·
              rcases Nat.lt_or_ge j 17 with h3 | h3
              ·
               exact .inl h3
              ·
               exact .inr (getD_past _ _ (by omega))
             ·
              exact .inr (getD_past _ _ (by omega))
            ·
             rcases HL.out with h2 | h2
             ·
              rcases Nat.lt_or_ge j 17 with h3 | h3
              ·
               exact .inl h3
              ·
               right
               rw [show j = y.length by omega, List.getD_eq_getElem?_getD]
               simp
             ·
              right
              rw [show j = y.length by omega, List.getD_eq_getElem?_getD]
              simp
           clear hy'
           have hyp : 0 < y'.length := by have := HL.out; omega
           obtain ⟨gy, cy, sy, rfl, hcy, hgy, zgy, rowy⟩ := hown.ints hyp
           have yI : (y'.length : Int) ≤ 100 := by have := HL.out; omega
           have HYV := Lib.hid hyv
           have HY0 := Lib.hid hy0
           have HYL := Lib.hid hyl
           clear hyv hy0 hyl
           by_cases hlj : j < y'.length
           ·
            have jj : (j : Int) < y'.length := by omega
            have jj2 : ¬ (y'.length : Int) ≤ (j : Int) := by omega
            obtain ⟨O, hO⟩ : ∃ O, y'[j] = O := ⟨_, rfl⟩
            have vO : O < 256 := by rw [← hO]; exact hyd.get j hlj
            have hO2 : j < 17 ∨ O = 0 := by rcases HY0.out with h1 | h1; exact .inl h1; right; rw [← hO, ← getD_at _ _ hlj]; exact h1
            have uy : j < y'.length + sy.length := by omega
            have ty : (n64s y' ++ sy)[j]'(by simp; omega) = .int .i64 (O : Int) := by rw [List.getElem_append_left (by simpa using hlj), n64s_get, hO]
            obtain ⟨q0, hq0⟩ : ∃ q, k + O = q := ⟨_, rfl⟩
            obtain ⟨h5, hh5⟩ : ∃ v, 5 * h = v := ⟨_, rfl⟩
            obtain ⟨q, hq⟩ : ∃ v, q0 + h5 = v := ⟨_, rfl⟩
            have fq1 : IntKind.i64.wrap ((k : Int) + (O : Int)) = (q0 : Int) := wrapN _ _ (by omega) (by omega)
            have fq2 : IntKind.i64.wrap (5 * (h : Int)) = (h5 : Int) := wrapN _ _ (by omega) (by omega)
            have fq3 : IntKind.i64.wrap ((q0 : Int) + (h5 : Int)) = (q : Int) := wrapN _ _ (by omega) (by omega)
            skip
            obtain ⟨d, hd2⟩ : ∃ v, q % 256 = v := ⟨_, rfl⟩
            obtain ⟨k2, hk2⟩ : ∃ v, q / 256 = v := ⟨_, rfl⟩
            obtain ⟨m1, m2⟩ := modt _ _ hd2
            obtain ⟨m3, m4⟩ := divt _ _ hk2
            have hk3 : k2 ≤ 5 := by omega
            have hd3 : d < 256 := by omega
            have hM2 : j + 1 ≤ M ∨ j + 1 = M + 1 ∧ k2 = 0 := by have := HM.out; omega
            have hL2 : (y'.set j d).length = 17 ∧ j + 1 ≤ 17 ∨ (y'.set j d).length = j + 1 ∧ 17 ≤ j + 1 := by
             have := HL.out
             have := HYL.out
             rw [List.length_set]
             omega
            have hs : valB (y'.set j d) + 256 ^ (j + 1) * k2 = V0 + 5 * hV t (j + 1) := by
             rw [← hd2, ← hk2, digit_step y' j k h5 q hlj (by rw [hO, hq0, hq]), HYV.out, HV.out, hV, HH.out, ← hh5, Nat.mul_add, Nat.mul_left_comm (256 ^ j) 5 h, Nat.add_assoc]
            have HS := Lib.hid hs
            have HM2 := Lib.hid hM2
            have HL2 := Lib.hid hL2
            have o3 := hown.setInts rowy j hlj d
            have b3 : Below H2 w4 (wr.setRow gy (n64s (y'.set j d) ++ sy).toArray) := Below.setRow hbel hgy _
            have hset : (n64s y' ++ sy).set j (.int .i64 (d : Int)) = n64s (y'.set j d) ++ sy := by rw [set_left _ _ _ _ (by simpa using hlj), n64s_set]
            have hpos : 0 < y'.length + sy.length := by omega
            have hrw : row (wr.setRow gy (n64s (y'.set j d) ++ sy).toArray) gy = (n64s (y'.set j d) ++ sy).toArray := row_setRow_same (by rw [rowy]; simp; omega) (by rw [rowy]; simp)
            clear hs hM2 hL2 hq0 hh5 hq hd2 hk2 hO2 hown hbel
            go_wp2_with fail
            go_roundw
            case rel => exact ⟨j + 1, k2, y'.set j d, by rw [HJ1.out], rfl, hk3, HM2.out, HL2.out, hyd.set _ hd3, HS.out, o3, b3⟩
            case measure => have := HM.out; have := HJ1.out; simp [intOf]; omega
           ·
            have jj : ¬ (j : Int) < y'.length := by omega
            have jj2 : (y'.length : Int) ≤ (j : Int) := by omega
            go_wp2_with (at_builtin; refine wpList_append1 rfl rfl inferInstance H2 _ _ rfl hown _ rfl rfl (by have := HL.out; have := HYL.out; simp; omega) (by omega) ?_)
            intro v2 w5 o5 b5
            go_wp2_with fail
            go_roundw
            case rel =>
             rcases HY.out with rfl | ⟨rfl, h1⟩
             ·
              exact ⟨y' ++ [0], .inr ⟨rfl, by omega⟩, by rw [n64s_append]; exact o5, hbel.trans b5⟩
             ·
              exfalso
              have := HL.out
              simp at hlj
              omega
            case measure => have := o5.len; simp [sliceLen] at this ⊢; omega
         ·
          have jN2 : ¬ (j1 : Int) < t.length := by omega
          have hgf : t.getD (j + 1) 0 = 0 := getD_past _ _ (by omega)
          have hHD : hD t j = e4 := by rw [hD, hge, hgf, he4]; omega
          obtain ⟨h, hh⟩ : ∃ v, e4 = v := ⟨_, rfl⟩
          rw [hh] at dv4 dt4 hHD he4
          have hh0 : j < t.length ∨ h = 0 := .inl hjN
          have vh : h < 256 := by omega
          clear hge hgf he4 hh hj1
          have hV2 : hD t j = h := hHD
          have HH := Lib.hid hV2
          clear hHD hV2
          go_wp2_with fail
          go_loopw [3] (fun v wq => ∃ y', (y' = y ∨ y' = y ++ [0] ∧ y.length ≤ j) ∧ Own wq H2 3 v (n64s y') ∧ Below H2 w4 wq) (fun v _ => j + 1 - sliceLen v)
          case atStart => exact ⟨y, .inl rfl, hown, hbel⟩
          case round =>
           clear hown hbel
           obtain ⟨y', hy', hown, hbel⟩ := hrel
           have hszD := hbel.size
           have HY := Lib.hid hy'
           have hyl : y'.length = y.length ∨ y'.length = y.length + 1 ∧ y.length ≤ j := by
            rcases hy' with rfl | ⟨rfl, h1⟩
            ·
             exact .inl rfl
            ·
             exact .inr ⟨by simp, h1⟩
           have hyd : Dig y' := by
            rcases hy' with rfl | ⟨rfl, h1⟩
            ·
             exact hdy
            ·
             exact hdy.snoc (by decide)
           have hyv : valB y' = valB y := by
            rcases hy' with rfl | ⟨rfl, h1⟩
            ·
             rfl
            ·
             rw [valB_snoc, Nat.mul_zero]; rfl
           have hy0 : j < 17 ∨ y'.getD j 0 = 0 := by
            rcases hy' with rfl | ⟨rfl, h1⟩
            ·
             rcases HL.out with h2 | h2
             ·
              rcases Nat.lt_or_ge j 17 with h3 | h3
              ·
               exact .inl h3
              ·
               exact .inr (getD_past _ _ (by omega))
             ·
              exact .inr (getD_past _ _ (by omega))
            ·
             rcases HL.out with h2 | h2
             ·
              rcases Nat.lt_or_ge j 17 with h3 | h3
              ·
               exact .inl h3
              ·
               right
               rw [show j = y.length by omega, List.getD_eq_getElem?_getD]
               simp
             ·
              right
              rw [show j = y.length by omega, List.getD_eq_getElem?_getD]
              simp
           clear hy'
           have hyp : 0 < y'.length := by have := HL.out; omega
           obtain ⟨gy, cy, sy, rfl, hcy, hgy, zgy, rowy⟩ := hown.ints hyp
           have yI : (y'.length : Int) ≤ 100 := by have := HL.out; omega
           have HYV := Lib.hid hyv
           have HY0 := Lib.hid hy0
           have HYL := Lib.hid hyl
           clear hyv hy0 hyl
           by_cases hlj : j < y'.length
           ·
            have jj : (j : Int) < y'.length := by omega
            have jj2 : ¬ (y'.length : Int) ≤ (j : Int) := by omega
            obtain ⟨O, hO⟩ : ∃ O, y'[j] = O := ⟨_, rfl⟩
            have vO : O < 256 := by rw [← hO]; exact hyd.get j hlj
            have hO2 : j < 17 ∨ O = 0 := by rcases HY0.out with h1 | h1; exact .inl h1; right; rw [← hO, ← getD_at _ _ hlj]; exact h1
            have uy : j < y'.length + sy.length := by omega
            have ty : (n64s y' ++ sy)[j]'(by simp; omega) = .int .i64 (O : Int) := by rw [List.getElem_append_left (by simpa using hlj), n64s_get, hO]
            obtain ⟨q0, hq0⟩ : ∃ q, k + O = q := ⟨_, rfl⟩
            obtain ⟨h5, hh5⟩ : ∃ v, 5 * h = v := ⟨_, rfl⟩
            obtain ⟨q, hq⟩ : ∃ v, q0 + h5 = v := ⟨_, rfl⟩
            have fq1 : IntKind.i64.wrap ((k : Int) + (O : Int)) = (q0 : Int) := wrapN _ _ (by omega) (by omega)
            have fq2 : IntKind.i64.wrap (5 * (h : Int)) = (h5 : Int) := wrapN _ _ (by omega) (by omega)
            have fq3 : IntKind.i64.wrap ((q0 : Int) + (h5 : Int)) = (q : Int) := wrapN _ _ (by omega) (by omega)
            skip
            obtain ⟨d, hd2⟩ : ∃ v, q % 256 = v := ⟨_, rfl⟩
            obtain ⟨k2, hk2⟩ : ∃ v, q / 256 = v := ⟨_, rfl⟩
            obtain ⟨m1, m2⟩ := modt _ _ hd2
            obtain ⟨m3, m4⟩ := divt _ _ hk2
            have hk3 : k2 ≤ 5 := by omega
            have hd3 : d < 256 := by omega
            have hM2 : j + 1 ≤ M ∨ j + 1 = M + 1 ∧ k2 = 0 := by have := HM.out; omega
            have hL2 : (y'.set j d).length = 17 ∧ j + 1 ≤ 17 ∨ (y'.set j d).length = j + 1 ∧ 17 ≤ j + 1 := by
             have := HL.out
             have := HYL.out
             rw [List.length_set]
             omega
            have hs : valB (y'.set j d) + 256 ^ (j + 1) * k2 = V0 + 5 * hV t (j + 1) := by
             rw [← hd2, ← hk2, digit_step y' j k h5 q hlj (by rw [hO, hq0, hq]), HYV.out, HV.out, hV, HH.out, ← hh5, Nat.mul_add, Nat.mul_left_comm (256 ^ j) 5 h, Nat.add_assoc]
            have HS := Lib.hid hs
            have HM2 := Lib.hid hM2
            have HL2 := Lib.hid hL2
            have o3 := hown.setInts rowy j hlj d
            have b3 : Below H2 w4 (wr.setRow gy (n64s (y'.set j d) ++ sy).toArray) := Below.setRow hbel hgy _
            have hset : (n64s y' ++ sy).set j (.int .i64 (d : Int)) = n64s (y'.set j d) ++ sy := by rw [set_left _ _ _ _ (by simpa using hlj), n64s_set]
            have hpos : 0 < y'.length + sy.length := by omega
            have hrw : row (wr.setRow gy (n64s (y'.set j d) ++ sy).toArray) gy = (n64s (y'.set j d) ++ sy).toArray := row_setRow_same (by rw [rowy]; simp; omega) (by rw [rowy]; simp)
            clear hs hM2 hL2 hq0 hh5 hq hd2 hk2 hO2 hown hbel
            go_wp2_with fail
            go_roundw
            case rel => exact ⟨j + 1, k2, y'.set j d, by rw [HJ1.out], rfl, hk3, HM2.out, HL2.out, hyd.set _ hd3, HS.out, o3, b3⟩
            case measure => have := HM.out; have := HJ1.out; simp [intOf]; omega
           ·
            have jj : ¬ (j : Int) < y'.length := by omega
            have jj2 : (y'.length : Int) ≤ (j : Int) := by omega
            go_wp2_with (at_builtin; refine wpList_append1 rfl rfl inferInstance H2 _ _ rfl hown _ rfl rfl (by have := HL.out; have := HYL.out; simp; omega) (by omega) ?_)
            intro v2 w5 o5 b5
            go_wp2_with fail
            go_roundw
            case rel =>
             rcases HY.out with rfl | ⟨rfl, h1⟩
             ·
              exact ⟨y' ++ [0], .inr ⟨rfl, by omega⟩, by rw [n64s_append]; exact o5, hbel.trans b5⟩
             ·
              exfalso
              have := HL.out
              simp at hlj
              omega
            case measure => have := o5.len; simp [sliceLen] at this ⊢; omega
        ·
         have jN : ¬ (j : Int) < t.length := by omega
         have jN2 : ¬ (j1 : Int) < t.length := by omega
         by_cases hk0 : 0 < k
         ·
          have kI : (0 : Int) < (k : Int) := by omega
          obtain ⟨h, hz⟩ : ∃ v, (0 : Nat) = v := ⟨_, rfl⟩
          have hHD : hD t j = h := by rw [hD, getD_past _ _ (by omega), getD_past _ _ (by omega), ← hz]
          have hh0 : j < t.length ∨ h = 0 := .inr hz.symm
          have vh : h < 256 := by omega
          have HZ := Lib.hid hz
          clear hz hj1
          have hV2 : hD t j = h := hHD
          have HH := Lib.hid hV2
          clear hHD hV2
          go_wp2_with fail
          go_loopw [3] (fun v wq => ∃ y', (y' = y ∨ y' = y ++ [0] ∧ y.length ≤ j) ∧ Own wq H2 3 v (n64s y') ∧ Below H2 w4 wq) (fun v _ => j + 1 - sliceLen v)
          case atStart => exact ⟨y, .inl rfl, hown, hbel⟩
          case round =>
           clear hown hbel
           obtain ⟨y', hy', hown, hbel⟩ := hrel
           have hszD := hbel.size
           have HY := Lib.hid hy'
           have hyl : y'.length = y.length ∨ y'.length = y.length + 1 ∧ y.length ≤ j := by
            rcases hy' with rfl | ⟨rfl, h1⟩
            ·
             exact .inl rfl
            ·
             exact .inr ⟨by simp, h1⟩
           have hyd : Dig y' := by
            rcases hy' with rfl | ⟨rfl, h1⟩
            ·
             exact hdy
            ·
             exact hdy.snoc (by decide)
           have hyv : valB y' = valB y := by
            rcases hy' with rfl | ⟨rfl, h1⟩
            ·
             rfl
            ·
             rw [valB_snoc, Nat.mul_zero]; rfl
           have hy0 : j < 17 ∨ y'.getD j 0 = 0 := by
            rcases hy' with rfl | ⟨rfl, h1⟩
            ·
             rcases HL.out with h2 | h2
             ·
              rcases Nat.lt_or_ge j 17 with h3 | h3
              ·
               exact .inl h3
              ·
               exact .inr (getD_past _ _ (by omega))
             ·
              exact .inr (getD_past _ _ (by omega))
            ·
             rcases HL.out with h2 | h2
             ·
              rcases Nat.lt_or_ge j 17 with h3 | h3
              ·
               exact .inl h3
              ·
               right
               rw [show j = y.length by omega, List.getD_eq_getElem?_getD]
               simp
             ·
              right
              rw [show j = y.length by omega, List.getD_eq_getElem?_getD]
              simp
           clear hy'
           have hyp : 0 < y'.length := by have := HL.out; omega
           obtain ⟨gy, cy, sy, rfl, hcy, hgy, zgy, rowy⟩ := hown.ints hyp
           have yI : (y'.length : Int) ≤ 100 := by have := HL.out; omega
           have HYV := Lib.hid hyv
           have HY0 := Lib.hid hy0
           have HYL := Lib.hid hyl
           clear hyv hy0 hyl
           by_cases hlj : j < y'.length
           ·
            have jj : (j : Int) < y'.length := by omega
            have jj2 : ¬ (y'.length : Int) ≤ (j : Int) := by omega
            obtain ⟨O, hO⟩ : ∃ O, y'[j] = O := ⟨_, rfl⟩
            have vO : O < 256 := by rw [← hO]; exact hyd.get j hlj
            have hO2 : j < 17 ∨ O = 0 := by rcases HY0.out with h1 | h1; exact .inl h1; right; rw [← hO, ← getD_at _ _ hlj]; exact h1
            have uy : j < y'.length + sy.length := by omega
            have ty : (n64s y' ++ sy)[j]'(by simp; omega) = .int .i64 (O : Int) := by rw [List.getElem_append_left (by simpa using hlj), n64s_get, hO]
            obtain ⟨q0, hq0⟩ : ∃ q, k + O = q := ⟨_, rfl⟩
            obtain ⟨h5, hh5⟩ : ∃ v, 5 * h = v := ⟨_, rfl⟩
            obtain ⟨q, hq⟩ : ∃ v, q0 + h5 = v := ⟨_, rfl⟩
            have fq1 : IntKind.i64.wrap ((k : Int) + (O : Int)) = (q0 : Int) := wrapN _ _ (by omega) (by omega)
            have fq2 : IntKind.i64.wrap (5 * (h : Int)) = (h5 : Int) := wrapN _ _ (by omega) (by omega)
            have fq3 : IntKind.i64.wrap ((q0 : Int) + (h5 : Int)) = (q : Int) := wrapN _ _ (by omega) (by omega)
            have fq4 : IntKind.i64.wrap (q0 : Int) = (q : Int) := wrapN _ _ (by have := HZ.out; omega) (by omega)
            obtain ⟨d, hd2⟩ : ∃ v, q % 256 = v := ⟨_, rfl⟩
            obtain ⟨k2, hk2⟩ : ∃ v, q / 256 = v := ⟨_, rfl⟩
            obtain ⟨m1, m2⟩ := modt _ _ hd2
            obtain ⟨m3, m4⟩ := divt _ _ hk2
            have hk3 : k2 ≤ 5 := by omega
            have hd3 : d < 256 := by omega
            have hM2 : j + 1 ≤ M ∨ j + 1 = M + 1 ∧ k2 = 0 := by have := HM.out; omega
            have hL2 : (y'.set j d).length = 17 ∧ j + 1 ≤ 17 ∨ (y'.set j d).length = j + 1 ∧ 17 ≤ j + 1 := by
             have := HL.out
             have := HYL.out
             rw [List.length_set]
             omega
            have hs : valB (y'.set j d) + 256 ^ (j + 1) * k2 = V0 + 5 * hV t (j + 1) := by
             rw [← hd2, ← hk2, digit_step y' j k h5 q hlj (by rw [hO, hq0, hq]), HYV.out, HV.out, hV, HH.out, ← hh5, Nat.mul_add, Nat.mul_left_comm (256 ^ j) 5 h, Nat.add_assoc]
            have HS := Lib.hid hs
            have HM2 := Lib.hid hM2
            have HL2 := Lib.hid hL2
            have o3 := hown.setInts rowy j hlj d
            have b3 : Below H2 w4 (wr.setRow gy (n64s (y'.set j d) ++ sy).toArray) := Below.setRow hbel hgy _
            have hset : (n64s y' ++ sy).set j (.int .i64 (d : Int)) = n64s (y'.set j d) ++ sy := by rw [set_left _ _ _ _ (by simpa using hlj), n64s_set]
            have hpos : 0 < y'.length + sy.length := by omega
            have hrw : row (wr.setRow gy (n64s (y'.set j d) ++ sy).toArray) gy = (n64s (y'.set j d) ++ sy).toArray := row_setRow_same (by rw [rowy]; simp; omega) (by rw [rowy]; simp)
            clear hs hM2 hL2 hq0 hh5 hq hd2 hk2 hO2 hown hbel
            go_wp2_with fail
            go_roundw
            case rel => exact ⟨j + 1, k2, y'.set j d, by rw [HJ1.out], rfl, hk3, HM2.out, HL2.out, hyd.set _ hd3, HS.out, o3, b3⟩
            case measure => have := HM.out; have := HJ1.out; simp [intOf]; omega
           ·
            have jj : ¬ (j : Int) < y'.length := by omega
            have jj2 : (y'.length : Int) ≤ (j : Int) := by omega
            go_wp2_with (at_builtin; refine wpList_append1 rfl rfl inferInstance H2 _ _ rfl hown _ rfl rfl (by have := HL.out; have := HYL.out; simp; omega) (by omega) ?_)
            intro v2 w5 o5 b5
            go_wp2_with fail
            go_roundw
            case rel =>
             rcases HY.out with rfl | ⟨rfl, h1⟩
             ·
              exact ⟨y' ++ [0], .inr ⟨rfl, by omega⟩, by rw [n64s_append]; exact o5, hbel.trans b5⟩
             ·
              exfalso
              have := HL.out
              simp at hlj
              omega
            case measure => have := o5.len; simp [sliceLen] at this ⊢; omega
         ·
          have kI : ¬ (0 : Int) < (k : Int) := by omega
          obtain rfl : k = 0 := by omega
          have hfin : valB y = fold130 (valB x) := by
           have := HV.out
           rw [Nat.mul_zero, Nat.add_zero, hV_stop t j (by omega)] at this
           rw [this, ← HR.out, hV0]
          have hyl : 17 ≤ y.length ∧ y.length ≤ 41 := by have := HL.out; have := HM.out; omega
          have HF := Lib.hid hfin
          clear hfin
          go_wp2_with fail
          go_loopw [3] (fun v wq => ∃ y' : List Nat, Own wq H2 3 v (n64s y') ∧ y.length ≤ y'.length ∧ y'.length ≤ 45 ∧ Dig y' ∧ valB y' = valB y ∧ Below H2 w4 wq) (fun v _ => 18 - sliceLen v)
          case atStart => exact ⟨y, hown, Nat.le_refl _, by omega, hdy, rfl, hbel⟩
          case round =>
           clear hown hbel
           obtain ⟨y', hown, hl0, hl1, hd, hval, hbel⟩ := hrel
           obtain ⟨gy, cy, sy, rfl, hcy, hgy, hgyz, hrowy⟩ := hown.ints (by omega)
           have hszE := hbel.size
           by_cases hlt : y'.length < 18
           ·
            have j1 : (y'.length : Int) < 18 := by omega
            go_wp2_with (at_builtin; refine wpList_append1 rfl rfl inferInstance H2 _ (n64s y') rfl hown _ rfl rfl (by simp; omega) (by omega) ?_)
            intro v2 w2 o2 b2
            go_wp2_with fail
            go_roundw
            case rel => exact ⟨y' ++ [0], by rw [n64s_append]; exact o2, by simp; omega, by simp; omega, hd.snoc (by decide), by rw [valB_snoc, Nat.mul_zero]; exact hval, hbel.trans b2⟩
            case measure => have := o2.len; simp [sliceLen] at this ⊢; omega
           ·
            have j1 : ¬ (y'.length : Int) < 18 := by omega
            go_wp2_with fail
            go_roundw
            case rel => exact ⟨n + 1, y', by omega, rfl, hown.lower h2sz, by omega, by omega, hd, by rw [upTo, ← HVL.out, ← HF.out]; exact hval, bw4.trans (hbel.mono h2sz)⟩
            case measure => simp [intOf]; omega
    ·
     obtain rfl : n = 3 := by omega
     rw [show ((3 : Nat) : Int) = 3 from rfl]
     have hb40 : valB l < 256 ^ 40 := Nat.lt_of_lt_of_le (valB_lt l dl) (Nat.pow_le_pow_right (by decide) l1)
     have h3 := fold_three (valB l) hb40
     rw [upTo, upTo, upTo, upTo] at hval
     rw [← hval] at h3
     obtain ⟨hX1, hX2⟩ := h3
     obtain ⟨X, hX⟩ : ∃ X, valB x = X := ⟨_, rfl⟩
     rw [hX] at hX1 hX2
     obtain ⟨R, hR⟩ : ∃ R, valB l % 1361129467683753853853498429727072845819 = R := ⟨_, rfl⟩
     rw [hR] at hX2
     have HRR := Lib.hid hR
     have HX := Lib.hid hX
     have HX1 := Lib.hid hX1
     have HX2 := Lib.hid hX2
     clear hX hX1 hX2 hval hb40 hR
     go_wp2_with (at_builtin; refine wpList_appendAll rfl rfl inferInstance wr.heap.size _ [] rfl (Own.empty (Nat.le_refl _)) gx x.length cx (n64s x) sx rfl (by simp) (by rw [row_alloc_past _ _ zgx]; exact rowx) (one_n64s x) (by simp; omega) (by simp) ?_)
     intro v5 w5 o5 b5
     obtain ⟨H3, hH3⟩ : ∃ H, wr.heap.size = H := ⟨_, rfl⟩
     have b5' : Below wr.heap.size wr w5 := Below.trans (Below.alloc (Below.refl _ _) (Nat.le_refl _) _) b5
     have ox := hown.below b5'
     have bw5 : Below w.heap.size w w5 := hbel.trans (b5'.mono hsz)
     rw [hH3] at o5
     have o5 : Own w5 H3 3 v5 (n64s x) := o5
     have hx5 := o5.len
     obtain ⟨gy, cy, sy, rfl, hcy, hgy, zgy, rowy⟩ := o5.ints (by omega)
     have h3sz : w.heap.size ≤ H3 := by omega
     have z5 : H3 ≤ w5.heap.size := by have := b5'.size; omega
     have zgx3 : gx < H3 := by omega
     clear b5 b5' hH3 hown hbel rowx rowy hx5
     go_wp2_with fail
     go_loopw [11, 12] (fun c i wq => ∃ (j k : Nat) (y : List Nat), i = .int .i64 j ∧ c = .int .i64 k ∧ k ≤ 5 ∧ j ≤ x.length ∧ y.length = x.length ∧ Dig y ∧ valB y + 256 ^ j * k = X + 5 ∧ Own wq H3 3 (.slice (some ⟨gy, 0, none⟩) x.length cy) (n64s y) ∧ Below H3 w5 wq) (fun _ i _ => x.length - (intOf i).toNat)
     case atStart => exact ⟨0, 5, x, rfl, rfl, by omega, by omega, rfl, hd, by rw [HX.out], o5, by skip; exact Below.refl _ _⟩
     case round =>
      clear o5
      obtain ⟨j, k, y, rfl, rfl, hk, hjx, hyx, hdy, hvy, hown, hbel⟩ := hrel
      obtain ⟨sy, rowy, zgy, _, _, _⟩ := hown.intsAt (by omega)
      have hszF := hbel.size
      have HV := Lib.hid hvy
      have HYX := Lib.hid hyx
      by_cases hj : j < x.length
      ·
       have jj : (j : Int) < x.length := by omega
       have hjy : j < y.length := by omega
       obtain ⟨O, hO⟩ : ∃ O, y[j] = O := ⟨_, rfl⟩
       have vO : O < 256 := by rw [← hO]; exact hdy.get j hjy
       have uy : j < y.length + sy.length := by omega
       have ty : (n64s y ++ sy)[j]'(by simp; omega) = .int .i64 (O : Int) := by rw [List.getElem_append_left (by simpa using hjy), n64s_get, hO]
       obtain ⟨q, hq⟩ : ∃ q, k + O = q := ⟨_, rfl⟩
       have fq1 : IntKind.i64.wrap ((k : Int) + (O : Int)) = (q : Int) := wrapN _ _ (by omega) (by omega)
       obtain ⟨d, hd2⟩ : ∃ v, q % 256 = v := ⟨_, rfl⟩
       obtain ⟨k2, hk2⟩ : ∃ v, q / 256 = v := ⟨_, rfl⟩
       obtain ⟨m1, m2⟩ := modt _ _ hd2
       obtain ⟨m3, m4⟩ := divt _ _ hk2
       have hk3 : k2 ≤ 5 := by omega
       have hd3 : d < 256 := by omega
       have hs : valB (y.set j d) + 256 ^ (j + 1) * k2 = X + 5 := by
        have := digit_step y j k 0 q hjy (by rw [hO]; exact hq)
        rw [← hd2, ← hk2, this, Nat.mul_zero, Nat.add_zero]
        exact HV.out
       have HS := Lib.hid hs
       have hset : (n64s y ++ sy).set j (.int .i64 (d : Int)) = n64s (y.set j d) ++ sy := by rw [set_left _ _ _ _ (by simpa using hjy), n64s_set]
       have hpos : 0 < y.length + sy.length := by omega
       have o6 := hown.setInts rowy j hjy d
       have b6 : Below H3 w5 (wr.setRow gy (n64s (y.set j d) ++ sy).toArray) := Below.setRow hbel hgy _
       have hyx2 : (y.set j d).length = x.length := by rw [List.length_set]; exact hyx
       have HY2 := Lib.hid hyx2
       clear hs hq hd2 hk2 hown hbel hvy hyx hyx2
       go_wp2_with fail
       go_roundw
       case rel => exact ⟨j + 1, k2, y.set j d, rfl, rfl, hk3, by omega, HY2.out, hdy.set _ hd3, HS.out, o6, b6⟩
       case measure => simp [intOf]; omega
      ·
       obtain rfl : j = x.length := by omega
       have jj : ¬ (x.length : Int) < x.length := by omega
       have hX1 := HX1.out
       have hk0 : k = 0 := by
        rcases Nat.eq_zero_or_pos k with h | h
        ·
         exact h
        ·
         have h1 := Nat.le_mul_of_pos_right (256 ^ x.length) h
         have h2 : 256 ^ 18 ≤ 256 ^ x.length := Nat.pow_le_pow_right (by decide) hx0
         omega
       subst hk0
       rw [Nat.mul_zero, Nat.add_zero] at hvy
       have htop := val_top y hdy (by omega) (by rw [hvy]; omega)
       rw [hvy] at htop
       obtain ⟨ht1, ht2, ht3⟩ := htop
       have h16 : 16 < y.length := by omega
       have htx := val_top x hd (by omega) (by rw [HX.out]; omega)
       have htx1 := htx.1
       rw [HX.out] at htx1
       obtain ⟨O, hO⟩ : ∃ O, y[16] = O := ⟨_, rfl⟩
       rw [getD_at _ _ h16, hO] at ht2
       have uy : 16 < y.length + sy.length := by omega
       have ty : (n64s y ++ sy)[16]'(by simp; omega) = .int .i64 (O : Int) := by rw [List.getElem_append_left (by simpa using h16), n64s_get, hO]
       have ox2 := ox.belowAt zgx3 hbel
       have x17 : (17 : Int) ≤ cx := by omega
       have x17' : 17 ≤ cx := by omega
       have y17 : (17 : Int) ≤ cy := by omega
       have y17' : 17 ≤ cy := by omega
       have h16x : (16 : Int) < x.length := by omega
       have bwf := bw5.trans (hbel.mono h3sz)
       have hX2 := HX2.out
       have hHI := Lib.hid (fun (h4 : 4 ≤ O) O4 (h5 : O - 4 = O4) V (hv : V + 256 ^ 16 * O = X + 5 + 256 ^ 16 * O4) => rest_hi X O O4 R V hX1 ht2 hX2 h4 h5 hv)
       have hLO := Lib.hid (fun (h4 : ¬ 4 ≤ O) => rest_lo X O R hX1 ht2 hX2 h4)
       have vO : O < 256 := by rw [← hO]; exact hdy.get 16 h16
       have HT1 := Lib.hid htx1
       have HVY := Lib.hid hvy
       clear ht1 ht2 ht3 hX1 hX2 htx1 htx hvy
       by_cases h4 : 4 ≤ O
       ·
        have jO : (4 : Int) ≤ (O : Int) := by omega
        obtain ⟨O4, hO4⟩ : ∃ v, O - 4 = v := ⟨_, rfl⟩
        have fO : IntKind.i64.wrap ((O : Int) - 4) = (O4 : Int) := by rw [wraps_i64 _ (by omega) (by omega)]; omega
        have vO4 : O4 < 256 := by omega
        have hvs := valB_set y 16 O4 h16
        rw [hO, HVY.out] at hvs
        have hzd : Dig (y.set 16 O4) := hdy.set _ vO4
        have hzl : (y.set 16 O4).length = y.length := List.length_set
        obtain ⟨hR, hR17⟩ := hHI.out h4 O4 hO4 _ hvs
        have htz := val_top (y.set 16 O4) hzd (by rw [hzl]; exact h16) hR17
        have htz1 := htz.1
        rw [hR] at htz1
        have HT := Lib.hid htz1
        have hset : (n64s y ++ sy).set 16 (.int .i64 (O4 : Int)) = n64s (y.set 16 O4) ++ sy := by rw [set_left _ _ _ _ (by simpa using h16), n64s_set]
        have hpos : 0 < y.length + sy.length := by omega
        have o6 := hown.setInts rowy 16 h16 O4
        have b6 : Below H3 w5 (wr.setRow gy (n64s (y.set 16 O4) ++ sy).toArray) := Below.setRow hbel (by omega) _
        have oc := o6.cut (m := 17) (by simp; omega)
        rw [n64s_take] at oc
        have h17 : (y.set 16 O4).length = x.length := by omega
        have H17 := Lib.hid h17
        clear hR hyx htz htz1 hvs hzl hO4 h17 hown hR17
        go_wp2_with fail
        go_ret
        exact ⟨_, rfl, (y.set 16 O4).take 17, oc.lower h3sz, by have := H17.out; rw [List.length_take]; omega, hzd.take 17, by rw [HT.out, HRR.out], bw5.trans (b6.mono h3sz)⟩
       ·
        have jO : ¬ (4 : Int) ≤ (O : Int) := by omega
        have hR : X = R := hLO.out h4
        have HR2 := Lib.hid hR
        have oc := ox2.cut (m := 17) (by simp; omega)
        rw [n64s_take] at oc
        clear hR hyx
        go_wp2_with fail
        go_ret
        exact ⟨_, rfl, x.take 17, oc, by rw [List.length_take]; omega, hd.take 17, by rw [HT1.out, HR2.out, HRR.out], bwf⟩
end
end Go.Proofs.YtakkicppgkmokaaGreat
