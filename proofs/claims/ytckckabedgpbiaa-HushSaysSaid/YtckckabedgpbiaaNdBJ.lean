/- What any bytes are parsed as, by the program and by the reference of chapter 10: the same. -/
import Derived.Test.YtckckabedgpbiaaRsRJ
set_option linter.unusedSimpArgs false
set_option linter.unusedVariables false
set_option maxRecDepth 4000
namespace Go.Proofs.Ytckckabedgpbiaa
open Go.RowKit
theorem vecAt_inner (l : List UInt8) (sz k n : Nat) (h : k + n ≤ sz) (hl : 40 + sz ≤ l.length) : vecAt ((l.drop 40).take sz) k n = vecAt l (40 + k) n := by
 apply Vector.ext
 intro i hi
 simp only [vecAt, Vector.getElem_ofFn]
 rw [List.getD_eq_getElem?_getD, List.getD_eq_getElem?_getD, List.getElem?_take_of_lt (by omega), List.getElem?_drop, show 40 + (k + i) = 40 + k + i by omega]
theorem getD_inner (l : List UInt8) (sz k : Nat) (h : k < sz) (hl : 40 + sz ≤ l.length) (h2 : k < ((l.drop 40).take sz).length) : ((l.drop 40).take sz)[k] = l.getD (40 + k) 0 := by
 rw [List.getElem_take, List.getElem_drop, List.getD_eq_getElem?_getD, List.getElem?_eq_getElem (by omega)]
 rfl
theorem numAt_inner (l : List UInt8) (sz : Nat) (h : 4 ≤ sz) : numAt ((l.drop 40).take sz) 2 = numAt l 42 := by
 rw [numAt, numAt, List.drop_take, List.take_take, List.drop_drop, Nat.min_eq_left (by omega)]
theorem sum_iff (l : List UInt8) (h : 64 ≤ l.length) (n : Nat) (hn : n ≤ 65535) : bytesN n 2 = List.take 2 (List.drop 42 l) ↔ numAt l 42 = n := by
 rw [← two_numAt l 42 (by omega)]
 constructor
 ·
  intro h2
  have h3 := congrArg numN h2
  rw [numN_bytesN, numN_bytesN] at h3
  have := numAt_lt l 42
  omega
 ·
  intro h2
  rw [h2]
theorem ndRest_prog (l : List UInt8) (hl : 64 ≤ l.length) (hl2 : l.length ≤ 10000) (sz : Nat) (hsz : numAt l 4 = sz) (hs : sz = 24 ∨ sz = 32) (h0 : l[0] = 96) (h6 : l[6] = 58) (h7 : l[7] = 255) (hls : 40 + sz ≤ l.length) : ParsesN l (ndRest l sz).1 (ndRest l sz).2 := by
 obtain ⟨m, hm⟩ : ∃ m, (l.drop 40).take sz = m := ⟨_, rfl⟩
 have hml : m.length = sz := by rw [← hm, List.length_take, List.length_drop]; omega
 have REF : ∀ n, refused m n (vecAt l 8 16) (vecAt l 24 16) ip0 mac0 four0 0 → ParsesN l zeroNd n := fun n H w => ndParse_refused l m n w hl hl2 sz hsz hs hls h0 h6 h7 hm H
 have g0 : m[0] = l.getD 40 0 := by subst hm; exact getD_inner l sz 0 (by omega) hls _
 have g1 : m[1] = l.getD 41 0 := by subst hm; exact getD_inner l sz 1 (by omega) hls _
 have v8 : vecAt m 8 16 = vecAt l 48 16 := by subst hm; exact vecAt_inner l sz 8 16 (by omega) hls
 have v4 : vecAt m 4 4 = vecAt l 44 4 := by subst hm; exact vecAt_inner l sz 4 4 (by omega) hls
 have n2 : numAt m 2 = numAt l 42 := by subst hm; exact numAt_inner l sz (by omega)
 have opcase : ∀ (op : Nat), (op = 1 ∨ op = 2) → l.getD 40 0 = UInt8.ofNat (134 + op) → ndRest l sz = ndRest1 op l sz → ParsesN l (ndRest1 op l sz).1 (ndRest1 op l sz).2 := by
  intro op hop a e
  unfold ndRest1
  by_cases b : l.getD 41 0 = 0
  ·
   rw [if_neg (by rw [b]; simp)]
   rcases hs with rfl | rfl
   ·
    rw [if_pos rfl]
    by_cases c : bytesN (sumN op (vecAt l 8 16) (vecAt l 24 16) (vecAt l 48 16) mac0 false (vecAt l 44 4)) 2 = List.take 2 (List.drop 42 l)
    ·
     rw [if_pos c]
     have c2 := (sum_iff l hl _ (sumN_le _ _ _ _ _ _ _)).1 c
     intro w
     rcases hop with rfl | rfl
     ·
      have := ndParse_small_op1 l m w hl hl2 hsz hls h0 h6 h7 hm hml (by rw [g0]; exact a) (by rw [g1]; exact b) (by rw [v8, v4, n2]; exact c2)
      rw [v8, v4] at this
      exact this
     ·
      have := ndParse_small_op2 l m w hl hl2 hsz hls h0 h6 h7 hm hml (by rw [g0]; exact a) (by rw [g1]; exact b) (by rw [v8, v4, n2]; exact c2)
      rw [v8, v4] at this
      exact this
    ·
     rw [if_neg c]
     have c2 := fun h => c ((sum_iff l hl _ (sumN_le _ _ _ _ _ _ _)).2 h)
     rcases hop with rfl | rfl
     ·
      exact REF 4 (told_sum_small_op1 m _ _ _ _ _ _ hml (by rw [g0]; exact a) (by rw [g1]; exact b) (by rw [v8, v4, n2]; exact c2))
     ·
      exact REF 4 (told_sum_small_op2 m _ _ _ _ _ _ hml (by rw [g0]; exact a) (by rw [g1]; exact b) (by rw [v8, v4, n2]; exact c2))
   ·
    rw [if_neg (by decide)]
    have g24 : m[24] = l.getD 64 0 := by subst hm; exact getD_inner l 32 24 (by omega) hls _
    have g25 : m[25] = l.getD 65 0 := by subst hm; exact getD_inner l 32 25 (by omega) hls _
    have v26 : vecAt m 26 6 = vecAt l 66 6 := by subst hm; exact vecAt_inner l 32 26 6 (by omega) hls
    by_cases d : l.getD 64 0 = UInt8.ofNat op
    ·
     rw [if_neg (by rw [d]; simp)]
     by_cases f : l.getD 65 0 = 1
     ·
      rw [if_neg (by rw [f]; simp)]
      by_cases c : bytesN (sumN op (vecAt l 8 16) (vecAt l 24 16) (vecAt l 48 16) (vecAt l 66 6) true (vecAt l 44 4)) 2 = List.take 2 (List.drop 42 l)
      ·
       rw [if_pos c]
       have c2 := (sum_iff l hl _ (sumN_le _ _ _ _ _ _ _)).1 c
       intro w
       rcases hop with rfl | rfl
       ·
        have := ndParse_large_op1 l m w hl hl2 hsz hls h0 h6 h7 hm hml (by rw [g0]; exact a) (by rw [g1]; exact b) (by rw [g24]; exact d) (by rw [g25]; exact f) (by rw [v8, v4, v26, n2]; exact c2)
        rw [v8, v4, v26] at this
        exact this
       ·
        have := ndParse_large_op2 l m w hl hl2 hsz hls h0 h6 h7 hm hml (by rw [g0]; exact a) (by rw [g1]; exact b) (by rw [g24]; exact d) (by rw [g25]; exact f) (by rw [v8, v4, v26, n2]; exact c2)
        rw [v8, v4, v26] at this
        exact this
      ·
       rw [if_neg c]
       have c2 := fun h => c ((sum_iff l hl _ (sumN_le _ _ _ _ _ _ _)).2 h)
       rcases hop with rfl | rfl
       ·
        exact REF 4 (told_sum_large_op1 m _ _ _ _ _ _ hml (by rw [g0]; exact a) (by rw [g1]; exact b) (by rw [g24]; exact d) (by rw [g25]; exact f) (by rw [v8, v4, v26, n2]; exact c2))
       ·
        exact REF 4 (told_sum_large_op2 m _ _ _ _ _ _ hml (by rw [g0]; exact a) (by rw [g1]; exact b) (by rw [g24]; exact d) (by rw [g25]; exact f) (by rw [v8, v4, v26, n2]; exact c2))
     ·
      rw [if_pos f]
      rcases hop with rfl | rfl
      ·
       exact REF 3 (told_bad25_op1 m _ _ _ _ _ _ hml (by rw [g0]; exact a) (by rw [g1]; exact b) (by rw [g24]; exact d) (by rw [g25]; exact f))
      ·
       exact REF 3 (told_bad25_op2 m _ _ _ _ _ _ hml (by rw [g0]; exact a) (by rw [g1]; exact b) (by rw [g24]; exact d) (by rw [g25]; exact f))
    ·
     rw [if_pos d]
     rcases hop with rfl | rfl
     ·
      exact REF 3 (told_bad24_op1 m _ _ _ _ _ _ hml (by rw [g0]; exact a) (by rw [g1]; exact b) (by rw [g24]; exact d))
     ·
      exact REF 3 (told_bad24_op2 m _ _ _ _ _ _ hml (by rw [g0]; exact a) (by rw [g1]; exact b) (by rw [g24]; exact d))
  ·
   rw [if_pos b]
   rcases hop with rfl | rfl
   ·
    exact REF 3 (told_bad1_op1 m _ _ _ _ _ _ (by omega) (by rw [g0]; exact a) (by rw [g1]; exact b))
   ·
    exact REF 3 (told_bad1_op2 m _ _ _ _ _ _ (by omega) (by rw [g0]; exact a) (by rw [g1]; exact b))
 by_cases a1 : l.getD 40 0 = 135
 ·
  rw [ndRest_op1 l sz a1]
  exact opcase 1 (.inl rfl) a1 (ndRest_op1 l sz a1)
 by_cases a2 : l.getD 40 0 = 136
 ·
  rw [ndRest_op2 l sz a2]
  exact opcase 2 (.inr rfl) a2 (ndRest_op2 l sz a2)
 rw [ndRest_no l sz a1 a2]
 exact REF 3 (told_badop m _ _ _ _ _ _ (by omega) (by rw [g0]; exact a1) (by rw [g0]; exact a2))
structure NdBoth (l : List UInt8) (op : Nat) (fr to ab : Vector UInt8 16) (mac : Vector UInt8 6) (has : Bool) (fl : Vector UInt8 4) (n : Int) : Prop where
 prog : ParsesN l (ndV op fr to ab mac has fl) n
 ref : ParsesR l (ndV op fr to ab mac has fl) n
 good : n = 0 → (op = 1 ∨ op = 2) ∧ (has = false → mac = mac0)
theorem nd_both (l : List UInt8) (hl2 : l.length ≤ 10000) : ∃ op fr to ab mac has fl n, NdBoth l op fr to ab mac has fl n := by
 have bad : ∀ n : Int, n ≠ 0 → ParsesN l zeroNd n → ParsesR l zeroNd n → ∃ op fr to ab mac has fl n, NdBoth l op fr to ab mac has fl n := fun n hn h1 h2 => ⟨0, ip0, ip0, ip0, mac0, false, four0, n, h1, h2, fun h => absurd h hn⟩
 by_cases hl : l.length < 64
 ·
  exact bad 2 (by decide) (ndParse_head l 2 fun X w => headed_short l X w hl) (rparse_short l hl)
 by_cases hh : headOk l = false
 ·
  exact bad 3 (by decide) (ndParse_head l 3 fun X w => headed_form l X w (by omega) hl2 hh) (rparse_form l (by omega) hl2 hh)
 have hh2 : headOk l = true := by simpa using hh
 unfold headOk at hh2
 simp only [Bool.and_eq_true, Bool.or_eq_true, beq_iff_eq] at hh2
 obtain ⟨⟨⟨q0, q6⟩, q7⟩, hs⟩ := hh2
 rw [getD_elem _ _ _ (by omega)] at q0 q6 q7
 have h0 : l[0] = 96 := UInt8.toNat_inj.1 (by show l[0].toNat = 96; omega)
 have h6 : l[6] = 58 := UInt8.toNat_inj.1 (by show l[6].toNat = 58; omega)
 have h7 : l[7] = 255 := UInt8.toNat_inj.1 (by show l[7].toNat = 255; omega)
 by_cases hc : l.length < 40 + numAt l 4
 ·
  rcases hs with hs | hs
  ·
   omega
  ·
   exact bad 2 (by decide) (ndParse_head l 2 fun X w => headed_cut l X w (by omega) 32 hs (.inr rfl) h0 h6 h7 (by omega)) (rparse_cut l (by omega) hs h0 h6 h7 (by omega))
 have hp := ndRest_prog l (by omega) hl2 _ rfl hs h0 h6 h7 (by omega)
 have hr : ParsesR l (ndRest l (numAt l 4)).1 (ndRest l (numAt l 4)).2 := by
  rcases hs with hs | hs
  ·
   rw [hs]
   exact rparse_body24 l (by omega) hl2 hs h0 h6 h7 (by omega) _ _ rfl
  ·
   rw [hs]
   exact rparse_body32 l (by omega) hl2 hs h0 h6 h7 (by omega) _ _ rfl
 have one : ∀ op, (op = 1 ∨ op = 2) → ndRest l (numAt l 4) = ndRest1 op l (numAt l 4) → ∃ op fr to ab mac has fl n, NdBoth l op fr to ab mac has fl n := by
  intro op hop e
  rw [e] at hp hr
  unfold ndRest1 at hp hr
  by_cases b : l.getD 41 0 ≠ 0
  ·
   rw [if_pos b] at hp hr
   exact bad 3 (by decide) hp hr
  rw [if_neg b] at hp hr
  by_cases c : numAt l 4 = 24
  ·
   rw [if_pos c] at hp hr
   by_cases d : bytesN (sumN op (vecAt l 8 16) (vecAt l 24 16) (vecAt l 48 16) mac0 false (vecAt l 44 4)) 2 = List.take 2 (List.drop 42 l)
   ·
    rw [if_pos d] at hp hr
    exact ⟨op, _, _, _, _, _, _, 0, hp, hr, fun _ => ⟨hop, fun _ => rfl⟩⟩
   ·
    rw [if_neg d] at hp hr
    exact bad 4 (by decide) hp hr
  rw [if_neg c] at hp hr
  by_cases f : l.getD 64 0 ≠ UInt8.ofNat op
  ·
   rw [if_pos f] at hp hr
   exact bad 3 (by decide) hp hr
  rw [if_neg f] at hp hr
  by_cases g : l.getD 65 0 ≠ 1
  ·
   rw [if_pos g] at hp hr
   exact bad 3 (by decide) hp hr
  rw [if_neg g] at hp hr
  by_cases d : bytesN (sumN op (vecAt l 8 16) (vecAt l 24 16) (vecAt l 48 16) (vecAt l 66 6) true (vecAt l 44 4)) 2 = List.take 2 (List.drop 42 l)
  ·
   rw [if_pos d] at hp hr
   exact ⟨op, _, _, _, _, _, _, 0, hp, hr, fun _ => ⟨hop, fun h => by cases h⟩⟩
  ·
   rw [if_neg d] at hp hr
   exact bad 4 (by decide) hp hr
 by_cases a1 : l.getD 40 0 = 135
 ·
  exact one 1 (.inl rfl) (ndRest_op1 l _ a1)
 by_cases a2 : l.getD 40 0 = 136
 ·
  exact one 2 (.inr rfl) (ndRest_op2 l _ a2)
 rw [ndRest_no l _ a1 a2] at hp hr
 exact bad 3 (by decide) hp hr
end Go.Proofs.Ytckckabedgpbiaa
