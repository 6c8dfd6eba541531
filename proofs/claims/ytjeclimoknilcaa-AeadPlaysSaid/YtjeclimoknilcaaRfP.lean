/- A quarter of the reference is the machine's; no program in sight. -/
import Derived.Test.YtjeclimoknilcaaRfQ
import Derived.Test.YtjeclimoknilcaaChaM
set_option linter.unusedSimpArgs false
set_option linter.unusedVariables false
namespace Go.Proofs.Ytjeclimoknilcaa
open Go.RowKit
theorem getD_setI (l : List Int) (i j : Nat) (v : Int) (h : i < l.length) : (l.set i v).getD j 0 = if i = j then v else l.getD j 0 := by
  by_cases hij : i = j
  · subst hij
    simp [List.getD_eq_getElem?_getD, h]
  · simp [List.getD_eq_getElem?_getD, hij]
theorem ext_getD (l m : List Int) (h : l.length = m.length) (hg : ∀ j, j < l.length → l.getD j 0 = m.getD j 0) : l = m := by
  refine List.ext_getElem h fun i h1 h2 => ?_
  have := hg i h1
  rwa [getD_elemI _ _ h1, getD_elemI _ _ h2] at this
theorem quarL_length (l : List Int) (a b c d : Nat) : (quarL l a b c d).length = l.length := by simp [quarL, addR, xorL]
set_option maxHeartbeats 1000000 in
theorem quarL_turn (l : List Int) (a b c d : Nat) (ha : a < l.length) (hb : b < l.length) (hc : c < l.length) (hd : d < l.length) (ab : a ≠ b) (ac : a ≠ c) (ad : a ≠ d) (bc : b ≠ c) (bd : b ≠ d) (cd : c ≠ d) :
    quarL l a b c d = turnL l a b c d := by
  have ba := ab.symm
  have ca := ac.symm
  have da := ad.symm
  have cb := bc.symm
  have db := bd.symm
  have dc := cd.symm
  refine ext_getD _ _ (by rw [quarL_length, turnL_length]) fun j hj => ?_
  rw [quarL_length] at hj
  unfold turnL quarL addR xorL
  unfold qB qC qD qA qb qd
  obtain ⟨A, hA⟩ : ∃ A, l.getD a 0 = A := ⟨_, rfl⟩
  obtain ⟨B, hB⟩ : ∃ A, l.getD b 0 = A := ⟨_, rfl⟩
  obtain ⟨C, hC⟩ : ∃ A, l.getD c 0 = A := ⟨_, rfl⟩
  obtain ⟨D, hD⟩ : ∃ A, l.getD d 0 = A := ⟨_, rfl⟩
  simp only [getD_setI, List.length_set, ha, hb, hc, hd, hA, hB, hC, hD, ab, ac, ad, ba, bc, bd, ca, cb, cd, da, db, dc, if_true, if_false, Int.emod_add_emod]
  by_cases ja : a = j
  · subst ja; simp [ab, ac, ad, ba, bc, bd, ca, cb, cd, da, db, dc]
  by_cases jb : b = j
  · subst jb; simp [ab, ac, ad, ba, bc, bd, ca, cb, cd, da, db, dc]
  by_cases jc : c = j
  · subst jc; simp [ab, ac, ad, ba, bc, bd, ca, cb, cd, da, db, dc]
  by_cases jd : d = j
  · subst jd; simp [ab, ac, ad, ba, bc, bd, ca, cb, cd, da, db, dc]
  simp [ja, jb, jc, jd]
/-- a word as the reference makes it -/
def refW (a b c d : UInt8) : Int :=
  IntKind.u32.wrap (IntKind.u32.wrap (IntKind.u32.wrap (IntKind.u32.wrap (IntKind.u32.wrap (IntKind.u32.wrap (IntKind.u32.wrap (d.toNat : Int) * 256) + IntKind.u32.wrap (c.toNat : Int)) * 256) + IntKind.u32.wrap (b.toNat : Int)) * 256) + IntKind.u32.wrap (a.toNat : Int))
theorem refW_word (l : List UInt8) (i : Nat) (h : 4 * i + 3 < l.length) : refW l[4 * i] l[4 * i + 1] l[4 * i + 2] l[4 * i + 3] = wordI (l.drop (4 * i)) := by
  have e0 : (l.drop (4 * i)).getD 0 0 = l[4 * i] := by rw [getD_elem _ _ _ (by simp; omega)]; simp
  have e1 : (l.drop (4 * i)).getD 1 0 = l[4 * i + 1] := by rw [getD_elem _ _ _ (by simp; omega)]; simp
  have e2 : (l.drop (4 * i)).getD 2 0 = l[4 * i + 2] := by rw [getD_elem _ _ _ (by simp; omega)]; simp
  have e3 : (l.drop (4 * i)).getD 3 0 = l[4 * i + 3] := by rw [getD_elem _ _ _ (by simp; omega)]; simp
  rw [refW, wordI, e0, e1, e2, e3]
  have a0 := l[4 * i].toNat_lt
  have a1 := l[4 * i + 1].toNat_lt
  have a2 := l[4 * i + 2].toNat_lt
  have a3 := l[4 * i + 3].toNat_lt
  generalize l[4 * i].toNat = x0 at *
  generalize l[4 * i + 1].toNat = x1 at *
  generalize l[4 * i + 2].toNat = x2 at *
  generalize l[4 * i + 3].toNat = x3 at *
  simp only [IntKind.wrap_u32]
  have k0 : (x0 : Int) % 4294967296 = x0 := by omega
  have k1 : (x1 : Int) % 4294967296 = x1 := by omega
  have k2 : (x2 : Int) % 4294967296 = x2 := by omega
  have k3 : (x3 : Int) % 4294967296 = x3 := by omega
  have k4 : (x1 : Int) * 256 % 4294967296 = x1 * 256 := by omega
  have k5 : (x2 : Int) * 65536 % 4294967296 = x2 * 65536 := by omega
  have k6 : (x3 : Int) * 16777216 % 4294967296 = x3 * 16777216 := by omega
  rw [k0, k1, k2, k3, k4, k5, k6]
  have o1 : bits .or .u32 (x0 : Int) ((x1 : Int) * 256) = x0 + x1 * 256 := u32_or8 _ _ (by omega) (by omega) (by omega) (by omega) (by omega)
  have o2 : bits .or .u32 ((x0 : Int) + x1 * 256) ((x2 : Int) * 65536) = x0 + x1 * 256 + x2 * 65536 := u32_or16 _ _ (by omega) (by omega) (by omega) (by omega) (by omega)
  have o3 : bits .or .u32 ((x0 : Int) + x1 * 256 + x2 * 65536) ((x3 : Int) * 16777216) = x0 + x1 * 256 + x2 * 65536 + x3 * 16777216 := u32_or24 _ _ (by omega) (by omega) (by omega) (by omega) (by omega)
  rw [o1, o2, o3]
  omega
/-- the nonce's words behind the count -/
def nonF (l : List UInt8) (i : Nat) (x : List Int) : List Int := x.set (13 + i) (wordI (l.drop (4 * i)))
theorem nonF_length (l : List UInt8) (i : Nat) (x : List Int) : (nonF l i x).length = x.length := by simp [nonF]
/-- the first state, as the reference makes it -/
def begR (k : List UInt8) (count : Int) (nonce : List UInt8) : List Int := upTo (nonF nonce) 3 ((upTo (firstF (beginL ++ k)) 12 (List.replicate 16 0)).set 12 count)
theorem wordI_append (l m : List UInt8) (h : 4 ≤ l.length) : wordI (l ++ m) = wordI l := by
  have e : ∀ i, i < 4 → (l ++ m).getD i 0 = l.getD i 0 := by
    intro i hi
    rw [getD_elem _ _ _ (by simp; omega), getD_elem _ _ _ (by omega), List.getElem_append_left (by omega)]
  unfold wordI
  rw [e 0 (by decide), e 1 (by decide), e 2 (by decide), e 3 (by decide)]
theorem first_same (t m : List UInt8) (n : Nat) (h : 4 * n ≤ t.length) (x : List Int) : upTo (firstF (t ++ m)) n x = upTo (firstF t) n x := by
  induction n with
  | zero => rw [upTo, upTo]
  | succ n ih =>
    have e : (t ++ m).drop (4 * n) = t.drop (4 * n) ++ m := List.drop_append_of_le_length (by omega)
    have key : wordI ((t ++ m).drop (4 * n)) = wordI (t.drop (4 * n)) := by
      rw [e]
      exact wordI_append _ _ (by rw [List.length_drop]; omega)
    have ih2 := ih (by omega)
    rw [upTo, upTo, ih2, firstF, firstF, key]
theorem begR_eq (k : List UInt8) (count : Int) (nonce : List UInt8) (hk : k.length = 32) : begR k count nonce = firstL k count nonce := by
  have hs : firstT k nonce = (beginL ++ k) ++ ([48, 48, 48, 48] ++ nonce) := by rw [firstT, List.append_assoc]
  have htl : (beginL ++ k).length = 48 := by simp [beginL, hk]
  have hd : ∀ i, (firstT k nonce).drop (4 * (13 + i)) = nonce.drop (4 * i) := by
    intro i
    have hl : ((beginL ++ k) ++ [48, 48, 48, 48]).length = 52 := by rw [List.length_append, htl]; rfl
    rw [hs, ← List.append_assoc, List.drop_append, hl, List.drop_eq_nil_of_le (by omega), List.nil_append]
    congr 1
    omega
  obtain ⟨U, hU⟩ : ∃ U, upTo (firstF (beginL ++ k)) 12 (List.replicate 16 0) = U := ⟨_, rfl⟩
  have hUl : U.length = 16 := by rw [← hU, upTo_len (firstF_length _)]; simp
  have e12 : upTo (firstF (firstT k nonce)) 12 (List.replicate 16 0) = U := by rw [hs, first_same _ _ _ (by omega), hU]
  have e16 : upTo (firstF (firstT k nonce)) 16 (List.replicate 16 0) = firstF (firstT k nonce) 15 (firstF (firstT k nonce) 14 (firstF (firstT k nonce) 13 (firstF (firstT k nonce) 12 (upTo (firstF (firstT k nonce)) 12 (List.replicate 16 0))))) := by
    rw [upTo, upTo, upTo, upTo]
  rw [begR, firstL, e16, e12, hU]
  show nonF nonce 2 (nonF nonce 1 (nonF nonce 0 (U.set 12 count))) = _
  simp only [nonF, firstF]
  have d0 := hd 0
  have d1 := hd 1
  have d2 := hd 2
  simp only [Nat.add_zero] at d0
  rw [show 13 + 1 = 14 from rfl] at d1
  rw [show 13 + 2 = 15 from rfl] at d2
  rw [d0, d1, d2]
  generalize wordI (nonce.drop (4 * 0)) = a
  generalize wordI (nonce.drop (4 * 1)) = b
  generalize wordI (nonce.drop (4 * 2)) = c
  generalize wordI ((firstT k nonce).drop (4 * 12)) = d
  refine ext_getD _ _ (by simp) fun j hj => ?_
  simp only [getD_setI, List.length_set, hUl, Nat.add_zero, show (13 : Nat) < 16 from by decide, show (12 : Nat) < 16 from by decide, show (14 : Nat) < 16 from by decide, show (15 : Nat) < 16 from by decide, show 13 + 1 < 16 from by decide, show 13 + 2 < 16 from by decide]
  by_cases j12 : 12 = j
  · subst j12; simp
  by_cases j13 : 13 = j
  · subst j13; simp
  by_cases j14 : 14 = j
  · subst j14; simp
  by_cases j15 : 15 = j
  · subst j15; simp
  simp [j12, j13, j14, j15]
theorem ownsRow_belowR {w w' : World} {base e s n : Nat} {v : Value} {xs : List Value} (h : w.ownsRow base e s v n xs) (hb : Below w.heap.size w w') : w'.ownsRow base e s v n xs := by
  obtain ⟨hl, ⟨rfl, rfl⟩ | ⟨g, cap, cur, rfl, hg0, hg, hr⟩⟩ := h
  · exact ⟨hl, .inl ⟨rfl, rfl⟩⟩
  · refine ⟨hl, .inr ⟨g, cap, cur, rfl, hg0, ?_, hr⟩⟩
    rw [hb.block g ?_]
    · exact hg
    · rcases Nat.lt_or_ge g w.heap.size with h1 | h1
      · exact h1
      · rw [Array.getElem?_eq_none h1] at hg
        cases hg
/-- eight quarters -/
def eightL (l : List Int) : List Int :=
  quarL (quarL (quarL (quarL (quarL (quarL (quarL (quarL l 0 4 8 12) 1 5 9 13) 2 6 10 14) 3 7 11 15) 0 5 10 15) 1 6 11 12) 2 7 8 13) 3 4 9 14
theorem eightL_dbl (l : List Int) (h : l.length = 16) : eightL l = dblL l := by
  have q : ∀ (m : List Int) (a b c d : Nat), m.length = 16 → a < 16 → b < 16 → c < 16 → d < 16 → a ≠ b → a ≠ c → a ≠ d → b ≠ c → b ≠ d → c ≠ d → quarL m a b c d = turnL m a b c d := fun m a b c d hm ha hb hc hd => quarL_turn m a b c d (by omega) (by omega) (by omega) (by omega)
  have s1 : (turnL l 0 4 8 12).length = 16 := by rw [turnL_length]; exact h
  have s2 : (turnL (turnL l 0 4 8 12) 1 5 9 13).length = 16 := by rw [turnL_length]; exact s1
  have s3 : (turnL (turnL (turnL l 0 4 8 12) 1 5 9 13) 2 6 10 14).length = 16 := by rw [turnL_length]; exact s2
  unfold eightL
  rw [q l 0 4 8 12 h (by decide) (by decide) (by decide) (by decide) (by decide) (by decide) (by decide) (by decide) (by decide) (by decide)]
  rw [q _ 1 5 9 13 s1 (by decide) (by decide) (by decide) (by decide) (by decide) (by decide) (by decide) (by decide) (by decide) (by decide)]
  rw [q _ 2 6 10 14 s2 (by decide) (by decide) (by decide) (by decide) (by decide) (by decide) (by decide) (by decide) (by decide) (by decide)]
  rw [q _ 3 7 11 15 s3 (by decide) (by decide) (by decide) (by decide) (by decide) (by decide) (by decide) (by decide) (by decide) (by decide)]
  have e4 : turnL (turnL (turnL (turnL l 0 4 8 12) 1 5 9 13) 2 6 10 14) 3 7 11 15 = upTo dblF 4 l := by
    rw [upTo, upTo, upTo, upTo, upTo, dblF, dblF, dblF, dblF]
  rw [e4]
  generalize hM : upTo dblF 4 l = M
  have s4 : M.length = 16 := by rw [← hM, upTo_len dblF_length]; exact h
  have s5 : (turnL M 0 5 10 15).length = 16 := by rw [turnL_length]; exact s4
  have s6 : (turnL (turnL M 0 5 10 15) 1 6 11 12).length = 16 := by rw [turnL_length]; exact s5
  have s7 : (turnL (turnL (turnL M 0 5 10 15) 1 6 11 12) 2 7 8 13).length = 16 := by rw [turnL_length]; exact s6
  rw [q M 0 5 10 15 s4 (by decide) (by decide) (by decide) (by decide) (by decide) (by decide) (by decide) (by decide) (by decide) (by decide)]
  rw [q _ 1 6 11 12 s5 (by decide) (by decide) (by decide) (by decide) (by decide) (by decide) (by decide) (by decide) (by decide) (by decide)]
  rw [q _ 2 7 8 13 s6 (by decide) (by decide) (by decide) (by decide) (by decide) (by decide) (by decide) (by decide) (by decide) (by decide)]
  rw [q _ 3 4 9 14 s7 (by decide) (by decide) (by decide) (by decide) (by decide) (by decide) (by decide) (by decide) (by decide) (by decide)]
  rw [dblL, hM, upTo, upTo, upTo, upTo, upTo, dblG, dblG, dblG, dblG]
theorem eightL_length (l : List Int) : (eightL l).length = l.length := by simp [eightL, quarL_length]
def eightF (_ : Nat) (l : List Int) : List Int := eightL l
theorem eightF_length (i : Nat) (l : List Int) : (eightF i l).length = l.length := eightL_length l
theorem eightF_twenty (n : Nat) (l : List Int) (h : l.length = 16) : upTo eightF n l = upTo twentyF n l := by
  induction n with
  | zero => rw [upTo, upTo]
  | succ n ih => rw [upTo, upTo, ih, eightF, twentyF, eightL_dbl _ (by rw [upTo_len twentyF_length]; exact h)]
/-- the bytes of a state's words, added to another's -/
def byteW (x : List Int) (n : Nat) : UInt8 := byteI (x.getD (n / 4) 0 / 2 ^ (8 * (n % 4)))
def bytesW (x : List Int) (n : Nat) : List UInt8 := (List.range n).map (byteW x)
theorem bytesW_succ (x : List Int) (n : Nat) : bytesW x (n + 1) = bytesW x n ++ [byteW x n] := by simp [bytesW, List.range_succ]
theorem outF_get (x : List Int) (n : Nat) (b : List UInt8) (i : Nat) (hb : n ≤ b.length) (hi : i < n) : (upTo (outF x) n b).getD i 0 = byteW x i := by
  induction n with
  | zero => omega
  | succ n ih =>
    have hl : (upTo (outF x) n b).length = b.length := upTo_len8 (outF_length x) n b
    rw [upTo, outF]
    by_cases hin : n = i
    · subst hin
      rw [List.getD_eq_getElem?_getD, List.getElem?_set_self (by omega)]
      rfl
    · rw [List.getD_eq_getElem?_getD, List.getElem?_set_ne hin, ← List.getD_eq_getElem?_getD]
      exact ih (by omega) (by omega)
theorem bytesW_out (x : List Int) : bytesW x 64 = outL x := by
  refine List.ext_getElem (by rw [outL_length]; simp [bytesW]) fun i h1 h2 => ?_
  have hi : i < 64 := by simpa [bytesW] using h1
  have this : (outL x).getD i 0 = byteW x i := by
    rw [outL]
    exact outF_get x 64 (List.replicate 64 0) i (by simp) hi
  rw [getD_elem _ _ _ h2] at this
  rw [this]
  simp [bytesW]
theorem addF_get (v : List Int) (n : Nat) (b : List Int) (i : Nat) (hb : n ≤ b.length) (hi : i < n) : (upTo (addF v) n b).getD i 0 = (b.getD i 0 + v.getD i 0) % 4294967296 := by
  induction n with
  | zero => omega
  | succ n ih =>
    have hl : ∀ m, (upTo (addF v) m b).length = b.length := fun m => upTo_len (addF_length v) m b
    have hge : ∀ m, m ≤ n → (upTo (addF v) m b).getD n 0 = b.getD n 0 := by
      intro m
      induction m with
      | zero => intro _; rw [upTo]
      | succ m ihm =>
        intro hm
        rw [upTo, addF, getD_setI _ _ _ _ (by rw [hl]; omega), if_neg (by omega)]
        exact ihm (by omega)
    rw [upTo, addF, getD_setI _ _ _ _ (by rw [hl]; omega)]
    by_cases hin : n = i
    · subst hin
      rw [if_pos rfl, hge n (Nat.le_refl _)]
    · rw [if_neg hin]
      exact ih (by omega) (by omega)
end Go.Proofs.Ytjeclimoknilcaa
