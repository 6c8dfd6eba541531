/- What parsing a frame answers, in plain terms; what is printed is parsed as it was, cut or whole; what is parsed is right, and printed it is what was parsed. No walk here. -/
import Derived.Test.YtckckabedgpbiaaEthJ
set_option linter.unusedSimpArgs false
set_option linter.unusedVariables false
set_option maxRecDepth 4000
namespace Go.Proofs.Ytckckabedgpbiaa
open Go.RowKit
structure EthD where
 dst : Vector UInt8 6
 src : Vector UInt8 6
 ty : Int
 body : List UInt8
 vlan : Int
 prio : Int
def numAt (l : List UInt8) (k : Nat) : Nat := numN ((l.drop k).take 2)
theorem numAt_lt (l : List UInt8) (k : Nat) : numAt l k < 65536 := numN_le (k := 2) _ (by rw [List.length_take]; omega)
def ethRest (l : List UInt8) (n k : Nat) (v p : Int) : Except Int EthD :=
 if 1500 + k < l.length then .error 3
 else if n ≤ 1500 then
  if l.length < k + n then .error 2
  else if 4094 < v then .error 12 else .ok ⟨vecAt l 0 6, vecAt l 6 6, 0, (l.drop k).take n, v, p⟩
 else if n < 1536 ∨ n = 33024 then .error 3
 else if 4094 < v then .error 12 else .ok ⟨vecAt l 0 6, vecAt l 6 6, n, l.drop k, v, p⟩
def ethParse (l : List UInt8) : Except Int EthD :=
 if l.length < 14 then .error 2
 else if numAt l 12 = 33024 then
  if l.length < 16 then .error 2
  else if numAt l 14 / 4096 % 2 = 1 then .error 3
  else if l.length < 18 then .error 2
  else ethRest l (numAt l 16) 18 ((numAt l 14 % 4096 : Nat) : Int) ((numAt l 14 / 8192 : Nat) : Int)
 else ethRest l (numAt l 12) 14 (-1) 0
section
variable {l : List UInt8} {n k : Nat} {v p : Int}
theorem ethRest_long (h1 : 1500 + k < l.length) : ethRest l n k v p = .error 3 := by
 unfold ethRest
 rw [if_pos h1]
theorem ethRest_short (h1 : ¬ 1500 + k < l.length) (h2 : n ≤ 1500) (h3 : l.length < k + n) : ethRest l n k v p = .error 2 := by
 unfold ethRest
 rw [if_neg h1, if_pos h2, if_pos h3]
theorem ethRest_lenV (h1 : ¬ 1500 + k < l.length) (h2 : n ≤ 1500) (h3 : ¬ l.length < k + n) (h4 : 4094 < v) : ethRest l n k v p = .error 12 := by
 unfold ethRest
 rw [if_neg h1, if_pos h2, if_neg h3, if_pos h4]
theorem ethRest_len (h1 : ¬ 1500 + k < l.length) (h2 : n ≤ 1500) (h3 : ¬ l.length < k + n) (h4 : ¬ 4094 < v) : ethRest l n k v p = .ok ⟨vecAt l 0 6, vecAt l 6 6, 0, (l.drop k).take n, v, p⟩ := by
 unfold ethRest
 rw [if_neg h1, if_pos h2, if_neg h3, if_neg h4]
theorem ethRest_bad (h1 : ¬ 1500 + k < l.length) (h2 : ¬ n ≤ 1500) (h3 : n < 1536 ∨ n = 33024) : ethRest l n k v p = .error 3 := by
 unfold ethRest
 rw [if_neg h1, if_neg h2, if_pos h3]
theorem ethRest_tyV (h1 : ¬ 1500 + k < l.length) (h2 : ¬ n ≤ 1500) (h3 : ¬ (n < 1536 ∨ n = 33024)) (h4 : 4094 < v) : ethRest l n k v p = .error 12 := by
 unfold ethRest
 rw [if_neg h1, if_neg h2, if_neg h3, if_pos h4]
theorem ethRest_ty (h1 : ¬ 1500 + k < l.length) (h2 : ¬ n ≤ 1500) (h3 : ¬ (n < 1536 ∨ n = 33024)) (h4 : ¬ 4094 < v) : ethRest l n k v p = .ok ⟨vecAt l 0 6, vecAt l 6 6, n, l.drop k, v, p⟩ := by
 unfold ethRest
 rw [if_neg h1, if_neg h2, if_neg h3, if_neg h4]
end
theorem numAt_take (l : List UInt8) (k n : Nat) (h : k + 2 ≤ n) : numAt (l.take n) k = numAt l k := by
 unfold numAt
 rw [List.drop_take, List.take_take, Nat.min_eq_left (by omega)]
theorem vecAt_take (l : List UInt8) (k m n : Nat) (h : k + m ≤ n) (hl : k + m ≤ l.length) : vecAt (l.take n) k m = vecAt l k m := by
 apply Vector.toList_inj.1
 rw [vecAt_toList _ _ _ (by simp; omega), vecAt_toList _ _ _ hl, List.drop_take, List.take_take, Nat.min_eq_left (by omega)]
theorem vecAt_mid {n : Nat} (a c : List UInt8) (v : Vector UInt8 n) (k : Nat) (h : a.length = k) : vecAt (a ++ (v.toList ++ c)) k n = v := by
 apply Vector.toList_inj.1
 rw [vecAt_toList _ _ _ (by simp; omega)]
 subst h
 rw [List.drop_left, List.take_left' (by simp)]
theorem numAt_mid (a b c : List UInt8) (k : Nat) (h : a.length = k) (hb : b.length = 2) : numAt (a ++ (b ++ c)) k = numN b := by
 unfold numAt
 subst h
 rw [List.drop_left, List.take_left' hb]
section
variable (dst src : Vector UInt8 6) (ty : Int) (body : List UInt8) (vlan prio : Int)
def tyN (ty : Int) (body : List UInt8) : Nat := (if ty = 0 then (body.length : Int) else ty).toNat
theorem ethS_dst : vecAt (ethS dst src ty body vlan prio) 0 6 = dst := by
 have := vecAt_mid [] (src.toList ++ (tagS vlan prio ++ (bytesN (tyN ty body) 2 ++ body))) dst 0 rfl
 simpa [ethS, tyN] using this
theorem ethS_src : vecAt (ethS dst src ty body vlan prio) 6 6 = src := by
 have := vecAt_mid dst.toList (tagS vlan prio ++ (bytesN (tyN ty body) 2 ++ body)) src 6 (by simp)
 simpa [ethS, tyN] using this
theorem ethS_plain : ethS dst src ty body (-1) prio = (dst.toList ++ src.toList) ++ (bytesN (tyN ty body) 2 ++ body) := by
 simp [ethS, tagS, tyN]
theorem ethS_tag (h : vlan ≠ -1) : ethS dst src ty body vlan prio = (dst.toList ++ src.toList) ++ (bytesN 33024 2 ++ (bytesN (prio * 8192 + vlan).toNat 2 ++ (bytesN (tyN ty body) 2 ++ body))) := by
 simp [ethS, tagS, tyN, h, tag_bytes]
theorem tyN_lt (hr : rightB ty vlan prio body.length = true) : tyN ty body < 65536 := by
 simp [rightB] at hr
 unfold tyN
 split <;> omega
end
theorem ethParse_cut (dst src : Vector UInt8 6) (ty : Int) (body : List UInt8) (vlan prio : Int) (n : Nat) (hr : rightB ty vlan prio body.length = true) (hn : n ≤ (ethS dst src ty body vlan prio).length) :
  ethParse ((ethS dst src ty body vlan prio).take n) =
   if n < (if 0 ≤ vlan then 18 else 14) then .error 2
   else if ty = 0 ∧ n < (ethS dst src ty body vlan prio).length then .error 2
   else .ok ⟨dst, src, ty, body.take (n - (if 0 ≤ vlan then 18 else 14)), vlan, prio⟩ := by
 have hlt := tyN_lt ty body vlan prio hr
 have hd := ethS_dst dst src ty body vlan prio
 have hs := ethS_src dst src ty body vlan prio
 have hr0 := hr
 simp [rightB] at hr0
 obtain ⟨⟨hty, hvl⟩, hsz⟩ := hr0
 obtain ⟨s, hS⟩ : ∃ s, ethS dst src ty body vlan prio = s := ⟨_, rfl⟩
 rw [hS] at hn hd hs ⊢
 have hlen : (s.take n).length = n := by simp; omega
 rcases hvl with ⟨rfl, rfl⟩ | ⟨⟨⟨hv0, hv1⟩, hp0⟩, hp1⟩
 ·
  rw [ethS_plain] at hS
  have hsl : s.length = 14 + body.length := by rw [← hS]; simp; omega
  have hn12 : numAt s 12 = tyN ty body := by
   rw [← hS, numAt_mid _ _ _ 12 (by simp) (by simp), numN_bytesN]
   omega
  have hd14 : s.drop 14 = body := by
   rw [← hS, ← List.append_assoc]
   exact List.drop_left' (by simp)
  rw [if_neg (by omega : ¬ (0 : Int) ≤ -1)]
  unfold ethParse
  rw [hlen]
  by_cases h14 : n < 14
  ·
   rw [if_pos h14, if_pos h14]
  have ht33 : tyN ty body ≠ 33024 := by unfold tyN; split <;> omega
  rw [if_neg h14, if_neg h14, numAt_take _ _ _ (by omega), hn12, if_neg ht33]
  unfold ethRest
  rw [hlen, vecAt_take _ _ _ _ (by omega) (by omega), vecAt_take _ _ _ _ (by omega) (by omega), hd, hs, List.drop_take, hd14, if_neg (by omega)]
  by_cases ht0 : ty = 0
  ·
   have htl : tyN ty body = body.length := by simp [tyN, ht0]
   rw [htl, if_pos (by omega)]
   by_cases hc : n < s.length
   ·
    rw [if_pos (by omega), if_pos ⟨ht0, hc⟩]
   ·
    rw [if_neg (by omega), if_neg (by omega), if_neg (by omega), List.take_take, ht0, show min body.length (n - 14) = n - 14 by omega]
  ·
   have htl : tyN ty body = ty.toNat := by simp [tyN, ht0]
   rw [htl, if_neg (by omega), if_neg (by omega), if_neg (by omega), if_neg (by omega), show ((ty.toNat : Nat) : Int) = ty by omega]
 ·
  rw [ethS_tag _ _ _ _ _ _ (by omega)] at hS
  have hsl : s.length = 18 + body.length := by rw [← hS]; simp; omega
  have hn12 : numAt s 12 = 33024 := by
   rw [← hS, numAt_mid _ _ _ 12 (by simp) (by simp), numN_bytesN]
  have hn14 : numAt s 14 = (prio * 8192 + vlan).toNat := by
   rw [← hS, ← List.append_assoc, numAt_mid _ _ _ 14 (by simp) (by simp), numN_bytesN]
   omega
  have hn16 : numAt s 16 = tyN ty body := by
   rw [← hS, ← List.append_assoc, ← List.append_assoc, numAt_mid _ _ _ 16 (by simp) (by simp), numN_bytesN]
   omega
  have hd18 : s.drop 18 = body := by
   rw [← hS, ← List.append_assoc, ← List.append_assoc, ← List.append_assoc]
   exact List.drop_left' (by simp)
  rw [if_pos hv0]
  unfold ethParse
  rw [hlen]
  by_cases h14 : n < 14
  ·
   rw [if_pos h14, if_pos (by omega)]
  rw [if_neg h14, numAt_take _ _ _ (by omega), hn12, if_pos rfl]
  by_cases h16 : n < 16
  ·
   rw [if_pos h16, if_pos (by omega)]
  rw [if_neg h16, numAt_take _ _ _ (by omega), hn14, if_neg (by omega)]
  by_cases h18 : n < 18
  ·
   rw [if_pos h18, if_pos (by omega)]
  rw [if_neg h18, if_neg h18, numAt_take _ _ _ (by omega), hn16]
  have hvv : (((prio * 8192 + vlan).toNat % 4096 : Nat) : Int) = vlan := by omega
  have hpp : (((prio * 8192 + vlan).toNat / 8192 : Nat) : Int) = prio := by omega
  rw [hvv, hpp]
  have ht33 : tyN ty body ≠ 33024 := by unfold tyN; split <;> omega
  unfold ethRest
  rw [hlen, vecAt_take _ _ _ _ (by omega) (by omega), vecAt_take _ _ _ _ (by omega) (by omega), hd, hs, List.drop_take, hd18, if_neg (by omega)]
  by_cases ht0 : ty = 0
  ·
   have htl : tyN ty body = body.length := by simp [tyN, ht0]
   rw [htl, if_pos (by omega)]
   by_cases hc : n < s.length
   ·
    rw [if_pos (by omega), if_pos ⟨ht0, hc⟩]
   ·
    rw [if_neg (by omega), if_neg (by omega), if_neg (by omega), List.take_take, ht0, show min body.length (n - 18) = n - 18 by omega]
  ·
   have htl : tyN ty body = ty.toNat := by simp [tyN, ht0]
   rw [htl, if_neg (by omega), if_neg (by omega), if_neg (by omega), if_neg (by omega), show ((ty.toNat : Nat) : Int) = ty by omega]
theorem ethS_len (dst src : Vector UInt8 6) (ty : Int) (body : List UInt8) (vlan prio : Int) (hr : rightB ty vlan prio body.length = true) :
  (ethS dst src ty body vlan prio).length = (if 0 ≤ vlan then 18 else 14) + body.length := by
 simp [rightB] at hr
 by_cases hv : vlan = -1
 ·
  subst hv
  simp [ethS, tagS]
  omega
 ·
  rw [if_pos (by omega)]
  simp [ethS, tagS, hv]
  omega
theorem ethParse_print (dst src : Vector UInt8 6) (ty : Int) (body : List UInt8) (vlan prio : Int) (hr : rightB ty vlan prio body.length = true) :
  ethParse (ethS dst src ty body vlan prio) = .ok ⟨dst, src, ty, body, vlan, prio⟩ := by
 have h := ethParse_cut dst src ty body vlan prio _ hr (Nat.le_refl _)
 have hl := ethS_len dst src ty body vlan prio hr
 rw [List.take_length] at h
 rw [h, hl, if_neg (by omega), if_neg (by omega), Nat.add_sub_cancel_left, List.take_length]
theorem two_numAt (l : List UInt8) (k : Nat) (h : k + 2 ≤ l.length) : bytesN (numAt l k) 2 = (l.drop k).take 2 := by
 have := bytesN_numN ((l.drop k).take 2)
 rwa [show ((l.drop k).take 2).length = 2 by simp; omega] at this
theorem take_split (l : List UInt8) (a b : Nat) : l.take (a + b) = l.take a ++ (l.drop a).take b := List.take_add
theorem ethParse_again (l : List UInt8) (d : EthD) (h : ethParse l = .ok d) :
  rightB d.ty d.vlan d.prio d.body.length = true ∧ (ethS d.dst d.src d.ty d.body d.vlan d.prio).length ≤ l.length ∧
   ethS d.dst d.src d.ty d.body d.vlan d.prio = l.take (ethS d.dst d.src d.ty d.body d.vlan d.prio).length := by
 unfold ethParse at h
 by_cases h14 : l.length < 14
 ·
  rw [if_pos h14] at h
  cases h
 rw [if_neg h14] at h
 have hd : (vecAt l 0 6).toList = l.take 6 := by rw [vecAt_toList _ _ _ (by omega), List.drop_zero]
 have hs : (vecAt l 6 6).toList = (l.drop 6).take 6 := vecAt_toList _ _ _ (by omega)
 have h12 := numAt_lt l 12
 have h14' := numAt_lt l 14
 have h16' := numAt_lt l 16
 by_cases htag : numAt l 12 = 33024
 ·
  rw [if_pos htag] at h
  by_cases h16 : l.length < 16
  ·
   rw [if_pos h16] at h
   cases h
  rw [if_neg h16] at h
  by_cases hst : numAt l 14 / 4096 % 2 = 1
  ·
   rw [if_pos hst] at h
   cases h
  rw [if_neg hst] at h
  by_cases h18 : l.length < 18
  ·
   rw [if_pos h18] at h
   cases h
  rw [if_neg h18] at h
  unfold ethRest at h
  by_cases hm : 1500 + 18 < l.length
  ·
   rw [if_pos hm] at h
   cases h
  rw [if_neg hm] at h
  have e1 : bytesN 33024 2 = (l.drop 12).take 2 := by rw [← htag]; exact two_numAt l 12 (by omega)
  have e2 : bytesN (((numAt l 14 / 8192 : Nat) : Int) * 8192 + ((numAt l 14 % 4096 : Nat) : Int)).toNat 2 = (l.drop 14).take 2 := by
   rw [← two_numAt l 14 (by omega)]
   congr 1
   omega
  have e3 := two_numAt l 16 (by omega)
  have hne : ((numAt l 14 % 4096 : Nat) : Int) ≠ -1 := by omega
  have e18 : l.take 18 = l.take 6 ++ ((l.drop 6).take 6 ++ ((l.drop 12).take 2 ++ ((l.drop 14).take 2 ++ (l.drop 16).take 2))) := by
   rw [take_split l 16 2, take_split l 14 2, take_split l 12 2, take_split l 6 6]
   simp
  by_cases hn : numAt l 16 ≤ 1500
  ·
   rw [if_pos hn] at h
   by_cases hsh : l.length < 18 + numAt l 16
   ·
    rw [if_pos hsh] at h
    cases h
   rw [if_neg hsh] at h
   by_cases hv : (4094 : Int) < ((numAt l 14 % 4096 : Nat) : Int)
   ·
    rw [if_pos hv] at h
    cases h
   rw [if_neg hv] at h
   cases h
   have hr : rightB 0 ((numAt l 14 % 4096 : Nat) : Int) ((numAt l 14 / 8192 : Nat) : Int) ((l.drop 18).take (numAt l 16)).length = true := by
    simp [rightB]
    omega
   have hbl : ((l.drop 18).take (numAt l 16)).length = numAt l 16 := by simp; omega
   have hlen := ethS_len (vecAt l 0 6) (vecAt l 6 6) 0 ((l.drop 18).take (numAt l 16)) _ _ hr
   rw [if_pos (by omega), hbl] at hlen
   refine ⟨hr, by rw [hlen]; omega, ?_⟩
   rw [hlen, take_split l 18, e18, ethS_tag _ _ _ _ _ _ hne, e1, e2, hd, hs]
   simp [tyN, show min (numAt l 16) (l.length - 18) = numAt l 16 by omega, e3]
  ·
   rw [if_neg hn] at h
   by_cases hb : numAt l 16 < 1536 ∨ numAt l 16 = 33024
   ·
    rw [if_pos hb] at h
    cases h
   rw [if_neg hb] at h
   by_cases hv : (4094 : Int) < ((numAt l 14 % 4096 : Nat) : Int)
   ·
    rw [if_pos hv] at h
    cases h
   rw [if_neg hv] at h
   cases h
   have hr : rightB (numAt l 16) ((numAt l 14 % 4096 : Nat) : Int) ((numAt l 14 / 8192 : Nat) : Int) (l.drop 18).length = true := by
    simp [rightB]
    omega
   have hlen := ethS_len (vecAt l 0 6) (vecAt l 6 6) (numAt l 16) (l.drop 18) _ _ hr
   rw [if_pos (by omega)] at hlen
   have hlen2 : 18 + (l.drop 18).length = l.length := by simp; omega
   rw [hlen2] at hlen
   refine ⟨hr, by rw [hlen]; omega, ?_⟩
   have h0 : ¬ (numAt l 16 : Int) = 0 := by omega
   rw [hlen, List.take_length, ethS_tag _ _ _ _ _ _ hne, e1, e2, hd, hs]
   conv => rhs; rw [← List.take_append_drop 18 l, e18]
   simp [tyN, h0, e3, show numAt l 16 ≠ 0 by omega]
 ·
  rw [if_neg htag] at h
  unfold ethRest at h
  by_cases hm : 1500 + 14 < l.length
  ·
   rw [if_pos hm] at h
   cases h
  rw [if_neg hm] at h
  have e3 := two_numAt l 12 (by omega)
  have e14 : l.take 14 = l.take 6 ++ ((l.drop 6).take 6 ++ (l.drop 12).take 2) := by
   rw [take_split l 12 2, take_split l 6 6]
   simp
  by_cases hn : numAt l 12 ≤ 1500
  ·
   rw [if_pos hn] at h
   by_cases hsh : l.length < 14 + numAt l 12
   ·
    rw [if_pos hsh] at h
    cases h
   rw [if_neg hsh, if_neg (by omega)] at h
   cases h
   have hr : rightB 0 (-1) 0 ((l.drop 14).take (numAt l 12)).length = true := by
    simp [rightB]
    omega
   have hbl : ((l.drop 14).take (numAt l 12)).length = numAt l 12 := by simp; omega
   have hlen := ethS_len (vecAt l 0 6) (vecAt l 6 6) 0 ((l.drop 14).take (numAt l 12)) _ _ hr
   rw [if_neg (by omega), hbl] at hlen
   refine ⟨hr, by rw [hlen]; omega, ?_⟩
   rw [hlen, take_split l 14, e14, ethS_plain, hd, hs]
   simp [tyN, show min (numAt l 12) (l.length - 14) = numAt l 12 by omega, e3]
  ·
   rw [if_neg hn] at h
   by_cases hb : numAt l 12 < 1536 ∨ numAt l 12 = 33024
   ·
    rw [if_pos hb] at h
    cases h
   rw [if_neg hb, if_neg (by omega)] at h
   cases h
   have hr : rightB (numAt l 12) (-1) 0 (l.drop 14).length = true := by
    simp [rightB]
    omega
   have hlen := ethS_len (vecAt l 0 6) (vecAt l 6 6) (numAt l 12) (l.drop 14) _ _ hr
   rw [if_neg (by omega)] at hlen
   have hlen2 : 14 + (l.drop 14).length = l.length := by simp; omega
   rw [hlen2] at hlen
   refine ⟨hr, by rw [hlen]; omega, ?_⟩
   rw [hlen, List.take_length, ethS_plain, hd, hs]
   conv => rhs; rw [← List.take_append_drop 14 l, e14]
   simp [tyN, e3, show numAt l 12 ≠ 0 by omega]
end Go.Proofs.Ytckckabedgpbiaa
