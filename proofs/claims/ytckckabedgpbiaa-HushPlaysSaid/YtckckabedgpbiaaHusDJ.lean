/- Contracts of package hush: what a frame with a message of chapter 10 announces; any frame, by the program and by the reference. -/
import Derived.Test.YtckckabedgpbiaaHusBJ
import Derived.Test.YtckckabedgpbiaaHusNJ
import Derived.Test.YtckckabedgpbiaaHusRJ
set_option linter.unusedSimpArgs false
set_option linter.unusedVariables false
set_option maxRecDepth 4000
namespace Go.Proofs.Ytckckabedgpbiaa
open Go.RowKit
section
variable (dst src : Vector UInt8 6) (body : List UInt8)
variable (op : Int) (fr to ab : Vector UInt8 16) (mac : Vector UInt8 6) (has : Bool) (fl : Vector UInt8 4) (ipl : List UInt8)
theorem hAnn_nd_err (er : Int) (he : (er == 0) = false) (HP : ParsesN body (ndV op fr to ab mac has fl) er) :
  AnnC dst src 34525 body [] mac0 false := by
 intro w
 unfold frameV
 unfold ParsesN ndV at HP
 have K := Lib.hid HP
 clear HP
 go_enter Try.func17, Try.ntmps17
 go_wp2_with fail
 (with_reducible refine (K.out _).mono ?_)
 rintro e w1 ⟨rfl, b1⟩
 have z1 := b1.size
 simp at z1
 have rR : row w1 (w.heap.size + 1) = (Value.string ⟨#[]⟩ :: u8v mac0).toArray := by rw [row_below b1 (by simp)]; simp [go_sem]
 have rB : row w1 (w.heap.size + 1 + 1) = (Value.string ⟨#[]⟩ :: u8v mac0).toArray := by rw [row_below b1 (by simp)]; simp [go_sem]
 have B1 : Below w.heap.size w w1 := Below.trans (by (repeat (first | exact Below.refl _ _ | refine Below.al ?_ _ | refine Below.drew ?_ | refine Below.sr ?_ _ | refine Below.sc ?_ _))) (b1.mono (by simp; omega))
 clear b1
 have q1 : w.heap.size < w1.heap.size := by omega
 have q2 : w.heap.size + 1 < w1.heap.size := by omega
 have q3 : w.heap.size + 1 + 1 < w1.heap.size := by omega
 go_wp2_with fail
 have hfin : row ((w1).setRow (w.heap.size + 1) (Value.string ⟨#[]⟩ :: u8v mac0).toArray) (w.heap.size + 1) = (Value.string ⟨#[]⟩ :: u8v mac0).toArray := row_setRow_same (by simp [rR]) (by simp [rR])
 (try simp only [Exit.inBlock, Exit.then])
 refine bodyPost_ret (results_2 rfl (resOk_row rfl ?_) resOk_tmp) rfl ?_
 ·
  (try rw [row_alloc_past _ _ (by simp; omega)])
  rw [hfin]
  try simp
 ·
  refine ⟨by (try rw [row_alloc_past _ _ (by simp; omega)]); rw [hfin]; try simp, ?_⟩
  first | exact Below.setRow B1 (by omega) _ | exact Below.alloc (Below.setRow B1 (by omega) _) (by simp; omega) _
theorem hAnn_nd_no (HP : ParsesN body (ndV op fr to ab mac has fl) 0) (HF0 : ∀ w, Calls Try.prog 49 #[.agg (ndV op fr to ab mac has fl).toArray] w fun e w' => e = .returned (.tuple #[.agg (Value.string ⟨ipl.toArray⟩ :: u8v mac).toArray, .bool false]) ∧ Below w.heap.size w w') : AnnC dst src 34525 body [] mac0 false := by
 intro w
 unfold ndV at HF0
 have HF := Lib.hid HF0
 clear HF0
 unfold frameV
 unfold ParsesN ndV at HP
 have K := Lib.hid HP
 clear HP
 go_enter Try.func17, Try.ntmps17
 go_wp2_with fail
 (with_reducible refine (K.out _).mono ?_)
 rintro e w1 ⟨rfl, b1⟩
 have z1 := b1.size
 simp at z1
 have rR : row w1 (w.heap.size + 1) = (Value.string ⟨#[]⟩ :: u8v mac0).toArray := by rw [row_below b1 (by simp)]; simp [go_sem]
 have rB : row w1 (w.heap.size + 1 + 1) = (Value.string ⟨#[]⟩ :: u8v mac0).toArray := by rw [row_below b1 (by simp)]; simp [go_sem]
 have B1 : Below w.heap.size w w1 := Below.trans (by (repeat (first | exact Below.refl _ _ | refine Below.al ?_ _ | refine Below.drew ?_ | refine Below.sr ?_ _ | refine Below.sc ?_ _))) (b1.mono (by simp; omega))
 clear b1
 have q1 : w.heap.size < w1.heap.size := by omega
 have q2 : w.heap.size + 1 < w1.heap.size := by omega
 have q3 : w.heap.size + 1 + 1 < w1.heap.size := by omega
 go_wp2_with fail
 (with_reducible refine (HF.out _).mono ?_)
 rintro e w2 ⟨rfl, b2⟩
 have z2 := b2.size
 simp at z2
 have B2 : Below w.heap.size w w2 := B1.trans (Below.trans (Below.alloc (Below.refl _ _) (by omega) _) (b2.mono (by simp; omega)))
 replace rR : row w2 (w.heap.size + 1) = (Value.string ⟨#[]⟩ :: u8v mac0).toArray := by rw [row_below b2 (by simp; omega), row_alloc_past _ _ q2, rR]
 replace rB : row w2 (w.heap.size + 1 + 1) = (Value.string ⟨#[]⟩ :: u8v mac0).toArray := by rw [row_below b2 (by simp; omega), row_alloc_past _ _ q3, rB]
 have p1 : w.heap.size < w2.heap.size := by omega
 have p2 : w.heap.size + 1 < w2.heap.size := by omega
 have p3 : w.heap.size + 1 + 1 < w2.heap.size := by omega
 clear b2
 obtain ⟨w3, hw3⟩ : ∃ x, w2.setRow (w.heap.size + 1 + 1) (Value.string ⟨ipl.toArray⟩ :: u8v mac).toArray = x := ⟨_, rfl⟩
 have z3 : w3.heap.size = w2.heap.size := by rw [← hw3, setRow_size]
 have B3 : Below w.heap.size w w3 := by rw [← hw3]; exact Below.setRow B2 (by omega) _
 have rB3 : row w3 (w.heap.size + 1 + 1) = (Value.string ⟨ipl.toArray⟩ :: u8v mac).toArray := by rw [← hw3]; exact row_setRow_same (by rw [rB]; simp) (by rw [rB]; simp)
 have rR3 : row w3 (w.heap.size + 1) = (Value.string ⟨#[]⟩ :: u8v mac0).toArray := by rw [← hw3, row_setRow_other _ _ _ (by omega), rR]
 clear rR
 have rR := rR3
 go_wp2_with fail
 clear hw3
 have hfin : row ((w3).setRow (w.heap.size + 1) (Value.string ⟨#[]⟩ :: u8v mac0).toArray) (w.heap.size + 1) = (Value.string ⟨#[]⟩ :: u8v mac0).toArray := row_setRow_same (by simp [rR]) (by simp [rR])
 (try simp only [Exit.inBlock, Exit.then])
 refine bodyPost_ret (results_2 rfl (resOk_row rfl ?_) resOk_tmp) rfl ?_
 ·
  (try rw [row_alloc_past _ _ (by simp; omega)])
  rw [hfin]
  try simp
 ·
  refine ⟨by (try rw [row_alloc_past _ _ (by simp; omega)]); rw [hfin]; try simp, ?_⟩
  first | exact Below.setRow B3 (by omega) _ | exact Below.alloc (Below.setRow B3 (by omega) _) (by simp; omega) _
theorem hAnn_nd_grp (HP : ParsesN body (ndV op fr to ab mac has fl) 0) (HF0 : ∀ w, Calls Try.prog 49 #[.agg (ndV op fr to ab mac has fl).toArray] w fun e w' => e = .returned (.tuple #[.agg (Value.string ⟨ipl.toArray⟩ :: u8v mac).toArray, .bool true]) ∧ Below w.heap.size w w') (hg : grp mac = true) : AnnC dst src 34525 body [] mac0 false := by
 have HG := Lib.hid (fun w => group_any mac w)
 rw [hg] at HG
 intro w
 unfold ndV at HF0
 have HF := Lib.hid HF0
 clear HF0
 unfold frameV
 unfold ParsesN ndV at HP
 have K := Lib.hid HP
 clear HP
 go_enter Try.func17, Try.ntmps17
 go_wp2_with fail
 (with_reducible refine (K.out _).mono ?_)
 rintro e w1 ⟨rfl, b1⟩
 have z1 := b1.size
 simp at z1
 have rR : row w1 (w.heap.size + 1) = (Value.string ⟨#[]⟩ :: u8v mac0).toArray := by rw [row_below b1 (by simp)]; simp [go_sem]
 have rB : row w1 (w.heap.size + 1 + 1) = (Value.string ⟨#[]⟩ :: u8v mac0).toArray := by rw [row_below b1 (by simp)]; simp [go_sem]
 have B1 : Below w.heap.size w w1 := Below.trans (by (repeat (first | exact Below.refl _ _ | refine Below.al ?_ _ | refine Below.drew ?_ | refine Below.sr ?_ _ | refine Below.sc ?_ _))) (b1.mono (by simp; omega))
 clear b1
 have q1 : w.heap.size < w1.heap.size := by omega
 have q2 : w.heap.size + 1 < w1.heap.size := by omega
 have q3 : w.heap.size + 1 + 1 < w1.heap.size := by omega
 go_wp2_with fail
 (with_reducible refine (HF.out _).mono ?_)
 rintro e w2 ⟨rfl, b2⟩
 have z2 := b2.size
 simp at z2
 have B2 : Below w.heap.size w w2 := B1.trans (Below.trans (Below.alloc (Below.refl _ _) (by omega) _) (b2.mono (by simp; omega)))
 replace rR : row w2 (w.heap.size + 1) = (Value.string ⟨#[]⟩ :: u8v mac0).toArray := by rw [row_below b2 (by simp; omega), row_alloc_past _ _ q2, rR]
 replace rB : row w2 (w.heap.size + 1 + 1) = (Value.string ⟨#[]⟩ :: u8v mac0).toArray := by rw [row_below b2 (by simp; omega), row_alloc_past _ _ q3, rB]
 have p1 : w.heap.size < w2.heap.size := by omega
 have p2 : w.heap.size + 1 < w2.heap.size := by omega
 have p3 : w.heap.size + 1 + 1 < w2.heap.size := by omega
 clear b2
 obtain ⟨w3, hw3⟩ : ∃ x, w2.setRow (w.heap.size + 1 + 1) (Value.string ⟨ipl.toArray⟩ :: u8v mac).toArray = x := ⟨_, rfl⟩
 have z3 : w3.heap.size = w2.heap.size := by rw [← hw3, setRow_size]
 have B3 : Below w.heap.size w w3 := by rw [← hw3]; exact Below.setRow B2 (by omega) _
 have rB3 : row w3 (w.heap.size + 1 + 1) = (Value.string ⟨ipl.toArray⟩ :: u8v mac).toArray := by rw [← hw3]; exact row_setRow_same (by rw [rB]; simp) (by rw [rB]; simp)
 have rR3 : row w3 (w.heap.size + 1) = (Value.string ⟨#[]⟩ :: u8v mac0).toArray := by rw [← hw3, row_setRow_other _ _ _ (by omega), rR]
 clear rR
 have rR := rR3
 go_wp2_with fail
 clear hw3
 (with_reducible refine (HG.out _).mono ?_)
 rintro e w4 ⟨rfl, b4⟩
 have z4 := b4.size
 have B4 : Below w.heap.size w w4 := B3.trans (b4.mono (by omega))
 replace rR : row w4 (w.heap.size + 1) = (Value.string ⟨#[]⟩ :: u8v mac0).toArray := by rw [row_below b4 (by omega), rR]
 have p4 : w.heap.size + 1 < w4.heap.size := by omega
 clear b4
 go_wp2_with fail
 have hfin : row ((w4).setRow (w.heap.size + 1) (Value.string ⟨#[]⟩ :: u8v mac0).toArray) (w.heap.size + 1) = (Value.string ⟨#[]⟩ :: u8v mac0).toArray := row_setRow_same (by simp [rR]) (by simp [rR])
 (try simp only [Exit.inBlock, Exit.then])
 refine bodyPost_ret (results_2 rfl (resOk_row rfl ?_) resOk_tmp) rfl ?_
 ·
  (try rw [row_alloc_past _ _ (by simp; omega)])
  rw [hfin]
  try simp
 ·
  refine ⟨by (try rw [row_alloc_past _ _ (by simp; omega)]); rw [hfin]; try simp, ?_⟩
  first | exact Below.setRow B4 (by omega) _ | exact Below.alloc (Below.setRow B4 (by omega) _) (by simp; omega) _
theorem hAnn_nd_ok (HP : ParsesN body (ndV op fr to ab mac has fl) 0) (HF0 : ∀ w, Calls Try.prog 49 #[.agg (ndV op fr to ab mac has fl).toArray] w fun e w' => e = .returned (.tuple #[.agg (Value.string ⟨ipl.toArray⟩ :: u8v mac).toArray, .bool true]) ∧ Below w.heap.size w w') (hg : grp mac = false) : AnnC dst src 34525 body ipl mac true := by
 have HG := Lib.hid (fun w => group_any mac w)
 rw [hg] at HG
 intro w
 unfold ndV at HF0
 have HF := Lib.hid HF0
 clear HF0
 unfold frameV
 unfold ParsesN ndV at HP
 have K := Lib.hid HP
 clear HP
 go_enter Try.func17, Try.ntmps17
 go_wp2_with fail
 (with_reducible refine (K.out _).mono ?_)
 rintro e w1 ⟨rfl, b1⟩
 have z1 := b1.size
 simp at z1
 have rR : row w1 (w.heap.size + 1) = (Value.string ⟨#[]⟩ :: u8v mac0).toArray := by rw [row_below b1 (by simp)]; simp [go_sem]
 have rB : row w1 (w.heap.size + 1 + 1) = (Value.string ⟨#[]⟩ :: u8v mac0).toArray := by rw [row_below b1 (by simp)]; simp [go_sem]
 have B1 : Below w.heap.size w w1 := Below.trans (by (repeat (first | exact Below.refl _ _ | refine Below.al ?_ _ | refine Below.drew ?_ | refine Below.sr ?_ _ | refine Below.sc ?_ _))) (b1.mono (by simp; omega))
 clear b1
 have q1 : w.heap.size < w1.heap.size := by omega
 have q2 : w.heap.size + 1 < w1.heap.size := by omega
 have q3 : w.heap.size + 1 + 1 < w1.heap.size := by omega
 go_wp2_with fail
 (with_reducible refine (HF.out _).mono ?_)
 rintro e w2 ⟨rfl, b2⟩
 have z2 := b2.size
 simp at z2
 have B2 : Below w.heap.size w w2 := B1.trans (Below.trans (Below.alloc (Below.refl _ _) (by omega) _) (b2.mono (by simp; omega)))
 replace rR : row w2 (w.heap.size + 1) = (Value.string ⟨#[]⟩ :: u8v mac0).toArray := by rw [row_below b2 (by simp; omega), row_alloc_past _ _ q2, rR]
 replace rB : row w2 (w.heap.size + 1 + 1) = (Value.string ⟨#[]⟩ :: u8v mac0).toArray := by rw [row_below b2 (by simp; omega), row_alloc_past _ _ q3, rB]
 have p1 : w.heap.size < w2.heap.size := by omega
 have p2 : w.heap.size + 1 < w2.heap.size := by omega
 have p3 : w.heap.size + 1 + 1 < w2.heap.size := by omega
 clear b2
 obtain ⟨w3, hw3⟩ : ∃ x, w2.setRow (w.heap.size + 1 + 1) (Value.string ⟨ipl.toArray⟩ :: u8v mac).toArray = x := ⟨_, rfl⟩
 have z3 : w3.heap.size = w2.heap.size := by rw [← hw3, setRow_size]
 have B3 : Below w.heap.size w w3 := by rw [← hw3]; exact Below.setRow B2 (by omega) _
 have rB3 : row w3 (w.heap.size + 1 + 1) = (Value.string ⟨ipl.toArray⟩ :: u8v mac).toArray := by rw [← hw3]; exact row_setRow_same (by rw [rB]; simp) (by rw [rB]; simp)
 have rR3 : row w3 (w.heap.size + 1) = (Value.string ⟨#[]⟩ :: u8v mac0).toArray := by rw [← hw3, row_setRow_other _ _ _ (by omega), rR]
 clear rR
 have rR := rR3
 go_wp2_with fail
 clear hw3
 (with_reducible refine (HG.out _).mono ?_)
 rintro e w4 ⟨rfl, b4⟩
 have z4 := b4.size
 have B4 : Below w.heap.size w w4 := B3.trans (b4.mono (by omega))
 replace rR : row w4 (w.heap.size + 1) = (Value.string ⟨#[]⟩ :: u8v mac0).toArray := by rw [row_below b4 (by omega), rR]
 have rB4 : row w4 (w.heap.size + 1 + 1) = (Value.string ⟨ipl.toArray⟩ :: u8v mac).toArray := by rw [row_below b4 (by omega), rB3]
 have p4 : w.heap.size + 1 < w4.heap.size := by omega
 have p5 : w.heap.size + 1 + 1 < w4.heap.size := by omega
 clear b4
 go_wp2_with fail
 have hfin : row ((w4).setRow (w.heap.size + 1) (Value.string ⟨ipl.toArray⟩ :: u8v mac).toArray) (w.heap.size + 1) = (Value.string ⟨ipl.toArray⟩ :: u8v mac).toArray := row_setRow_same (by simp [rR]) (by simp [rR])
 (try simp only [Exit.inBlock, Exit.then])
 refine bodyPost_ret (results_2 rfl (resOk_row rfl ?_) resOk_tmp) rfl ?_
 ·
  (try rw [row_alloc_past _ _ (by simp; omega)])
  rw [hfin]
  try simp
 ·
  refine ⟨by (try rw [row_alloc_past _ _ (by simp; omega)]); rw [hfin]; try simp, ?_⟩
  first | exact Below.setRow B4 (by omega) _ | exact Below.alloc (Below.setRow B4 (by omega) _) (by simp; omega) _
end
structure AnnBoth (dst src : Vector UInt8 6) (ty : Int) (body : List UInt8) (ip : List UInt8) (mac : Vector UInt8 6) (ok : Bool) : Prop where
 prog : AnnC dst src ty body ip mac ok
 ref : RAnnC dst src ty body ip mac ok
 no : ok = false → ip = [] ∧ mac = mac0
 len : ok = true → ip ≠ [] ∧ ip.length ≤ 16 ∧ grp mac = false ∧ (ip.length = 4 → ip ≠ List.replicate 4 0)
theorem ann_both (dst src : Vector UInt8 6) (ty : Int) (body : List UInt8) (hb : body.length ≤ 10000) : ∃ ip mac ok, AnnBoth dst src ty body ip mac ok := by
 have no : AnnC dst src ty body [] mac0 false → RAnnC dst src ty body [] mac0 false → ∃ ip mac ok, AnnBoth dst src ty body ip mac ok := fun h1 h2 => ⟨[], mac0, false, h1, h2, fun _ => ⟨rfl, rfl⟩, fun h => by cases h⟩
 have ne : ∀ {n : Nat} (v : Vector UInt8 (n + 1)), v.toList ≠ [] := fun v h => by have := congrArg List.length h; simp at this
 by_cases h1 : (ty == 2054) = true
 ·
  have e : ty = 2054 := by simpa using h1
  subst e
  obtain ⟨o, m, t, i, x, er, hP, hR⟩ := parse_both body hb
  by_cases he : (er == 0) = true
  ·
   have e0 : er = 0 := by simpa using he
   subst e0
   by_cases hz : (i != Vector.replicate 4 0) = true
   ·
    by_cases hg : grp m = true
    ·
     exact no (hAnn_arp_grp _ _ _ o m t i x hP hz hg) (rAnn_arp_grp _ _ _ o m t i x hR hz hg)
    ·
     have hg' : grp m = false := by simpa using hg
     exact ⟨_, _, true, hAnn_arp_ok _ _ _ o m t i x hP hz hg', rAnn_arp_ok _ _ _ o m t i x hR hz hg', fun h => (by cases h), fun _ => ⟨ne _, by simp, hg', fun _ h => by
      have e : i = Vector.replicate 4 0 := by
       apply Vector.toList_inj.1
       rw [h]
       rfl
      rw [e] at hz
      exact absurd hz (by simp)⟩⟩
   ·
    have hz' := Bool.eq_false_iff.2 hz
    exact no (hAnn_arp_zero _ _ _ o m t i x hP hz') (rAnn_arp_zero _ _ _ o m t i x hR hz')
  ·
   have he' := Bool.eq_false_iff.2 he
   exact no (hAnn_arp_err _ _ _ o m t i x er he' hP) (rAnn_arp_err _ _ _ o m t i x er hR he')
 have h1' := Bool.eq_false_iff.2 h1
 by_cases h2 : (ty == 34525) = true
 ·
  have e : ty = 34525 := by simpa using h2
  subst e
  obtain ⟨o, fr, to, ab, m, hs, fl, er, hB⟩ := nd_both body hb
  by_cases he : (er == 0) = true
  ·
   have e0 : er = 0 := by simpa using he
   subst e0
   obtain ⟨ho, hm⟩ := hB.good rfl
   have hP := hB.prog
   have hR := hB.ref
   rcases ho with rfl | rfl
   ·
    cases hs with
    | false => exact no (hAnn_nd_no _ _ _ _ _ _ _ _ _ _ _ hP (fun w => hSixteen_qn fr to ab m fl w)) (rAnn_nd_not1 _ _ _ _ _ _ _ _ hR)
    | true =>
     by_cases hz : (fr != Vector.replicate 16 0) = true
     ·
      have HS : ∀ w, Calls Try.prog 49 #[.agg (ndV 1 fr to ab m true fl).toArray] w fun e w' => e = .returned (.tuple #[.agg (Value.string ⟨fr.toList.toArray⟩ :: u8v m).toArray, .bool true]) ∧ Below w.heap.size w w' := fun w => by
       have := hSixteen_q fr to ab m fl w
       rw [hz] at this
       exact this
      by_cases hg : grp m = true
      ·
       exact no (hAnn_nd_grp _ _ _ _ _ _ _ _ _ _ _ hP HS hg) (rAnn_nd_qgrp _ _ _ _ _ _ _ _ hR hz hg)
      ·
       have hg' : grp m = false := by simpa using hg
       exact ⟨_, _, true, hAnn_nd_ok _ _ _ _ _ _ _ _ _ _ _ hP HS hg', rAnn_nd_q _ _ _ _ _ _ _ _ hR hz hg', fun h => (by cases h), fun _ => ⟨ne _, by simp, hg', fun h => by simp at h⟩⟩
     ·
      have hz' := Bool.eq_false_iff.2 hz
      have HS : ∀ w, Calls Try.prog 49 #[.agg (ndV 1 fr to ab m true fl).toArray] w fun e w' => e = .returned (.tuple #[.agg (Value.string ⟨fr.toList.toArray⟩ :: u8v m).toArray, .bool false]) ∧ Below w.heap.size w w' := fun w => by
       have := hSixteen_q fr to ab m fl w
       rw [hz'] at this
       exact this
      exact no (hAnn_nd_no _ _ _ _ _ _ _ _ _ _ _ hP HS) (rAnn_nd_zero _ _ _ _ _ _ _ _ hR hz')
   ·
    cases hs with
    | false => exact no (hAnn_nd_no _ _ _ _ _ _ _ _ _ _ _ hP (fun w => hSixteen_a 2 fr to ab m false fl w rfl)) (rAnn_nd_not2 _ _ _ _ _ _ _ _ hR)
    | true =>
     have HS := fun w => hSixteen_a 2 fr to ab m true fl w rfl
     by_cases hg : grp m = true
     ·
      exact no (hAnn_nd_grp _ _ _ _ _ _ _ _ _ _ _ hP HS hg) (rAnn_nd_agrp _ _ _ _ _ _ _ _ hR hg)
     ·
      have hg' : grp m = false := by simpa using hg
      exact ⟨_, _, true, hAnn_nd_ok _ _ _ _ _ _ _ _ _ _ _ hP HS hg', rAnn_nd_a _ _ _ _ _ _ _ _ hR hg', fun h => (by cases h), fun _ => ⟨ne _, by simp, hg', fun h => by simp at h⟩⟩
  ·
   have he' := Bool.eq_false_iff.2 he
   exact no (hAnn_nd_err _ _ _ _ _ _ _ _ _ _ er he' hB.prog) (rAnn_nd_err _ _ _ _ _ _ _ _ o hs er hB.ref he')
 have h2' := Bool.eq_false_iff.2 h2
 exact no (hAnn_other _ _ _ ty h1' h2') (rAnn_other _ _ _ ty h1' h2')
end Go.Proofs.Ytckckabedgpbiaa
