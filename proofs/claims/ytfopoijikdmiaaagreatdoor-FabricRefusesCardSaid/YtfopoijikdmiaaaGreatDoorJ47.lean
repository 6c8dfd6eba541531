/- Texts of this proof, merged: HusG, HusF. -/
import Derived.Test.YtfopoijikdmiaaaGreatDoorJ23
import Derived.Test.YtfopoijikdmiaaaGreatDoorJ45
import Derived.Test.YtfopoijikdmiaaaGreatDoorJ46
import Derived.Test.YtfopoijikdmiaaaGreatDoorJ44
set_option linter.unusedSimpArgs false
set_option linter.unusedVariables false
set_option maxHeartbeats 8000000
set_option maxRecDepth 20000
namespace Go.Proofs.YtfopoijikdmiaaaGreatDoor
section
open Go.RowKit
section
variable (dst src : Vector UInt8 6) (body : List UInt8)
variable (op : Int) (fr to ab : Vector UInt8 16) (mac : Vector UInt8 6) (has : Bool) (fl : Vector UInt8 4) (ipl : List UInt8)
theorem hAnn_nd_err (er : Int) (he : (er == 0) = false) (HP : ParsesN body (ndV op fr to ab mac has fl) er) :
  AnnC dst src 34525 body [] mac0 false := by
 intro w
 unfold frameV
 unfold ParsesN ndV at HP
 have K := h_ HP
 clear HP
 go_enter Tryz.func189, Tryz.ntmps189
 go_wp2_with fail
 (with_reducible refine (K.out _).mono ?_)
 rintro e w1 ⟨rfl, b1⟩
 have z1 := b1.size
 simp at z1
 have rR : row w1 (w.heap.size + 1) = (Value.string ⟨#[]⟩ :: u8v mac0).toArray := by rw [row_below b1 (by simp)]; simp [go_sem]
 have rB : row w1 (w.heap.size + 1 + 1) = (Value.string ⟨#[]⟩ :: u8v mac0).toArray := by rw [row_below b1 (by simp)]; simp [go_sem]
 have B1 : Below w.heap.size w w1 := Below.trans blw_ (b1.mono (by simp; omega))
 clear b1
 have q1 : w.heap.size < w1.heap.size := by omega
 have q2 : w.heap.size + 1 < w1.heap.size := by omega
 have q3 : w.heap.size + 1 + 1 < w1.heap.size := by omega
 go_wp2_with fail
 have hfin : row ((w1).setRow (w.heap.size + 1) (Value.string ⟨#[]⟩ :: u8v mac0).toArray) (w.heap.size + 1) = (Value.string ⟨#[]⟩ :: u8v mac0).toArray := row_setRow_same (by simp [rR]) (by simp [rR])
 (try simp only [Exit.inBlock, Exit.then])
 refine bodyPost_ret (results_2 rfl (resOk_row rfl ?_) resOk_tmp) rfl ?_
 ·
  (try rw [row_alloc_past _ _ (by simp; omega)])
  rw [hfin]
  try simp
 ·
  refine ⟨by (try rw [row_alloc_past _ _ (by simp; omega)]); rw [hfin]; try simp, ?_⟩
  first | exact Below.setRow B1 (by omega) _ | exact Below.alloc (Below.setRow B1 (by omega) _) (by simp; omega) _
theorem hAnn_nd_no (HP : ParsesN body (ndV op fr to ab mac has fl) 0) (HF0 : ∀ w, Calls Tryz.prog 242 #[.agg (ndV op fr to ab mac has fl).toArray] w fun e w' => e = .returned (.tuple #[.agg (Value.string ⟨ipl.toArray⟩ :: u8v mac).toArray, .bool false]) ∧ Below w.heap.size w w') : AnnC dst src 34525 body [] mac0 false := by
 intro w
 unfold ndV at HF0
 have HF := h_ HF0
 clear HF0
 unfold frameV
 unfold ParsesN ndV at HP
 have K := h_ HP
 clear HP
 go_enter Tryz.func189, Tryz.ntmps189
 go_wp2_with fail
 (with_reducible refine (K.out _).mono ?_)
 rintro e w1 ⟨rfl, b1⟩
 have z1 := b1.size
 simp at z1
 have rR : row w1 (w.heap.size + 1) = (Value.string ⟨#[]⟩ :: u8v mac0).toArray := by rw [row_below b1 (by simp)]; simp [go_sem]
 have rB : row w1 (w.heap.size + 1 + 1) = (Value.string ⟨#[]⟩ :: u8v mac0).toArray := by rw [row_below b1 (by simp)]; simp [go_sem]
 have B1 : Below w.heap.size w w1 := Below.trans blw_ (b1.mono (by simp; omega))
 clear b1
 have q1 : w.heap.size < w1.heap.size := by omega
 have q2 : w.heap.size + 1 < w1.heap.size := by omega
 have q3 : w.heap.size + 1 + 1 < w1.heap.size := by omega
 go_wp2_with fail
 (with_reducible refine (HF.out _).mono ?_)
 rintro e w2 ⟨rfl, b2⟩
 have z2 := b2.size
 simp at z2
 have B2 : Below w.heap.size w w2 := B1.trans (Below.trans (Below.alloc (Below.refl _ _) (by omega) _) (b2.mono (by simp; omega)))
 replace rR : row w2 (w.heap.size + 1) = (Value.string ⟨#[]⟩ :: u8v mac0).toArray := by rw [row_below b2 (by simp; omega), row_alloc_past _ _ q2, rR]
 replace rB : row w2 (w.heap.size + 1 + 1) = (Value.string ⟨#[]⟩ :: u8v mac0).toArray := by rw [row_below b2 (by simp; omega), row_alloc_past _ _ q3, rB]
 have p1 : w.heap.size < w2.heap.size := by omega
 have p2 : w.heap.size + 1 < w2.heap.size := by omega
 have p3 : w.heap.size + 1 + 1 < w2.heap.size := by omega
 clear b2
 obtain ⟨w3, hw3⟩ : ∃ x, w2.setRow (w.heap.size + 1 + 1) (Value.string ⟨ipl.toArray⟩ :: u8v mac).toArray = x := ⟨_, rfl⟩
 have z3 : w3.heap.size = w2.heap.size := by rw [← hw3, setRow_size]
 have B3 : Below w.heap.size w w3 := by rw [← hw3]; exact Below.setRow B2 (by omega) _
 have rB3 : row w3 (w.heap.size + 1 + 1) = (Value.string ⟨ipl.toArray⟩ :: u8v mac).toArray := by rw [← hw3]; exact row_setRow_same (by rw [rB]; simp) (by rw [rB]; simp)
 have rR3 : row w3 (w.heap.size + 1) = (Value.string ⟨#[]⟩ :: u8v mac0).toArray := by rw [← hw3, row_setRow_other _ _ _ (by omega), rR]
 clear rR
 have rR := rR3
 go_wp2_with fail
 clear hw3
 have hfin : row ((w3).setRow (w.heap.size + 1) (Value.string ⟨#[]⟩ :: u8v mac0).toArray) (w.heap.size + 1) = (Value.string ⟨#[]⟩ :: u8v mac0).toArray := row_setRow_same (by simp [rR]) (by simp [rR])
 (try simp only [Exit.inBlock, Exit.then])
 refine bodyPost_ret (results_2 rfl (resOk_row rfl ?_) resOk_tmp) rfl ?_
 ·
  (try rw [row_alloc_past _ _ (by simp; omega)])
  rw [hfin]
  try simp
 ·
  refine ⟨by (try rw [row_alloc_past _ _ (by simp; omega)]); rw [hfin]; try simp, ?_⟩
  first | exact Below.setRow B3 (by omega) _ | exact Below.alloc (Below.setRow B3 (by omega) _) (by simp; omega) _
theorem hAnn_nd_grp (HP : ParsesN body (ndV op fr to ab mac has fl) 0) (HF0 : ∀ w, Calls Tryz.prog 242 #[.agg (ndV op fr to ab mac has fl).toArray] w fun e w' => e = .returned (.tuple #[.agg (Value.string ⟨ipl.toArray⟩ :: u8v mac).toArray, .bool true]) ∧ Below w.heap.size w w') (hg : grp mac = true) : AnnC dst src 34525 body [] mac0 false := by
 have HG := h_ (fun w => group_any mac w)
 rw [hg] at HG
 intro w
 unfold ndV at HF0
 have HF := h_ HF0
 clear HF0
 unfold frameV
 unfold ParsesN ndV at HP
 have K := h_ HP
 clear HP
 go_enter Tryz.func189, Tryz.ntmps189
 go_wp2_with fail
 (with_reducible refine (K.out _).mono ?_)
 rintro e w1 ⟨rfl, b1⟩
 have z1 := b1.size
 simp at z1
 have rR : row w1 (w.heap.size + 1) = (Value.string ⟨#[]⟩ :: u8v mac0).toArray := by rw [row_below b1 (by simp)]; simp [go_sem]
 have rB : row w1 (w.heap.size + 1 + 1) = (Value.string ⟨#[]⟩ :: u8v mac0).toArray := by rw [row_below b1 (by simp)]; simp [go_sem]
 have B1 : Below w.heap.size w w1 := Below.trans blw_ (b1.mono (by simp; omega))
 clear b1
 have q1 : w.heap.size < w1.heap.size := by omega
 have q2 : w.heap.size + 1 < w1.heap.size := by omega
 have q3 : w.heap.size + 1 + 1 < w1.heap.size := by omega
 go_wp2_with fail
 (with_reducible refine (HF.out _).mono ?_)
 rintro e w2 ⟨rfl, b2⟩
 have z2 := b2.size
 simp at z2
 have B2 : Below w.heap.size w w2 := B1.trans (Below.trans (Below.alloc (Below.refl _ _) (by omega) _) (b2.mono (by simp; omega)))
 replace rR : row w2 (w.heap.size + 1) = (Value.string ⟨#[]⟩ :: u8v mac0).toArray := by rw [row_below b2 (by simp; omega), row_alloc_past _ _ q2, rR]
 replace rB : row w2 (w.heap.size + 1 + 1) = (Value.string ⟨#[]⟩ :: u8v mac0).toArray := by rw [row_below b2 (by simp; omega), row_alloc_past _ _ q3, rB]
 have p1 : w.heap.size < w2.heap.size := by omega
 have p2 : w.heap.size + 1 < w2.heap.size := by omega
 have p3 : w.heap.size + 1 + 1 < w2.heap.size := by omega
 clear b2
 obtain ⟨w3, hw3⟩ : ∃ x, w2.setRow (w.heap.size + 1 + 1) (Value.string ⟨ipl.toArray⟩ :: u8v mac).toArray = x := ⟨_, rfl⟩
 have z3 : w3.heap.size = w2.heap.size := by rw [← hw3, setRow_size]
 have B3 : Below w.heap.size w w3 := by rw [← hw3]; exact Below.setRow B2 (by omega) _
 have rB3 : row w3 (w.heap.size + 1 + 1) = (Value.string ⟨ipl.toArray⟩ :: u8v mac).toArray := by rw [← hw3]; exact row_setRow_same (by rw [rB]; simp) (by rw [rB]; simp)
 have rR3 : row w3 (w.heap.size + 1) = (Value.string ⟨#[]⟩ :: u8v mac0).toArray := by rw [← hw3, row_setRow_other _ _ _ (by omega), rR]
 clear rR
 have rR := rR3
 go_wp2_with fail
 clear hw3
 (with_reducible refine (HG.out _).mono ?_)
 rintro e w4 ⟨rfl, b4⟩
 have z4 := b4.size
 have B4 : Below w.heap.size w w4 := B3.trans (b4.mono (by omega))
 replace rR : row w4 (w.heap.size + 1) = (Value.string ⟨#[]⟩ :: u8v mac0).toArray := by rw [row_below b4 (by omega), rR]
 have p4 : w.heap.size + 1 < w4.heap.size := by omega
 clear b4
 go_wp2_with fail
 have hfin : row ((w4).setRow (w.heap.size + 1) (Value.string ⟨#[]⟩ :: u8v mac0).toArray) (w.heap.size + 1) = (Value.string ⟨#[]⟩ :: u8v mac0).toArray := row_setRow_same (by simp [rR]) (by simp [rR])
 (try simp only [Exit.inBlock, Exit.then])
 refine bodyPost_ret (results_2 rfl (resOk_row rfl ?_) resOk_tmp) rfl ?_
 ·
  (try rw [row_alloc_past _ _ (by simp; omega)])
  rw [hfin]
  try simp
 ·
  refine ⟨by (try rw [row_alloc_past _ _ (by simp; omega)]); rw [hfin]; try simp, ?_⟩
  first | exact Below.setRow B4 (by omega) _ | exact Below.alloc (Below.setRow B4 (by omega) _) (by simp; omega) _
theorem hAnn_nd_ok (HP : ParsesN body (ndV op fr to ab mac has fl) 0) (HF0 : ∀ w, Calls Tryz.prog 242 #[.agg (ndV op fr to ab mac has fl).toArray] w fun e w' => e = .returned (.tuple #[.agg (Value.string ⟨ipl.toArray⟩ :: u8v mac).toArray, .bool true]) ∧ Below w.heap.size w w') (hg : grp mac = false) : AnnC dst src 34525 body ipl mac true := by
 have HG := h_ (fun w => group_any mac w)
 rw [hg] at HG
 intro w
 unfold ndV at HF0
 have HF := h_ HF0
 clear HF0
 unfold frameV
 unfold ParsesN ndV at HP
 have K := h_ HP
 clear HP
 go_enter Tryz.func189, Tryz.ntmps189
 go_wp2_with fail
 (with_reducible refine (K.out _).mono ?_)
 rintro e w1 ⟨rfl, b1⟩
 have z1 := b1.size
 simp at z1
 have rR : row w1 (w.heap.size + 1) = (Value.string ⟨#[]⟩ :: u8v mac0).toArray := by rw [row_below b1 (by simp)]; simp [go_sem]
 have rB : row w1 (w.heap.size + 1 + 1) = (Value.string ⟨#[]⟩ :: u8v mac0).toArray := by rw [row_below b1 (by simp)]; simp [go_sem]
 have B1 : Below w.heap.size w w1 := Below.trans blw_ (b1.mono (by simp; omega))
 clear b1
 have q1 : w.heap.size < w1.heap.size := by omega
 have q2 : w.heap.size + 1 < w1.heap.size := by omega
 have q3 : w.heap.size + 1 + 1 < w1.heap.size := by omega
 go_wp2_with fail
 (with_reducible refine (HF.out _).mono ?_)
 rintro e w2 ⟨rfl, b2⟩
 have z2 := b2.size
 simp at z2
 have B2 : Below w.heap.size w w2 := B1.trans (Below.trans (Below.alloc (Below.refl _ _) (by omega) _) (b2.mono (by simp; omega)))
 replace rR : row w2 (w.heap.size + 1) = (Value.string ⟨#[]⟩ :: u8v mac0).toArray := by rw [row_below b2 (by simp; omega), row_alloc_past _ _ q2, rR]
 replace rB : row w2 (w.heap.size + 1 + 1) = (Value.string ⟨#[]⟩ :: u8v mac0).toArray := by rw [row_below b2 (by simp; omega), row_alloc_past _ _ q3, rB]
 have p1 : w.heap.size < w2.heap.size := by omega
 have p2 : w.heap.size + 1 < w2.heap.size := by omega
 have p3 : w.heap.size + 1 + 1 < w2.heap.size := by omega
 clear b2
 obtain ⟨w3, hw3⟩ : ∃ x, w2.setRow (w.heap.size + 1 + 1) (Value.string ⟨ipl.toArray⟩ :: u8v mac).toArray = x := ⟨_, rfl⟩
 have z3 : w3.heap.size = w2.heap.size := by rw [← hw3, setRow_size]
 have B3 : Below w.heap.size w w3 := by rw [← hw3]; exact Below.setRow B2 (by omega) _
 have rB3 : row w3 (w.heap.size + 1 + 1) = (Value.string ⟨ipl.toArray⟩ :: u8v mac).toArray := by rw [← hw3]; exact row_setRow_same (by rw [rB]; simp) (by rw [rB]; simp)
 have rR3 : row w3 (w.heap.size + 1) = (Value.string ⟨#[]⟩ :: u8v mac0).toArray := by rw [← hw3, row_setRow_other _ _ _ (by omega), rR]
 clear rR
 have rR := rR3
 go_wp2_with fail
 clear hw3
 (with_reducible refine (HG.out _).mono ?_)
 rintro e w4 ⟨rfl, b4⟩
 have z4 := b4.size
 have B4 : Below w.heap.size w w4 := B3.trans (b4.mono (by omega))
 replace rR : row w4 (w.heap.size + 1) = (Value.string ⟨#[]⟩ :: u8v mac0).toArray := by rw [row_below b4 (by omega), rR]
 have rB4 : row w4 (w.heap.size + 1 + 1) = (Value.string ⟨ipl.toArray⟩ :: u8v mac).toArray := by rw [row_below b4 (by omega), rB3]
 have p4 : w.heap.size + 1 < w4.heap.size := by omega
 have p5 : w.heap.size + 1 + 1 < w4.heap.size := by omega
 clear b4
 go_wp2_with fail
 have hfin : row ((w4).setRow (w.heap.size + 1) (Value.string ⟨ipl.toArray⟩ :: u8v mac).toArray) (w.heap.size + 1) = (Value.string ⟨ipl.toArray⟩ :: u8v mac).toArray := row_setRow_same (by simp [rR]) (by simp [rR])
 (try simp only [Exit.inBlock, Exit.then])
 refine bodyPost_ret (results_2 rfl (resOk_row rfl ?_) resOk_tmp) rfl ?_
 ·
  (try rw [row_alloc_past _ _ (by simp; omega)])
  rw [hfin]
  try simp
 ·
  refine ⟨by (try rw [row_alloc_past _ _ (by simp; omega)]); rw [hfin]; try simp, ?_⟩
  first | exact Below.setRow B4 (by omega) _ | exact Below.alloc (Below.setRow B4 (by omega) _) (by simp; omega) _
end
structure AnnProg (dst src : Vector UInt8 6) (ty : Int) (body : List UInt8) (ip : List UInt8) (mac : Vector UInt8 6) (ok : Bool) : Prop where
 prog : AnnC dst src ty body ip mac ok
 no : ok = false → ip = [] ∧ mac = mac0
 len : ok = true → ip ≠ [] ∧ ip.length ≤ 16 ∧ grp mac = false ∧ (ip.length = 4 → ip ≠ List.replicate 4 0)
theorem ann_prog (dst src : Vector UInt8 6) (ty : Int) (body : List UInt8) (hb : body.length ≤ 10000) : ∃ ip mac ok, AnnProg dst src ty body ip mac ok := by
 have no : AnnC dst src ty body [] mac0 false → ∃ ip mac ok, AnnProg dst src ty body ip mac ok := fun h1 => ⟨[], mac0, false, h1, fun _ => ⟨rfl, rfl⟩, fun h => by cases h⟩
 have ne : ∀ {n : Nat} (v : Vector UInt8 (n + 1)), v.toList ≠ [] := fun v h => by have := congrArg List.length h; simp at this
 by_cases h1 : (ty == 2054) = true
 ·
  have e : ty = 2054 := by simpa using h1
  subst e
  obtain ⟨o, m, t, i, x, er, hP⟩ := arp_prog body hb
  by_cases he : (er == 0) = true
  ·
   have e0 : er = 0 := by simpa using he
   subst e0
   by_cases hz : (i != Vector.replicate 4 0) = true
   ·
    by_cases hg : grp m = true
    ·
     exact no (hAnn_arp_grp _ _ _ o m t i x hP hz hg)
    ·
     have hg' : grp m = false := by simpa using hg
     exact ⟨_, _, true, hAnn_arp_ok _ _ _ o m t i x hP hz hg', fun h => (by cases h), fun _ => ⟨ne _, by simp, hg', fun _ h => by
      have e : i = Vector.replicate 4 0 := by
       apply Vector.toList_inj.1
       rw [h]
       rfl
      rw [e] at hz
      exact absurd hz (by simp)⟩⟩
   ·
    have hz' := Bool.eq_false_iff.2 hz
    exact no (hAnn_arp_zero _ _ _ o m t i x hP hz')
  ·
   have he' := Bool.eq_false_iff.2 he
   exact no (hAnn_arp_err _ _ _ o m t i x er he' hP)
 have h1' := Bool.eq_false_iff.2 h1
 by_cases h2 : (ty == 34525) = true
 ·
  have e : ty = 34525 := by simpa using h2
  subst e
  obtain ⟨o, fr, to, ab, m, hs, fl, er, hB⟩ := nd_prog body hb
  by_cases he : (er == 0) = true
  ·
   have e0 : er = 0 := by simpa using he
   subst e0
   obtain ⟨ho, hm⟩ := hB.good rfl
   have hP := hB.prog
   rcases ho with rfl | rfl
   ·
    cases hs with
    | false => exact no (hAnn_nd_no _ _ _ _ _ _ _ _ _ _ _ hP (fun w => hSixteen_qn fr to ab m fl w))
    | true =>
     by_cases hz : (fr != Vector.replicate 16 0) = true
     ·
      have HS : ∀ w, Calls Tryz.prog 242 #[.agg (ndV 1 fr to ab m true fl).toArray] w fun e w' => e = .returned (.tuple #[.agg (Value.string ⟨fr.toList.toArray⟩ :: u8v m).toArray, .bool true]) ∧ Below w.heap.size w w' := fun w => by
       have := hSixteen_q fr to ab m fl w
       rw [hz] at this
       exact this
      by_cases hg : grp m = true
      ·
       exact no (hAnn_nd_grp _ _ _ _ _ _ _ _ _ _ _ hP HS hg)
      ·
       have hg' : grp m = false := by simpa using hg
       exact ⟨_, _, true, hAnn_nd_ok _ _ _ _ _ _ _ _ _ _ _ hP HS hg', fun h => (by cases h), fun _ => ⟨ne _, by simp, hg', fun h => by simp at h⟩⟩
     ·
      have hz' := Bool.eq_false_iff.2 hz
      have HS : ∀ w, Calls Tryz.prog 242 #[.agg (ndV 1 fr to ab m true fl).toArray] w fun e w' => e = .returned (.tuple #[.agg (Value.string ⟨fr.toList.toArray⟩ :: u8v m).toArray, .bool false]) ∧ Below w.heap.size w w' := fun w => by
       have := hSixteen_q fr to ab m fl w
       rw [hz'] at this
       exact this
      exact no (hAnn_nd_no _ _ _ _ _ _ _ _ _ _ _ hP HS)
   ·
    cases hs with
    | false => exact no (hAnn_nd_no _ _ _ _ _ _ _ _ _ _ _ hP (fun w => hSixteen_a 2 fr to ab m false fl w rfl))
    | true =>
     have HS := fun w => hSixteen_a 2 fr to ab m true fl w rfl
     by_cases hg : grp m = true
     ·
      exact no (hAnn_nd_grp _ _ _ _ _ _ _ _ _ _ _ hP HS hg)
     ·
      have hg' : grp m = false := by simpa using hg
      exact ⟨_, _, true, hAnn_nd_ok _ _ _ _ _ _ _ _ _ _ _ hP HS hg', fun h => (by cases h), fun _ => ⟨ne _, by simp, hg', fun h => by simp at h⟩⟩
  ·
   have he' := Bool.eq_false_iff.2 he
   exact no (hAnn_nd_err _ _ _ _ _ _ _ _ _ _ er he' hB.prog)
 have h2' := Bool.eq_false_iff.2 h2
 exact no (hAnn_other _ _ _ ty h1' h2')
end
section
open Go.RowKit
section
variable (dst src : Vector UInt8 6) (body : List UInt8) (w : World) (v : Int)
variable (op : Int) (fr to ab : Vector UInt8 16) (mac : Vector UInt8 6) (has : Bool) (fl : Vector UInt8 4) (er : Int)
theorem hAns_nd_err (T : Addr) (HP : ParsesN body (ndV op fr to ab mac has fl) er) (he : (er == 0) = false) : AnsC (some T) v dst src 34525 body w zeroFr false := by
 have he2 : (er != 0) = true := by rw [bne, he]; rfl
 unfold AnsC
 try unfold zeroFr
 unfold frameV
 unfold ParsesN ndV at HP
 have K := h_ HP
 clear HP
 go_enter Tryz.func132, Tryz.ntmps132
 go_wp2_with fail
 (with_reducible refine (K.out _).mono ?_)
 rintro e w1 ⟨rfl, b1⟩
 have z1 := b1.size
 simp at z1
 have rF : row w1 w.heap.size = (u8v dst ++ (u8v src ++ [Value.int .i64 34525, Value.string ⟨body.toArray⟩])).toArray := by rw [row_below b1 (by simp; try omega)]; simp [go_sem]
 have rR : row w1 (w.heap.size + 1) = (zeros 12 (Value.int .u8 0) ++ [Value.int .i64 0, Value.string ⟨#[]⟩]).toArray := by rw [row_below b1 (by simp; try omega)]; simp [go_sem]
 have B1 : Below w.heap.size w w1 := Below.trans blw_ (b1.mono (by simp; try omega))
 have q1 : w.heap.size < w1.heap.size := by omega
 have q2 : w.heap.size + 1 < w1.heap.size := by omega
 clear b1
 go_wp2_with fail
 have hfin : row ((w1).setRow (w.heap.size + 1) (zeros 12 (Value.int .u8 0) ++ [Value.int .i64 0, Value.string ⟨#[]⟩]).toArray) (w.heap.size + 1) = (zeros 12 (Value.int .u8 0) ++ [Value.int .i64 0, Value.string ⟨#[]⟩]).toArray := row_setRow_same (by simp [rR]) (by simp [rR])
 (try simp only [Exit.inBlock, Exit.then])
 refine bodyPost_ret (results_2 rfl (resOk_row rfl ?_) resOk_tmp) rfl ?_
 ·
  (try rw [row_alloc_past _ _ (by simp; omega)])
  rw [hfin]
  try simp
 ·
  refine ⟨by (try rw [row_alloc_past _ _ (by simp; omega)]); rw [hfin]; try simp, ?_⟩
  first | exact Below.setRow B1 (by omega) _ | exact Below.alloc (Below.setRow B1 (by omega) _) (by simp; omega) _
theorem hAns_nd_op (T : Addr) (HP : ParsesN body (ndV op fr to ab mac has fl) 0) (h1 : (op == 1) = false) : AnsC (some T) v dst src 34525 body w zeroFr false := by
 have he2 : (op != 1) = true := by rw [bne, h1]; rfl
 unfold AnsC
 try unfold zeroFr
 unfold frameV
 unfold ParsesN ndV at HP
 have K := h_ HP
 clear HP
 go_enter Tryz.func132, Tryz.ntmps132
 go_wp2_with fail
 (with_reducible refine (K.out _).mono ?_)
 rintro e w1 ⟨rfl, b1⟩
 have z1 := b1.size
 simp at z1
 have rF : row w1 w.heap.size = (u8v dst ++ (u8v src ++ [Value.int .i64 34525, Value.string ⟨body.toArray⟩])).toArray := by rw [row_below b1 (by simp; try omega)]; simp [go_sem]
 have rR : row w1 (w.heap.size + 1) = (zeros 12 (Value.int .u8 0) ++ [Value.int .i64 0, Value.string ⟨#[]⟩]).toArray := by rw [row_below b1 (by simp; try omega)]; simp [go_sem]
 have B1 : Below w.heap.size w w1 := Below.trans blw_ (b1.mono (by simp; try omega))
 have q1 : w.heap.size < w1.heap.size := by omega
 have q2 : w.heap.size + 1 < w1.heap.size := by omega
 clear b1
 go_wp2_with fail
 have hfin : row ((w1).setRow (w.heap.size + 1) (zeros 12 (Value.int .u8 0) ++ [Value.int .i64 0, Value.string ⟨#[]⟩]).toArray) (w.heap.size + 1) = (zeros 12 (Value.int .u8 0) ++ [Value.int .i64 0, Value.string ⟨#[]⟩]).toArray := row_setRow_same (by simp [rR]) (by simp [rR])
 (try simp only [Exit.inBlock, Exit.then])
 refine bodyPost_ret (results_2 rfl (resOk_row rfl ?_) resOk_tmp) rfl ?_
 ·
  (try rw [row_alloc_past _ _ (by simp; omega)])
  rw [hfin]
  try simp
 ·
  refine ⟨by (try rw [row_alloc_past _ _ (by simp; omega)]); rw [hfin]; try simp, ?_⟩
  first | exact Below.setRow B1 (by omega) _ | exact Below.alloc (Below.setRow B1 (by omega) _) (by simp; omega) _
theorem hAns_nd_zero (T : Addr) (HP : ParsesN body (ndV 1 fr to ab mac has fl) 0) (h1 : (fr == Vector.replicate 16 0) = true) : AnsC (some T) v dst src 34525 body w zeroFr false := by
 unfold AnsC
 try unfold zeroFr
 unfold frameV
 unfold ParsesN ndV at HP
 have K := h_ HP
 clear HP
 go_enter Tryz.func132, Tryz.ntmps132
 go_wp2_with fail
 (with_reducible refine (K.out _).mono ?_)
 rintro e w1 ⟨rfl, b1⟩
 have z1 := b1.size
 simp at z1
 have rF : row w1 w.heap.size = (u8v dst ++ (u8v src ++ [Value.int .i64 34525, Value.string ⟨body.toArray⟩])).toArray := by rw [row_below b1 (by simp; try omega)]; simp [go_sem]
 have rR : row w1 (w.heap.size + 1) = (zeros 12 (Value.int .u8 0) ++ [Value.int .i64 0, Value.string ⟨#[]⟩]).toArray := by rw [row_below b1 (by simp; try omega)]; simp [go_sem]
 have B1 : Below w.heap.size w w1 := Below.trans blw_ (b1.mono (by simp; try omega))
 have q1 : w.heap.size < w1.heap.size := by omega
 have q2 : w.heap.size + 1 < w1.heap.size := by omega
 clear b1
 go_wp2_with fail
 have hfin : row ((w1).setRow (w.heap.size + 1) (zeros 12 (Value.int .u8 0) ++ [Value.int .i64 0, Value.string ⟨#[]⟩]).toArray) (w.heap.size + 1) = (zeros 12 (Value.int .u8 0) ++ [Value.int .i64 0, Value.string ⟨#[]⟩]).toArray := row_setRow_same (by simp [rR]) (by simp [rR])
 (try simp only [Exit.inBlock, Exit.then])
 refine bodyPost_ret (results_2 rfl (resOk_row rfl ?_) resOk_tmp) rfl ?_
 ·
  (try rw [row_alloc_past _ _ (by simp; omega)])
  rw [hfin]
  try simp
 ·
  refine ⟨by (try rw [row_alloc_past _ _ (by simp; omega)]); rw [hfin]; try simp, ?_⟩
  first | exact Below.setRow B1 (by omega) _ | exact Below.alloc (Below.setRow B1 (by omega) _) (by simp; omega) _
theorem hAns_nd_none {A M : Nat} {time : Int} {m : List HB} (h : HushT w A M time m) (HP : ParsesN body (ndV 1 fr to ab mac has fl) 0) (h1 : (fr == Vector.replicate 16 0) = false) (hf : foundH v ab.toList m = (mac0, false)) : AnsC (some ⟨A, 0, none⟩) v dst src 34525 body w zeroFr false := by
 have HF := h_ (fun (w : World) (h : HushT w A M time m) => hFind_any v ab.toList w h)
 have hA := h.lt
 have hM := h.ok.lt
 unfold AnsC
 try unfold zeroFr
 unfold frameV
 unfold ParsesN ndV at HP
 have K := h_ HP
 clear HP
 go_enter Tryz.func132, Tryz.ntmps132
 go_wp2_with fail
 (with_reducible refine (K.out _).mono ?_)
 rintro e w1 ⟨rfl, b1⟩
 have z1 := b1.size
 simp at z1
 have rF : row w1 w.heap.size = (u8v dst ++ (u8v src ++ [Value.int .i64 34525, Value.string ⟨body.toArray⟩])).toArray := by rw [row_below b1 (by simp; try omega)]; simp [go_sem]
 have rR : row w1 (w.heap.size + 1) = (zeros 12 (Value.int .u8 0) ++ [Value.int .i64 0, Value.string ⟨#[]⟩]).toArray := by rw [row_below b1 (by simp; try omega)]; simp [go_sem]
 have B1 : Below w.heap.size w w1 := Below.trans blw_ (b1.mono (by simp; try omega))
 have q1 : w.heap.size < w1.heap.size := by omega
 have q2 : w.heap.size + 1 < w1.heap.size := by omega
 clear b1
 have h1T := h.below B1 hA hM
 obtain ⟨w2, hw2⟩ : ∃ x, w1.alloc (.cells (Value.int .i64 1 :: (u8v fr ++ (u8v to ++ (u8v ab ++ (u8v mac ++ (Value.bool has :: u8v fl)))))).toArray 367) = x := ⟨_, rfl⟩
 have z2 : w2.heap.size = w1.heap.size + 1 := by rw [← hw2]; simp
 have b12 : Below w1.heap.size w1 w2 := by rw [← hw2]; exact Below.alloc (Below.refl _ _) (by omega) _
 have rA2 : row w2 w1.heap.size = (Value.int .i64 1 :: (u8v fr ++ (u8v to ++ (u8v ab ++ (u8v mac ++ (Value.bool has :: u8v fl)))))).toArray := by rw [← hw2]; simp [go_sem]
 have B2 : Below w.heap.size w w2 := B1.trans (b12.mono (by omega))
 have h2T := h.below B2 hA hM
 replace rF := (row_below b12 (by omega)).trans rF
 replace rR := (row_below b12 (by omega)).trans rR
 have q3 : w1.heap.size < w2.heap.size := by omega
 clear b12 h h1T
 go_wp2_with fail
 clear hw2
 (with_reducible refine (HF.out _ h2T).mono ?_)
 rintro e w3 ⟨rfl, b3⟩
 rw [hf]
 have z3 := b3.size
 replace rF := (row_below b3 (by omega)).trans rF
 replace rR := (row_below b3 (by omega)).trans rR
 replace rA2 := (row_below b3 (by omega)).trans rA2
 have B3 : Below w.heap.size w w3 := B2.trans (b3.mono (by omega))
 have p1 : w.heap.size < w3.heap.size := by omega
 have p2 : w.heap.size + 1 < w3.heap.size := by omega
 have p3 : w1.heap.size < w3.heap.size := by omega
 clear b3 q1 q2 q3
 go_wp2_with fail
 have hfin : row ((w3).setRow (w.heap.size + 1) (zeros 12 (Value.int .u8 0) ++ [Value.int .i64 0, Value.string ⟨#[]⟩]).toArray) (w.heap.size + 1) = (zeros 12 (Value.int .u8 0) ++ [Value.int .i64 0, Value.string ⟨#[]⟩]).toArray := row_setRow_same (by simp [rR]) (by simp [rR])
 (try simp only [Exit.inBlock, Exit.then])
 refine bodyPost_ret (results_2 rfl (resOk_row rfl ?_) resOk_tmp) rfl ?_
 ·
  (try rw [row_alloc_past _ _ (by simp; omega)])
  rw [hfin]
  try simp
 ·
  refine ⟨by (try rw [row_alloc_past _ _ (by simp; omega)]); rw [hfin]; try simp, ?_⟩
  first | exact Below.setRow B3 (by omega) _ | exact Below.alloc (Below.setRow B3 (by omega) _) (by simp; omega) _
theorem hAns_nd_some {A M : Nat} {time : Int} {m : List HB} (h : HushT w A M time m) (HP : ParsesN body (ndV 1 fr to ab mac has fl) 0) (h1 : (fr == Vector.replicate 16 0) = false) (who : Vector UInt8 6) (hf : foundH v ab.toList m = (who, true)) : AnsC (some ⟨A, 0, none⟩) v dst src 34525 body w (frameV src who 34525 (ndS 2 ab fr ab who true fl96)) true := by
 have HN0 := fun w => ndAnswer_any 1 fr to ab mac who src has fl w
 unfold frameV at HN0
 obtain ⟨S, hS⟩ : ∃ x, ndS 2 ab fr ab who true fl96 = x := ⟨_, rfl⟩
 rw [hS]
 simp only [hS] at HN0
 clear hS
 have HN := h_ HN0
 clear HN0
 have HF := h_ (fun (w : World) (h : HushT w A M time m) => hFind_any v ab.toList w h)
 have hA := h.lt
 have hM := h.ok.lt
 unfold AnsC
 try unfold zeroFr
 unfold frameV
 unfold ParsesN ndV at HP
 have K := h_ HP
 clear HP
 go_enter Tryz.func132, Tryz.ntmps132
 go_wp2_with fail
 (with_reducible refine (K.out _).mono ?_)
 rintro e w1 ⟨rfl, b1⟩
 have z1 := b1.size
 simp at z1
 have rF : row w1 w.heap.size = (u8v dst ++ (u8v src ++ [Value.int .i64 34525, Value.string ⟨body.toArray⟩])).toArray := by rw [row_below b1 (by simp; try omega)]; simp [go_sem]
 have rR : row w1 (w.heap.size + 1) = (zeros 12 (Value.int .u8 0) ++ [Value.int .i64 0, Value.string ⟨#[]⟩]).toArray := by rw [row_below b1 (by simp; try omega)]; simp [go_sem]
 have B1 : Below w.heap.size w w1 := Below.trans blw_ (b1.mono (by simp; try omega))
 have q1 : w.heap.size < w1.heap.size := by omega
 have q2 : w.heap.size + 1 < w1.heap.size := by omega
 clear b1
 have h1T := h.below B1 hA hM
 obtain ⟨w2, hw2⟩ : ∃ x, w1.alloc (.cells (Value.int .i64 1 :: (u8v fr ++ (u8v to ++ (u8v ab ++ (u8v mac ++ (Value.bool has :: u8v fl)))))).toArray 367) = x := ⟨_, rfl⟩
 have z2 : w2.heap.size = w1.heap.size + 1 := by rw [← hw2]; simp
 have b12 : Below w1.heap.size w1 w2 := by rw [← hw2]; exact Below.alloc (Below.refl _ _) (by omega) _
 have rA2 : row w2 w1.heap.size = (Value.int .i64 1 :: (u8v fr ++ (u8v to ++ (u8v ab ++ (u8v mac ++ (Value.bool has :: u8v fl)))))).toArray := by rw [← hw2]; simp [go_sem]
 have B2 : Below w.heap.size w w2 := B1.trans (b12.mono (by omega))
 have h2T := h.below B2 hA hM
 replace rF := (row_below b12 (by omega)).trans rF
 replace rR := (row_below b12 (by omega)).trans rR
 have q3 : w1.heap.size < w2.heap.size := by omega
 clear b12 h h1T
 go_wp2_with fail
 clear hw2
 (with_reducible refine (HF.out _ h2T).mono ?_)
 rintro e w3 ⟨rfl, b3⟩
 rw [hf]
 have z3 := b3.size
 replace rF := (row_below b3 (by omega)).trans rF
 replace rR := (row_below b3 (by omega)).trans rR
 replace rA2 := (row_below b3 (by omega)).trans rA2
 have B3 : Below w.heap.size w w3 := B2.trans (b3.mono (by omega))
 have p1 : w.heap.size < w3.heap.size := by omega
 have p2 : w.heap.size + 1 < w3.heap.size := by omega
 have p3 : w1.heap.size < w3.heap.size := by omega
 clear b3 q1 q2 q3
 go_wp2_with fail
 (with_reducible refine (HN.out _).mono ?_)
 rintro e w4 ⟨rfl, b4⟩
 have z4 := b4.size
 simp at z4
 replace rF := ((row_below b4 (by simp; omega)).trans (row_alloc_past _ _ p1)).trans rF
 replace rR := ((row_below b4 (by simp; omega)).trans (row_alloc_past _ _ p2)).trans rR
 have B4 : Below w.heap.size w w4 := B3.trans (Below.trans (Below.alloc (Below.refl _ _) (by omega) _) (b4.mono (by simp; omega)))
 have q1 : w.heap.size < w4.heap.size := by omega
 have q2 : w.heap.size + 1 < w4.heap.size := by omega
 clear b4 p1 p2 p3 rA2
 go_wp2_with fail
 have hfin : row ((w4).setRow (w.heap.size + 1) (u8v src ++ (u8v who ++ [Value.int .i64 34525, Value.string ⟨S.toArray⟩])).toArray) (w.heap.size + 1) = (u8v src ++ (u8v who ++ [Value.int .i64 34525, Value.string ⟨S.toArray⟩])).toArray := row_setRow_same (by simp [rR]) (by simp [rR])
 (try simp only [Exit.inBlock, Exit.then])
 refine bodyPost_ret (results_2 rfl (resOk_row rfl ?_) resOk_tmp) rfl ?_
 ·
  (try rw [row_alloc_past _ _ (by simp; omega)])
  rw [hfin]
  try simp
 ·
  refine ⟨by (try rw [row_alloc_past _ _ (by simp; omega)]); rw [hfin]; try simp, ?_⟩
  first | exact Below.setRow B4 (by omega) _ | exact Below.alloc (Below.setRow B4 (by omega) _) (by simp; omega) _
end
theorem asks_prog (dst src : Vector UInt8 6) (ty : Int) (body : List UInt8) (hb : body.length ≤ 10000) :
  (∀ (w : World) (T : Addr) (v : Int), AnsC (some T) v dst src ty body w zeroFr false) ∨ ∃ ip ans, Asks dst src ty body ip ans := by
 by_cases h1 : (ty == 2054) = true
 ·
  have e : ty = 2054 := by simpa using h1
  subst e
  obtain ⟨o, m, t, i, x, er, hP⟩ := arp_prog body hb
  by_cases he : (er == 0) = true
  ·
   have e0 : er = 0 := by simpa using he
   subst e0
   by_cases ho : (o == 1) = true
   ·
    have e1 : o = 1 := by simpa using ho
    subst e1
    by_cases hx : (x == i) = true
    ·
     exact .inl fun w T v => hAns_arp_own _ _ _ w v m t i x T hP hx
    ·
     have hx' := Bool.eq_false_iff.2 hx
     refine .inr ⟨x.toList, fun who => arpS 2 who m x i, ?_⟩
     refine ⟨fun v h hf => hAns_arp_none _ _ _ _ v m t i x h hP hx' hf, fun v who h hf => hAns_arp_some _ _ _ _ v m t i x h hP hx' who hf, ?_, fun who => by simp [arpS], .inl rfl, .inl (by simp)⟩
     intro who hg hz
     have hz2 : (x != Vector.replicate 4 0) = true := by
      rw [bne_iff_ne]
      intro h
      subst h
      exact hz (by simp) rfl
     exact hAnn_arp_ok src who (arpS 2 who m x i) 2 who m x i (fun w => parse_printed 2 who m x i w (.inr rfl)) hz2 hg
   ·
    have ho' := Bool.eq_false_iff.2 ho
    exact .inl fun w T v => hAns_arp_op _ _ _ w v o m t i x T hP ho'
  ·
   have he' := Bool.eq_false_iff.2 he
   exact .inl fun w T v => hAns_arp_err _ _ _ w v o m t i x er T hP he'
 have h1' := Bool.eq_false_iff.2 h1
 by_cases h2 : (ty == 34525) = true
 ·
  have e : ty = 34525 := by simpa using h2
  subst e
  obtain ⟨o, fr, to, ab, m, hs, fl, er, hB⟩ := nd_prog body hb
  have hP := hB.prog
  by_cases he : (er == 0) = true
  ·
   have e0 : er = 0 := by simpa using he
   subst e0
   by_cases ho : ((o : Int) == 1) = true
   ·
    have e1 : o = 1 := by simp at ho; omega
    subst e1
    by_cases hx : (fr == Vector.replicate 16 0) = true
    ·
     exact .inl fun w T v => hAns_nd_zero _ _ _ w v _ _ _ _ _ _ T hP hx
    ·
     have hx' := Bool.eq_false_iff.2 hx
     refine .inr ⟨ab.toList, fun who => ndS 2 ab fr ab who true fl96, ?_⟩
     refine ⟨fun v h hf => hAns_nd_none _ _ _ _ v _ _ _ _ _ _ h hP hx' hf, fun v who h hf => hAns_nd_some _ _ _ _ v _ _ _ _ _ _ h hP hx' who hf, ?_, fun who => by rw [ndS_length]; simp [szN], .inr rfl, .inr (by simp)⟩
     intro who hg hz
     have hp : ParsesN (ndS 2 ab fr ab who true fl96) (ndV 2 ab fr ab who true fl96) 0 := fun w => by
      have := ndParse_print_op2 ab fr ab who fl96 [] w (by simp)
      rw [List.append_nil] at this
      exact this
     exact hAnn_nd_ok src who _ 2 ab fr ab who true fl96 ab.toList hp (fun w => hSixteen_a 2 ab fr ab who true fl96 w rfl) hg
   ·
    have ho' := Bool.eq_false_iff.2 ho
    exact .inl fun w T v => hAns_nd_op _ _ _ w v o _ _ _ _ _ _ T hP ho'
  ·
   have he' := Bool.eq_false_iff.2 he
   exact .inl fun w T v => hAns_nd_err _ _ _ w v o _ _ _ _ _ _ er T hP he'
 have h2' := Bool.eq_false_iff.2 h2
 exact .inl fun w T v => hAns_other _ _ _ w v T ty h1' h2'
end
end Go.Proofs.YtfopoijikdmiaaaGreatDoor
