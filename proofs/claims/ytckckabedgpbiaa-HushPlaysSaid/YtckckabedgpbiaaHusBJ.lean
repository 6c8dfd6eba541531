/- Contracts of package hush: what a frame announces. -/
import Derived.Test.YtckckabedgpbiaaHusAJ
set_option linter.unusedSimpArgs false
set_option linter.unusedVariables false
set_option maxRecDepth 4000
namespace Go.Proofs.Ytckckabedgpbiaa
open Go.RowKit
section
variable (dst src : Vector UInt8 6) (body : List UInt8)
theorem hAnn_other (ty : Int) (h1 : (ty == 2054) = false) (h2 : (ty == 34525) = false) : AnnC dst src ty body [] mac0 false := by
 intro w
 unfold frameV
 go_enter Try.func17, Try.ntmps17
 go_wp2_with fail
 ((try simp only [Exit.inBlock, Exit.then]); refine bodyPost_ret (results_2 rfl (resOk_row rfl ?_) resOk_tmp) rfl ?_; (simp [go_sem]))
 refine ⟨by simp [go_sem], ?_⟩
 (repeat (first | exact Below.refl _ _ | refine Below.al ?_ _ | refine Below.drew ?_ | refine Below.sr ?_ _ | refine Below.sc ?_ _))
variable (op : Int) (mac tgt : Vector UInt8 6) (ip want : Vector UInt8 4)
theorem hAnn_arp_err (er : Int) (he : (er == 0) = false) (HP : ∀ w, Calls Try.prog 43 #[.string ⟨body.toArray⟩] w fun e w' => e = .returned (.tuple #[.agg (arpV op mac tgt ip want).toArray, .int .i64 er]) ∧ Below w.heap.size w w') :
  AnnC dst src 2054 body [] mac0 false := by
 intro w
 unfold frameV
 unfold arpV at HP
 have K := Lib.hid HP
 clear HP
 go_enter Try.func17, Try.ntmps17
 go_wp2_with fail
 (with_reducible refine (K.out _).mono ?_)
 rintro e w1 ⟨rfl, b1⟩
 have z1 := b1.size
 simp at z1
 have rR : row w1 (w.heap.size + 1) = (Value.string ⟨#[]⟩ :: u8v mac0).toArray := by rw [row_below b1 (by simp)]; simp [go_sem]
 have rB : row w1 (w.heap.size + 1 + 1) = (Value.string ⟨#[]⟩ :: u8v mac0).toArray := by rw [row_below b1 (by simp)]; simp [go_sem]
 have B1 : Below w.heap.size w w1 := Below.trans (by (repeat (first | exact Below.refl _ _ | refine Below.al ?_ _ | refine Below.drew ?_ | refine Below.sr ?_ _ | refine Below.sc ?_ _))) (b1.mono (by simp; omega))
 clear b1
 have q1 : w.heap.size < w1.heap.size := by omega
 have q2 : w.heap.size + 1 < w1.heap.size := by omega
 have q3 : w.heap.size + 1 + 1 < w1.heap.size := by omega
 go_wp2_with fail
 have hfin : row ((w1).setRow (w.heap.size + 1) (Value.string ⟨#[]⟩ :: u8v mac0).toArray) (w.heap.size + 1) = (Value.string ⟨#[]⟩ :: u8v mac0).toArray := row_setRow_same (by simp [rR]) (by simp [rR])
 (try simp only [Exit.inBlock, Exit.then])
 refine bodyPost_ret (results_2 rfl (resOk_row rfl ?_) resOk_tmp) rfl ?_
 ·
  (try rw [row_alloc_past _ _ (by simp; omega)])
  rw [hfin]
  try simp
 ·
  refine ⟨by (try rw [row_alloc_past _ _ (by simp; omega)]); rw [hfin]; try simp, ?_⟩
  first | exact Below.setRow B1 (by omega) _ | exact Below.alloc (Below.setRow B1 (by omega) _) (by simp; omega) _
theorem hAnn_arp_zero (HP : ∀ w, Calls Try.prog 43 #[.string ⟨body.toArray⟩] w fun e w' => e = .returned (.tuple #[.agg (arpV op mac tgt ip want).toArray, .int .i64 0]) ∧ Below w.heap.size w w') (hz : (ip != Vector.replicate 4 0) = false) : AnnC dst src 2054 body [] mac0 false := by
 intro w
 have HF := Lib.hid (fun w => hFour_any op mac tgt ip want w)
 unfold frameV
 unfold arpV at HP HF
 have K := Lib.hid HP
 clear HP
 go_enter Try.func17, Try.ntmps17
 go_wp2_with fail
 (with_reducible refine (K.out _).mono ?_)
 rintro e w1 ⟨rfl, b1⟩
 have z1 := b1.size
 simp at z1
 have rR : row w1 (w.heap.size + 1) = (Value.string ⟨#[]⟩ :: u8v mac0).toArray := by rw [row_below b1 (by simp)]; simp [go_sem]
 have rB : row w1 (w.heap.size + 1 + 1) = (Value.string ⟨#[]⟩ :: u8v mac0).toArray := by rw [row_below b1 (by simp)]; simp [go_sem]
 have B1 : Below w.heap.size w w1 := Below.trans (by (repeat (first | exact Below.refl _ _ | refine Below.al ?_ _ | refine Below.drew ?_ | refine Below.sr ?_ _ | refine Below.sc ?_ _))) (b1.mono (by simp; omega))
 clear b1
 have q1 : w.heap.size < w1.heap.size := by omega
 have q2 : w.heap.size + 1 < w1.heap.size := by omega
 have q3 : w.heap.size + 1 + 1 < w1.heap.size := by omega
 go_wp2_with fail
 (with_reducible refine (HF.out _).mono ?_)
 rintro e w2 ⟨rfl, b2⟩
 have z2 := b2.size
 simp at z2
 have B2 : Below w.heap.size w w2 := B1.trans (Below.trans (Below.alloc (Below.refl _ _) (by omega) _) (b2.mono (by simp; omega)))
 replace rR : row w2 (w.heap.size + 1) = (Value.string ⟨#[]⟩ :: u8v mac0).toArray := by rw [row_below b2 (by simp; omega), row_alloc_past _ _ q2, rR]
 replace rB : row w2 (w.heap.size + 1 + 1) = (Value.string ⟨#[]⟩ :: u8v mac0).toArray := by rw [row_below b2 (by simp; omega), row_alloc_past _ _ q3, rB]
 have p1 : w.heap.size < w2.heap.size := by omega
 have p2 : w.heap.size + 1 < w2.heap.size := by omega
 have p3 : w.heap.size + 1 + 1 < w2.heap.size := by omega
 clear b2
 obtain ⟨w3, hw3⟩ : ∃ x, w2.setRow (w.heap.size + 1 + 1) (Value.string ⟨ip.toList.toArray⟩ :: u8v mac).toArray = x := ⟨_, rfl⟩
 have z3 : w3.heap.size = w2.heap.size := by rw [← hw3, setRow_size]
 have B3 : Below w.heap.size w w3 := by rw [← hw3]; exact Below.setRow B2 (by omega) _
 have rB3 : row w3 (w.heap.size + 1 + 1) = (Value.string ⟨ip.toList.toArray⟩ :: u8v mac).toArray := by rw [← hw3]; exact row_setRow_same (by rw [rB]; simp) (by rw [rB]; simp)
 have rR3 : row w3 (w.heap.size + 1) = (Value.string ⟨#[]⟩ :: u8v mac0).toArray := by rw [← hw3, row_setRow_other _ _ _ (by omega), rR]
 rw [hz]
 clear rR
 have rR := rR3
 go_wp2_with fail
 clear hw3
 have hfin : row ((w3).setRow (w.heap.size + 1) (Value.string ⟨#[]⟩ :: u8v mac0).toArray) (w.heap.size + 1) = (Value.string ⟨#[]⟩ :: u8v mac0).toArray := row_setRow_same (by simp [rR]) (by simp [rR])
 (try simp only [Exit.inBlock, Exit.then])
 refine bodyPost_ret (results_2 rfl (resOk_row rfl ?_) resOk_tmp) rfl ?_
 ·
  (try rw [row_alloc_past _ _ (by simp; omega)])
  rw [hfin]
  try simp
 ·
  refine ⟨by (try rw [row_alloc_past _ _ (by simp; omega)]); rw [hfin]; try simp, ?_⟩
  first | exact Below.setRow B3 (by omega) _ | exact Below.alloc (Below.setRow B3 (by omega) _) (by simp; omega) _
theorem hAnn_arp_grp (HP : ∀ w, Calls Try.prog 43 #[.string ⟨body.toArray⟩] w fun e w' => e = .returned (.tuple #[.agg (arpV op mac tgt ip want).toArray, .int .i64 0]) ∧ Below w.heap.size w w') (hz : (ip != Vector.replicate 4 0) = true) (hg : grp mac = true) : AnnC dst src 2054 body [] mac0 false := by
 have HG := Lib.hid (fun w => group_any mac w)
 rw [hg] at HG
 intro w
 have HF := Lib.hid (fun w => hFour_any op mac tgt ip want w)
 unfold frameV
 unfold arpV at HP HF
 have K := Lib.hid HP
 clear HP
 go_enter Try.func17, Try.ntmps17
 go_wp2_with fail
 (with_reducible refine (K.out _).mono ?_)
 rintro e w1 ⟨rfl, b1⟩
 have z1 := b1.size
 simp at z1
 have rR : row w1 (w.heap.size + 1) = (Value.string ⟨#[]⟩ :: u8v mac0).toArray := by rw [row_below b1 (by simp)]; simp [go_sem]
 have rB : row w1 (w.heap.size + 1 + 1) = (Value.string ⟨#[]⟩ :: u8v mac0).toArray := by rw [row_below b1 (by simp)]; simp [go_sem]
 have B1 : Below w.heap.size w w1 := Below.trans (by (repeat (first | exact Below.refl _ _ | refine Below.al ?_ _ | refine Below.drew ?_ | refine Below.sr ?_ _ | refine Below.sc ?_ _))) (b1.mono (by simp; omega))
 clear b1
 have q1 : w.heap.size < w1.heap.size := by omega
 have q2 : w.heap.size + 1 < w1.heap.size := by omega
 have q3 : w.heap.size + 1 + 1 < w1.heap.size := by omega
 go_wp2_with fail
 (with_reducible refine (HF.out _).mono ?_)
 rintro e w2 ⟨rfl, b2⟩
 have z2 := b2.size
 simp at z2
 have B2 : Below w.heap.size w w2 := B1.trans (Below.trans (Below.alloc (Below.refl _ _) (by omega) _) (b2.mono (by simp; omega)))
 replace rR : row w2 (w.heap.size + 1) = (Value.string ⟨#[]⟩ :: u8v mac0).toArray := by rw [row_below b2 (by simp; omega), row_alloc_past _ _ q2, rR]
 replace rB : row w2 (w.heap.size + 1 + 1) = (Value.string ⟨#[]⟩ :: u8v mac0).toArray := by rw [row_below b2 (by simp; omega), row_alloc_past _ _ q3, rB]
 have p1 : w.heap.size < w2.heap.size := by omega
 have p2 : w.heap.size + 1 < w2.heap.size := by omega
 have p3 : w.heap.size + 1 + 1 < w2.heap.size := by omega
 clear b2
 obtain ⟨w3, hw3⟩ : ∃ x, w2.setRow (w.heap.size + 1 + 1) (Value.string ⟨ip.toList.toArray⟩ :: u8v mac).toArray = x := ⟨_, rfl⟩
 have z3 : w3.heap.size = w2.heap.size := by rw [← hw3, setRow_size]
 have B3 : Below w.heap.size w w3 := by rw [← hw3]; exact Below.setRow B2 (by omega) _
 have rB3 : row w3 (w.heap.size + 1 + 1) = (Value.string ⟨ip.toList.toArray⟩ :: u8v mac).toArray := by rw [← hw3]; exact row_setRow_same (by rw [rB]; simp) (by rw [rB]; simp)
 have rR3 : row w3 (w.heap.size + 1) = (Value.string ⟨#[]⟩ :: u8v mac0).toArray := by rw [← hw3, row_setRow_other _ _ _ (by omega), rR]
 rw [hz]
 clear rR
 have rR := rR3
 go_wp2_with fail
 clear hw3
 (with_reducible refine (HG.out _).mono ?_)
 rintro e w4 ⟨rfl, b4⟩
 have z4 := b4.size
 have B4 : Below w.heap.size w w4 := B3.trans (b4.mono (by omega))
 replace rR : row w4 (w.heap.size + 1) = (Value.string ⟨#[]⟩ :: u8v mac0).toArray := by rw [row_below b4 (by omega), rR]
 have p4 : w.heap.size + 1 < w4.heap.size := by omega
 clear b4
 go_wp2_with fail
 have hfin : row ((w4).setRow (w.heap.size + 1) (Value.string ⟨#[]⟩ :: u8v mac0).toArray) (w.heap.size + 1) = (Value.string ⟨#[]⟩ :: u8v mac0).toArray := row_setRow_same (by simp [rR]) (by simp [rR])
 (try simp only [Exit.inBlock, Exit.then])
 refine bodyPost_ret (results_2 rfl (resOk_row rfl ?_) resOk_tmp) rfl ?_
 ·
  (try rw [row_alloc_past _ _ (by simp; omega)])
  rw [hfin]
  try simp
 ·
  refine ⟨by (try rw [row_alloc_past _ _ (by simp; omega)]); rw [hfin]; try simp, ?_⟩
  first | exact Below.setRow B4 (by omega) _ | exact Below.alloc (Below.setRow B4 (by omega) _) (by simp; omega) _
theorem hAnn_arp_ok (HP : ∀ w, Calls Try.prog 43 #[.string ⟨body.toArray⟩] w fun e w' => e = .returned (.tuple #[.agg (arpV op mac tgt ip want).toArray, .int .i64 0]) ∧ Below w.heap.size w w') (hz : (ip != Vector.replicate 4 0) = true) (hg : grp mac = false) : AnnC dst src 2054 body ip.toList mac true := by
 have HG := Lib.hid (fun w => group_any mac w)
 rw [hg] at HG
 intro w
 have HF := Lib.hid (fun w => hFour_any op mac tgt ip want w)
 unfold frameV
 unfold arpV at HP HF
 have K := Lib.hid HP
 clear HP
 go_enter Try.func17, Try.ntmps17
 go_wp2_with fail
 (with_reducible refine (K.out _).mono ?_)
 rintro e w1 ⟨rfl, b1⟩
 have z1 := b1.size
 simp at z1
 have rR : row w1 (w.heap.size + 1) = (Value.string ⟨#[]⟩ :: u8v mac0).toArray := by rw [row_below b1 (by simp)]; simp [go_sem]
 have rB : row w1 (w.heap.size + 1 + 1) = (Value.string ⟨#[]⟩ :: u8v mac0).toArray := by rw [row_below b1 (by simp)]; simp [go_sem]
 have B1 : Below w.heap.size w w1 := Below.trans (by (repeat (first | exact Below.refl _ _ | refine Below.al ?_ _ | refine Below.drew ?_ | refine Below.sr ?_ _ | refine Below.sc ?_ _))) (b1.mono (by simp; omega))
 clear b1
 have q1 : w.heap.size < w1.heap.size := by omega
 have q2 : w.heap.size + 1 < w1.heap.size := by omega
 have q3 : w.heap.size + 1 + 1 < w1.heap.size := by omega
 go_wp2_with fail
 (with_reducible refine (HF.out _).mono ?_)
 rintro e w2 ⟨rfl, b2⟩
 have z2 := b2.size
 simp at z2
 have B2 : Below w.heap.size w w2 := B1.trans (Below.trans (Below.alloc (Below.refl _ _) (by omega) _) (b2.mono (by simp; omega)))
 replace rR : row w2 (w.heap.size + 1) = (Value.string ⟨#[]⟩ :: u8v mac0).toArray := by rw [row_below b2 (by simp; omega), row_alloc_past _ _ q2, rR]
 replace rB : row w2 (w.heap.size + 1 + 1) = (Value.string ⟨#[]⟩ :: u8v mac0).toArray := by rw [row_below b2 (by simp; omega), row_alloc_past _ _ q3, rB]
 have p1 : w.heap.size < w2.heap.size := by omega
 have p2 : w.heap.size + 1 < w2.heap.size := by omega
 have p3 : w.heap.size + 1 + 1 < w2.heap.size := by omega
 clear b2
 obtain ⟨w3, hw3⟩ : ∃ x, w2.setRow (w.heap.size + 1 + 1) (Value.string ⟨ip.toList.toArray⟩ :: u8v mac).toArray = x := ⟨_, rfl⟩
 have z3 : w3.heap.size = w2.heap.size := by rw [← hw3, setRow_size]
 have B3 : Below w.heap.size w w3 := by rw [← hw3]; exact Below.setRow B2 (by omega) _
 have rB3 : row w3 (w.heap.size + 1 + 1) = (Value.string ⟨ip.toList.toArray⟩ :: u8v mac).toArray := by rw [← hw3]; exact row_setRow_same (by rw [rB]; simp) (by rw [rB]; simp)
 have rR3 : row w3 (w.heap.size + 1) = (Value.string ⟨#[]⟩ :: u8v mac0).toArray := by rw [← hw3, row_setRow_other _ _ _ (by omega), rR]
 rw [hz]
 clear rR
 have rR := rR3
 go_wp2_with fail
 clear hw3
 (with_reducible refine (HG.out _).mono ?_)
 rintro e w4 ⟨rfl, b4⟩
 have z4 := b4.size
 have B4 : Below w.heap.size w w4 := B3.trans (b4.mono (by omega))
 replace rR : row w4 (w.heap.size + 1) = (Value.string ⟨#[]⟩ :: u8v mac0).toArray := by rw [row_below b4 (by omega), rR]
 have rB4 : row w4 (w.heap.size + 1 + 1) = (Value.string ⟨ip.toList.toArray⟩ :: u8v mac).toArray := by rw [row_below b4 (by omega), rB3]
 have p4 : w.heap.size + 1 < w4.heap.size := by omega
 have p5 : w.heap.size + 1 + 1 < w4.heap.size := by omega
 clear b4
 go_wp2_with fail
 have hfin : row ((w4).setRow (w.heap.size + 1) (Value.string ⟨ip.toList.toArray⟩ :: u8v mac).toArray) (w.heap.size + 1) = (Value.string ⟨ip.toList.toArray⟩ :: u8v mac).toArray := row_setRow_same (by simp [rR]) (by simp [rR])
 (try simp only [Exit.inBlock, Exit.then])
 refine bodyPost_ret (results_2 rfl (resOk_row rfl ?_) resOk_tmp) rfl ?_
 ·
  (try rw [row_alloc_past _ _ (by simp; omega)])
  rw [hfin]
  try simp
 ·
  refine ⟨by (try rw [row_alloc_past _ _ (by simp; omega)]); rw [hfin]; try simp, ?_⟩
  first | exact Below.setRow B4 (by omega) _ | exact Below.alloc (Below.setRow B4 (by omega) _) (by simp; omega) _
end
end Go.Proofs.Ytckckabedgpbiaa
