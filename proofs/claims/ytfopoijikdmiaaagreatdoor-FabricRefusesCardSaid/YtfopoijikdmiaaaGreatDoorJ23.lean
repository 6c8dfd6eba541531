/- Texts of this proof, merged: HusB, HusQ, HusX. -/
import Derived.Test.YtfopoijikdmiaaaGreatDoorHusAJ
import Derived.Test.YtfopoijikdmiaaaGreatDoorJ17
set_option linter.unusedSimpArgs false
set_option linter.unusedVariables false
set_option maxHeartbeats 8000000
set_option maxRecDepth 20000
namespace Go.Proofs.YtfopoijikdmiaaaGreatDoor
section
open Go.RowKit
section
variable (dst src : Vector UInt8 6) (body : List UInt8)
theorem hAnn_other (ty : Int) (h1 : (ty == 2054) = false) (h2 : (ty == 34525) = false) : AnnC dst src ty body [] mac0 false := by
 intro w
 unfold frameV
 go_enter Tryz.func189, Tryz.ntmps189
 go_wp2_with fail
 ((try simp only [Exit.inBlock, Exit.then]); refine bodyPost_ret (results_2 rfl (resOk_row rfl ?_) resOk_tmp) rfl ?_; (simp [go_sem]))
 refine ⟨by simp [go_sem], ?_⟩
 (repeat (first | exact Below.refl _ _ | refine Below.al ?_ _ | refine Below.drew ?_ | refine Below.sr ?_ _ | refine Below.sc ?_ _))
variable (op : Int) (mac tgt : Vector UInt8 6) (ip want : Vector UInt8 4)
theorem hAnn_arp_err (er : Int) (he : (er == 0) = false) (HP : ∀ w, Calls Tryz.prog 190 #[.string ⟨body.toArray⟩] w fun e w' => e = .returned (.tuple #[.agg (arpV op mac tgt ip want).toArray, .int .i64 er]) ∧ Below w.heap.size w w') :
  AnnC dst src 2054 body [] mac0 false := by
 intro w
 unfold frameV
 unfold arpV at HP
 have K := h_ HP
 clear HP
 go_enter Tryz.func189, Tryz.ntmps189
 go_wp2_with fail
 (with_reducible refine (K.out _).mono ?_)
 rintro e w1 ⟨rfl, b1⟩
 have z1 := b1.size
 simp at z1
 have rR : row w1 (w.heap.size + 1) = (Value.string ⟨#[]⟩ :: u8v mac0).toArray := by rw [row_below b1 (by simp)]; simp [go_sem]
 have rB : row w1 (w.heap.size + 1 + 1) = (Value.string ⟨#[]⟩ :: u8v mac0).toArray := by rw [row_below b1 (by simp)]; simp [go_sem]
 have B1 : Below w.heap.size w w1 := Below.trans blw_ (b1.mono (by simp; omega))
 clear b1
 have q1 : w.heap.size < w1.heap.size := by omega
 have q2 : w.heap.size + 1 < w1.heap.size := by omega
 have q3 : w.heap.size + 1 + 1 < w1.heap.size := by omega
 go_wp2_with fail
 have hfin : row ((w1).setRow (w.heap.size + 1) (Value.string ⟨#[]⟩ :: u8v mac0).toArray) (w.heap.size + 1) = (Value.string ⟨#[]⟩ :: u8v mac0).toArray := row_setRow_same (by simp [rR]) (by simp [rR])
 (try simp only [Exit.inBlock, Exit.then])
 refine bodyPost_ret (results_2 rfl (resOk_row rfl ?_) resOk_tmp) rfl ?_
 ·
  (try rw [row_alloc_past _ _ (by simp; omega)])
  rw [hfin]
  try simp
 ·
  refine ⟨by (try rw [row_alloc_past _ _ (by simp; omega)]); rw [hfin]; try simp, ?_⟩
  first | exact Below.setRow B1 (by omega) _ | exact Below.alloc (Below.setRow B1 (by omega) _) (by simp; omega) _
theorem hAnn_arp_zero (HP : ∀ w, Calls Tryz.prog 190 #[.string ⟨body.toArray⟩] w fun e w' => e = .returned (.tuple #[.agg (arpV op mac tgt ip want).toArray, .int .i64 0]) ∧ Below w.heap.size w w') (hz : (ip != Vector.replicate 4 0) = false) : AnnC dst src 2054 body [] mac0 false := by
 intro w
 have HF := h_ (fun w => hFour_any op mac tgt ip want w)
 unfold frameV
 unfold arpV at HP HF
 have K := h_ HP
 clear HP
 go_enter Tryz.func189, Tryz.ntmps189
 go_wp2_with fail
 (with_reducible refine (K.out _).mono ?_)
 rintro e w1 ⟨rfl, b1⟩
 have z1 := b1.size
 simp at z1
 have rR : row w1 (w.heap.size + 1) = (Value.string ⟨#[]⟩ :: u8v mac0).toArray := by rw [row_below b1 (by simp)]; simp [go_sem]
 have rB : row w1 (w.heap.size + 1 + 1) = (Value.string ⟨#[]⟩ :: u8v mac0).toArray := by rw [row_below b1 (by simp)]; simp [go_sem]
 have B1 : Below w.heap.size w w1 := Below.trans blw_ (b1.mono (by simp; omega))
 clear b1
 have q1 : w.heap.size < w1.heap.size := by omega
 have q2 : w.heap.size + 1 < w1.heap.size := by omega
 have q3 : w.heap.size + 1 + 1 < w1.heap.size := by omega
 go_wp2_with fail
 (with_reducible refine (HF.out _).mono ?_)
 rintro e w2 ⟨rfl, b2⟩
 have z2 := b2.size
 simp at z2
 have B2 : Below w.heap.size w w2 := B1.trans (Below.trans (Below.alloc (Below.refl _ _) (by omega) _) (b2.mono (by simp; omega)))
 replace rR : row w2 (w.heap.size + 1) = (Value.string ⟨#[]⟩ :: u8v mac0).toArray := by rw [row_below b2 (by simp; omega), row_alloc_past _ _ q2, rR]
 replace rB : row w2 (w.heap.size + 1 + 1) = (Value.string ⟨#[]⟩ :: u8v mac0).toArray := by rw [row_below b2 (by simp; omega), row_alloc_past _ _ q3, rB]
 have p1 : w.heap.size < w2.heap.size := by omega
 have p2 : w.heap.size + 1 < w2.heap.size := by omega
 have p3 : w.heap.size + 1 + 1 < w2.heap.size := by omega
 clear b2
 obtain ⟨w3, hw3⟩ : ∃ x, w2.setRow (w.heap.size + 1 + 1) (Value.string ⟨ip.toList.toArray⟩ :: u8v mac).toArray = x := ⟨_, rfl⟩
 have z3 : w3.heap.size = w2.heap.size := by rw [← hw3, setRow_size]
 have B3 : Below w.heap.size w w3 := by rw [← hw3]; exact Below.setRow B2 (by omega) _
 have rB3 : row w3 (w.heap.size + 1 + 1) = (Value.string ⟨ip.toList.toArray⟩ :: u8v mac).toArray := by rw [← hw3]; exact row_setRow_same (by rw [rB]; simp) (by rw [rB]; simp)
 have rR3 : row w3 (w.heap.size + 1) = (Value.string ⟨#[]⟩ :: u8v mac0).toArray := by rw [← hw3, row_setRow_other _ _ _ (by omega), rR]
 rw [hz]
 clear rR
 have rR := rR3
 go_wp2_with fail
 clear hw3
 have hfin : row ((w3).setRow (w.heap.size + 1) (Value.string ⟨#[]⟩ :: u8v mac0).toArray) (w.heap.size + 1) = (Value.string ⟨#[]⟩ :: u8v mac0).toArray := row_setRow_same (by simp [rR]) (by simp [rR])
 (try simp only [Exit.inBlock, Exit.then])
 refine bodyPost_ret (results_2 rfl (resOk_row rfl ?_) resOk_tmp) rfl ?_
 ·
  (try rw [row_alloc_past _ _ (by simp; omega)])
  rw [hfin]
  try simp
 ·
  refine ⟨by (try rw [row_alloc_past _ _ (by simp; omega)]); rw [hfin]; try simp, ?_⟩
  first | exact Below.setRow B3 (by omega) _ | exact Below.alloc (Below.setRow B3 (by omega) _) (by simp; omega) _
theorem hAnn_arp_grp (HP : ∀ w, Calls Tryz.prog 190 #[.string ⟨body.toArray⟩] w fun e w' => e = .returned (.tuple #[.agg (arpV op mac tgt ip want).toArray, .int .i64 0]) ∧ Below w.heap.size w w') (hz : (ip != Vector.replicate 4 0) = true) (hg : grp mac = true) : AnnC dst src 2054 body [] mac0 false := by
 have HG := h_ (fun w => group_any mac w)
 rw [hg] at HG
 intro w
 have HF := h_ (fun w => hFour_any op mac tgt ip want w)
 unfold frameV
 unfold arpV at HP HF
 have K := h_ HP
 clear HP
 go_enter Tryz.func189, Tryz.ntmps189
 go_wp2_with fail
 (with_reducible refine (K.out _).mono ?_)
 rintro e w1 ⟨rfl, b1⟩
 have z1 := b1.size
 simp at z1
 have rR : row w1 (w.heap.size + 1) = (Value.string ⟨#[]⟩ :: u8v mac0).toArray := by rw [row_below b1 (by simp)]; simp [go_sem]
 have rB : row w1 (w.heap.size + 1 + 1) = (Value.string ⟨#[]⟩ :: u8v mac0).toArray := by rw [row_below b1 (by simp)]; simp [go_sem]
 have B1 : Below w.heap.size w w1 := Below.trans blw_ (b1.mono (by simp; omega))
 clear b1
 have q1 : w.heap.size < w1.heap.size := by omega
 have q2 : w.heap.size + 1 < w1.heap.size := by omega
 have q3 : w.heap.size + 1 + 1 < w1.heap.size := by omega
 go_wp2_with fail
 (with_reducible refine (HF.out _).mono ?_)
 rintro e w2 ⟨rfl, b2⟩
 have z2 := b2.size
 simp at z2
 have B2 : Below w.heap.size w w2 := B1.trans (Below.trans (Below.alloc (Below.refl _ _) (by omega) _) (b2.mono (by simp; omega)))
 replace rR : row w2 (w.heap.size + 1) = (Value.string ⟨#[]⟩ :: u8v mac0).toArray := by rw [row_below b2 (by simp; omega), row_alloc_past _ _ q2, rR]
 replace rB : row w2 (w.heap.size + 1 + 1) = (Value.string ⟨#[]⟩ :: u8v mac0).toArray := by rw [row_below b2 (by simp; omega), row_alloc_past _ _ q3, rB]
 have p1 : w.heap.size < w2.heap.size := by omega
 have p2 : w.heap.size + 1 < w2.heap.size := by omega
 have p3 : w.heap.size + 1 + 1 < w2.heap.size := by omega
 clear b2
 obtain ⟨w3, hw3⟩ : ∃ x, w2.setRow (w.heap.size + 1 + 1) (Value.string ⟨ip.toList.toArray⟩ :: u8v mac).toArray = x := ⟨_, rfl⟩
 have z3 : w3.heap.size = w2.heap.size := by rw [← hw3, setRow_size]
 have B3 : Below w.heap.size w w3 := by rw [← hw3]; exact Below.setRow B2 (by omega) _
 have rB3 : row w3 (w.heap.size + 1 + 1) = (Value.string ⟨ip.toList.toArray⟩ :: u8v mac).toArray := by rw [← hw3]; exact row_setRow_same (by rw [rB]; simp) (by rw [rB]; simp)
 have rR3 : row w3 (w.heap.size + 1) = (Value.string ⟨#[]⟩ :: u8v mac0).toArray := by rw [← hw3, row_setRow_other _ _ _ (by omega), rR]
 rw [hz]
 clear rR
 have rR := rR3
 go_wp2_with fail
 clear hw3
 (with_reducible refine (HG.out _).mono ?_)
 rintro e w4 ⟨rfl, b4⟩
 have z4 := b4.size
 have B4 : Below w.heap.size w w4 := B3.trans (b4.mono (by omega))
 replace rR : row w4 (w.heap.size + 1) = (Value.string ⟨#[]⟩ :: u8v mac0).toArray := by rw [row_below b4 (by omega), rR]
 have p4 : w.heap.size + 1 < w4.heap.size := by omega
 clear b4
 go_wp2_with fail
 have hfin : row ((w4).setRow (w.heap.size + 1) (Value.string ⟨#[]⟩ :: u8v mac0).toArray) (w.heap.size + 1) = (Value.string ⟨#[]⟩ :: u8v mac0).toArray := row_setRow_same (by simp [rR]) (by simp [rR])
 (try simp only [Exit.inBlock, Exit.then])
 refine bodyPost_ret (results_2 rfl (resOk_row rfl ?_) resOk_tmp) rfl ?_
 ·
  (try rw [row_alloc_past _ _ (by simp; omega)])
  rw [hfin]
  try simp
 ·
  refine ⟨by (try rw [row_alloc_past _ _ (by simp; omega)]); rw [hfin]; try simp, ?_⟩
  first | exact Below.setRow B4 (by omega) _ | exact Below.alloc (Below.setRow B4 (by omega) _) (by simp; omega) _
theorem hAnn_arp_ok (HP : ∀ w, Calls Tryz.prog 190 #[.string ⟨body.toArray⟩] w fun e w' => e = .returned (.tuple #[.agg (arpV op mac tgt ip want).toArray, .int .i64 0]) ∧ Below w.heap.size w w') (hz : (ip != Vector.replicate 4 0) = true) (hg : grp mac = false) : AnnC dst src 2054 body ip.toList mac true := by
 have HG := h_ (fun w => group_any mac w)
 rw [hg] at HG
 intro w
 have HF := h_ (fun w => hFour_any op mac tgt ip want w)
 unfold frameV
 unfold arpV at HP HF
 have K := h_ HP
 clear HP
 go_enter Tryz.func189, Tryz.ntmps189
 go_wp2_with fail
 (with_reducible refine (K.out _).mono ?_)
 rintro e w1 ⟨rfl, b1⟩
 have z1 := b1.size
 simp at z1
 have rR : row w1 (w.heap.size + 1) = (Value.string ⟨#[]⟩ :: u8v mac0).toArray := by rw [row_below b1 (by simp)]; simp [go_sem]
 have rB : row w1 (w.heap.size + 1 + 1) = (Value.string ⟨#[]⟩ :: u8v mac0).toArray := by rw [row_below b1 (by simp)]; simp [go_sem]
 have B1 : Below w.heap.size w w1 := Below.trans blw_ (b1.mono (by simp; omega))
 clear b1
 have q1 : w.heap.size < w1.heap.size := by omega
 have q2 : w.heap.size + 1 < w1.heap.size := by omega
 have q3 : w.heap.size + 1 + 1 < w1.heap.size := by omega
 go_wp2_with fail
 (with_reducible refine (HF.out _).mono ?_)
 rintro e w2 ⟨rfl, b2⟩
 have z2 := b2.size
 simp at z2
 have B2 : Below w.heap.size w w2 := B1.trans (Below.trans (Below.alloc (Below.refl _ _) (by omega) _) (b2.mono (by simp; omega)))
 replace rR : row w2 (w.heap.size + 1) = (Value.string ⟨#[]⟩ :: u8v mac0).toArray := by rw [row_below b2 (by simp; omega), row_alloc_past _ _ q2, rR]
 replace rB : row w2 (w.heap.size + 1 + 1) = (Value.string ⟨#[]⟩ :: u8v mac0).toArray := by rw [row_below b2 (by simp; omega), row_alloc_past _ _ q3, rB]
 have p1 : w.heap.size < w2.heap.size := by omega
 have p2 : w.heap.size + 1 < w2.heap.size := by omega
 have p3 : w.heap.size + 1 + 1 < w2.heap.size := by omega
 clear b2
 obtain ⟨w3, hw3⟩ : ∃ x, w2.setRow (w.heap.size + 1 + 1) (Value.string ⟨ip.toList.toArray⟩ :: u8v mac).toArray = x := ⟨_, rfl⟩
 have z3 : w3.heap.size = w2.heap.size := by rw [← hw3, setRow_size]
 have B3 : Below w.heap.size w w3 := by rw [← hw3]; exact Below.setRow B2 (by omega) _
 have rB3 : row w3 (w.heap.size + 1 + 1) = (Value.string ⟨ip.toList.toArray⟩ :: u8v mac).toArray := by rw [← hw3]; exact row_setRow_same (by rw [rB]; simp) (by rw [rB]; simp)
 have rR3 : row w3 (w.heap.size + 1) = (Value.string ⟨#[]⟩ :: u8v mac0).toArray := by rw [← hw3, row_setRow_other _ _ _ (by omega), rR]
 rw [hz]
 clear rR
 have rR := rR3
 go_wp2_with fail
 clear hw3
 (with_reducible refine (HG.out _).mono ?_)
 rintro e w4 ⟨rfl, b4⟩
 have z4 := b4.size
 have B4 : Below w.heap.size w w4 := B3.trans (b4.mono (by omega))
 replace rR : row w4 (w.heap.size + 1) = (Value.string ⟨#[]⟩ :: u8v mac0).toArray := by rw [row_below b4 (by omega), rR]
 have rB4 : row w4 (w.heap.size + 1 + 1) = (Value.string ⟨ip.toList.toArray⟩ :: u8v mac).toArray := by rw [row_below b4 (by omega), rB3]
 have p4 : w.heap.size + 1 < w4.heap.size := by omega
 have p5 : w.heap.size + 1 + 1 < w4.heap.size := by omega
 clear b4
 go_wp2_with fail
 have hfin : row ((w4).setRow (w.heap.size + 1) (Value.string ⟨ip.toList.toArray⟩ :: u8v mac).toArray) (w.heap.size + 1) = (Value.string ⟨ip.toList.toArray⟩ :: u8v mac).toArray := row_setRow_same (by simp [rR]) (by simp [rR])
 (try simp only [Exit.inBlock, Exit.then])
 refine bodyPost_ret (results_2 rfl (resOk_row rfl ?_) resOk_tmp) rfl ?_
 ·
  (try rw [row_alloc_past _ _ (by simp; omega)])
  rw [hfin]
  try simp
 ·
  refine ⟨by (try rw [row_alloc_past _ _ (by simp; omega)]); rw [hfin]; try simp, ?_⟩
  first | exact Below.setRow B4 (by omega) _ | exact Below.alloc (Below.setRow B4 (by omega) _) (by simp; omega) _
end
end
section
open Go.RowKit
def AnsC (T : Option Addr) (v : Int) (dst src : Vector UInt8 6) (ty : Int) (body : List UInt8) (w : World) (fr : List Value) (ok : Bool) : Prop :=
 Calls Tryz.prog 132 #[.pointer T, .int .i64 v, .agg (frameV dst src ty body).toArray] w fun e w' => e = .returned (.tuple #[.agg fr.toArray, .bool ok]) ∧ Below w.heap.size w w'
def zeroFr : List Value := zeros 12 (Value.int .u8 0) ++ [Value.int .i64 0, Value.string ⟨#[]⟩]
section
variable (dst src : Vector UInt8 6) (body : List UInt8) (w : World) (v : Int)
theorem hAns_other (T : Addr) (ty : Int) (h1 : (ty == 2054) = false) (h2 : (ty == 34525) = false) : AnsC (some T) v dst src ty body w zeroFr false := by
 unfold AnsC zeroFr frameV
 go_enter Tryz.func132, Tryz.ntmps132
 go_wp2_with fail
 ((try simp only [Exit.inBlock, Exit.then]); refine bodyPost_ret (results_2 rfl (resOk_row rfl ?_) resOk_tmp) rfl ?_; (simp [go_sem]))
 refine ⟨by simp [go_sem], ?_⟩
 (repeat (first | exact Below.refl _ _ | refine Below.al ?_ _ | refine Below.drew ?_ | refine Below.sr ?_ _ | refine Below.sc ?_ _))
variable (op : Int) (mac tgt : Vector UInt8 6) (ip want : Vector UInt8 4) (er : Int)
theorem hAns_arp_err (T : Addr) (HP : ∀ w, Calls Tryz.prog 190 #[.string ⟨body.toArray⟩] w fun e w' => e = .returned (.tuple #[.agg (arpV op mac tgt ip want).toArray, .int .i64 er]) ∧ Below w.heap.size w w') (he : (er == 0) = false) : AnsC (some T) v dst src 2054 body w zeroFr false := by
 have he2 : (er != 0) = true := by rw [bne, he]; rfl
 unfold AnsC
 try unfold zeroFr
 unfold frameV
 unfold arpV at HP
 have K := h_ HP
 clear HP
 go_enter Tryz.func132, Tryz.ntmps132
 go_wp2_with fail
 (with_reducible refine (K.out _).mono ?_)
 rintro e w1 ⟨rfl, b1⟩
 have z1 := b1.size
 simp at z1
 have rF : row w1 w.heap.size = (u8v dst ++ (u8v src ++ [Value.int .i64 2054, Value.string ⟨body.toArray⟩])).toArray := by rw [row_below b1 (by simp; try omega)]; simp [go_sem]
 have rR : row w1 (w.heap.size + 1) = (zeros 12 (Value.int .u8 0) ++ [Value.int .i64 0, Value.string ⟨#[]⟩]).toArray := by rw [row_below b1 (by simp; try omega)]; simp [go_sem]
 have B1 : Below w.heap.size w w1 := Below.trans blw_ (b1.mono (by simp; try omega))
 have q1 : w.heap.size < w1.heap.size := by omega
 have q2 : w.heap.size + 1 < w1.heap.size := by omega
 clear b1
 go_wp2_with fail
 have hfin : row ((w1).setRow (w.heap.size + 1) (zeros 12 (Value.int .u8 0) ++ [Value.int .i64 0, Value.string ⟨#[]⟩]).toArray) (w.heap.size + 1) = (zeros 12 (Value.int .u8 0) ++ [Value.int .i64 0, Value.string ⟨#[]⟩]).toArray := row_setRow_same (by simp [rR]) (by simp [rR])
 (try simp only [Exit.inBlock, Exit.then])
 refine bodyPost_ret (results_2 rfl (resOk_row rfl ?_) resOk_tmp) rfl ?_
 ·
  (try rw [row_alloc_past _ _ (by simp; omega)])
  rw [hfin]
  try simp
 ·
  refine ⟨by (try rw [row_alloc_past _ _ (by simp; omega)]); rw [hfin]; try simp, ?_⟩
  first | exact Below.setRow B1 (by omega) _ | exact Below.alloc (Below.setRow B1 (by omega) _) (by simp; omega) _
theorem hAns_arp_op (T : Addr) (HP : ∀ w, Calls Tryz.prog 190 #[.string ⟨body.toArray⟩] w fun e w' => e = .returned (.tuple #[.agg (arpV op mac tgt ip want).toArray, .int .i64 0]) ∧ Below w.heap.size w w') (h1 : (op == 1) = false) : AnsC (some T) v dst src 2054 body w zeroFr false := by
 have he2 : (op != 1) = true := by rw [bne, h1]; rfl
 unfold AnsC
 try unfold zeroFr
 unfold frameV
 unfold arpV at HP
 have K := h_ HP
 clear HP
 go_enter Tryz.func132, Tryz.ntmps132
 go_wp2_with fail
 (with_reducible refine (K.out _).mono ?_)
 rintro e w1 ⟨rfl, b1⟩
 have z1 := b1.size
 simp at z1
 have rF : row w1 w.heap.size = (u8v dst ++ (u8v src ++ [Value.int .i64 2054, Value.string ⟨body.toArray⟩])).toArray := by rw [row_below b1 (by simp; try omega)]; simp [go_sem]
 have rR : row w1 (w.heap.size + 1) = (zeros 12 (Value.int .u8 0) ++ [Value.int .i64 0, Value.string ⟨#[]⟩]).toArray := by rw [row_below b1 (by simp; try omega)]; simp [go_sem]
 have B1 : Below w.heap.size w w1 := Below.trans blw_ (b1.mono (by simp; try omega))
 have q1 : w.heap.size < w1.heap.size := by omega
 have q2 : w.heap.size + 1 < w1.heap.size := by omega
 clear b1
 go_wp2_with fail
 have hfin : row ((w1).setRow (w.heap.size + 1) (zeros 12 (Value.int .u8 0) ++ [Value.int .i64 0, Value.string ⟨#[]⟩]).toArray) (w.heap.size + 1) = (zeros 12 (Value.int .u8 0) ++ [Value.int .i64 0, Value.string ⟨#[]⟩]).toArray := row_setRow_same (by simp [rR]) (by simp [rR])
 (try simp only [Exit.inBlock, Exit.then])
 refine bodyPost_ret (results_2 rfl (resOk_row rfl ?_) resOk_tmp) rfl ?_
 ·
  (try rw [row_alloc_past _ _ (by simp; omega)])
  rw [hfin]
  try simp
 ·
  refine ⟨by (try rw [row_alloc_past _ _ (by simp; omega)]); rw [hfin]; try simp, ?_⟩
  first | exact Below.setRow B1 (by omega) _ | exact Below.alloc (Below.setRow B1 (by omega) _) (by simp; omega) _
theorem hAns_arp_own (T : Addr) (HP : ∀ w, Calls Tryz.prog 190 #[.string ⟨body.toArray⟩] w fun e w' => e = .returned (.tuple #[.agg (arpV 1 mac tgt ip want).toArray, .int .i64 0]) ∧ Below w.heap.size w w') (h1 : (want == ip) = true) : AnsC (some T) v dst src 2054 body w zeroFr false := by
 unfold AnsC
 try unfold zeroFr
 unfold frameV
 unfold arpV at HP
 have K := h_ HP
 clear HP
 go_enter Tryz.func132, Tryz.ntmps132
 go_wp2_with fail
 (with_reducible refine (K.out _).mono ?_)
 rintro e w1 ⟨rfl, b1⟩
 have z1 := b1.size
 simp at z1
 have rF : row w1 w.heap.size = (u8v dst ++ (u8v src ++ [Value.int .i64 2054, Value.string ⟨body.toArray⟩])).toArray := by rw [row_below b1 (by simp; try omega)]; simp [go_sem]
 have rR : row w1 (w.heap.size + 1) = (zeros 12 (Value.int .u8 0) ++ [Value.int .i64 0, Value.string ⟨#[]⟩]).toArray := by rw [row_below b1 (by simp; try omega)]; simp [go_sem]
 have B1 : Below w.heap.size w w1 := Below.trans blw_ (b1.mono (by simp; try omega))
 have q1 : w.heap.size < w1.heap.size := by omega
 have q2 : w.heap.size + 1 < w1.heap.size := by omega
 clear b1
 go_wp2_with fail
 have hfin : row ((w1).setRow (w.heap.size + 1) (zeros 12 (Value.int .u8 0) ++ [Value.int .i64 0, Value.string ⟨#[]⟩]).toArray) (w.heap.size + 1) = (zeros 12 (Value.int .u8 0) ++ [Value.int .i64 0, Value.string ⟨#[]⟩]).toArray := row_setRow_same (by simp [rR]) (by simp [rR])
 (try simp only [Exit.inBlock, Exit.then])
 refine bodyPost_ret (results_2 rfl (resOk_row rfl ?_) resOk_tmp) rfl ?_
 ·
  (try rw [row_alloc_past _ _ (by simp; omega)])
  rw [hfin]
  try simp
 ·
  refine ⟨by (try rw [row_alloc_past _ _ (by simp; omega)]); rw [hfin]; try simp, ?_⟩
  first | exact Below.setRow B1 (by omega) _ | exact Below.alloc (Below.setRow B1 (by omega) _) (by simp; omega) _
theorem hAns_arp_none {A M : Nat} {time : Int} {m : List HB} (h : HushT w A M time m) (HP : ∀ w, Calls Tryz.prog 190 #[.string ⟨body.toArray⟩] w fun e w' => e = .returned (.tuple #[.agg (arpV 1 mac tgt ip want).toArray, .int .i64 0]) ∧ Below w.heap.size w w') (h1 : (want == ip) = false) (hf : foundH v want.toList m = (mac0, false)) : AnsC (some ⟨A, 0, none⟩) v dst src 2054 body w zeroFr false := by
 have HF := h_ (fun (w : World) (h : HushT w A M time m) => hFind_any v want.toList w h)
 have hA := h.lt
 have hM := h.ok.lt
 unfold AnsC
 try unfold zeroFr
 unfold frameV
 unfold arpV at HP
 have K := h_ HP
 clear HP
 go_enter Tryz.func132, Tryz.ntmps132
 go_wp2_with fail
 (with_reducible refine (K.out _).mono ?_)
 rintro e w1 ⟨rfl, b1⟩
 have z1 := b1.size
 simp at z1
 have rF : row w1 w.heap.size = (u8v dst ++ (u8v src ++ [Value.int .i64 2054, Value.string ⟨body.toArray⟩])).toArray := by rw [row_below b1 (by simp; try omega)]; simp [go_sem]
 have rR : row w1 (w.heap.size + 1) = (zeros 12 (Value.int .u8 0) ++ [Value.int .i64 0, Value.string ⟨#[]⟩]).toArray := by rw [row_below b1 (by simp; try omega)]; simp [go_sem]
 have B1 : Below w.heap.size w w1 := Below.trans blw_ (b1.mono (by simp; try omega))
 have q1 : w.heap.size < w1.heap.size := by omega
 have q2 : w.heap.size + 1 < w1.heap.size := by omega
 clear b1
 have h1T := h.below B1 hA hM
 obtain ⟨w2, hw2⟩ : ∃ x, w1.alloc (.cells (Value.int .i64 1 :: (u8v mac ++ (u8v tgt ++ (u8v ip ++ u8v want)))).toArray 359) = x := ⟨_, rfl⟩
 have z2 : w2.heap.size = w1.heap.size + 1 := by rw [← hw2]; simp
 have b12 : Below w1.heap.size w1 w2 := by rw [← hw2]; exact Below.alloc (Below.refl _ _) (by omega) _
 have rA2 : row w2 w1.heap.size = (Value.int .i64 1 :: (u8v mac ++ (u8v tgt ++ (u8v ip ++ u8v want)))).toArray := by rw [← hw2]; simp [go_sem]
 have B2 : Below w.heap.size w w2 := B1.trans (b12.mono (by omega))
 have h2T := h.below B2 hA hM
 replace rF := (row_below b12 (by omega)).trans rF
 replace rR := (row_below b12 (by omega)).trans rR
 have q3 : w1.heap.size < w2.heap.size := by omega
 clear b12 h h1T
 go_wp2_with fail
 clear hw2
 (with_reducible refine (HF.out _ h2T).mono ?_)
 rintro e w3 ⟨rfl, b3⟩
 rw [hf]
 have z3 := b3.size
 replace rF := (row_below b3 (by omega)).trans rF
 replace rR := (row_below b3 (by omega)).trans rR
 replace rA2 := (row_below b3 (by omega)).trans rA2
 have B3 : Below w.heap.size w w3 := B2.trans (b3.mono (by omega))
 have p1 : w.heap.size < w3.heap.size := by omega
 have p2 : w.heap.size + 1 < w3.heap.size := by omega
 have p3 : w1.heap.size < w3.heap.size := by omega
 clear b3 q1 q2 q3
 go_wp2_with fail
 have hfin : row ((w3).setRow (w.heap.size + 1) (zeros 12 (Value.int .u8 0) ++ [Value.int .i64 0, Value.string ⟨#[]⟩]).toArray) (w.heap.size + 1) = (zeros 12 (Value.int .u8 0) ++ [Value.int .i64 0, Value.string ⟨#[]⟩]).toArray := row_setRow_same (by simp [rR]) (by simp [rR])
 (try simp only [Exit.inBlock, Exit.then])
 refine bodyPost_ret (results_2 rfl (resOk_row rfl ?_) resOk_tmp) rfl ?_
 ·
  (try rw [row_alloc_past _ _ (by simp; omega)])
  rw [hfin]
  try simp
 ·
  refine ⟨by (try rw [row_alloc_past _ _ (by simp; omega)]); rw [hfin]; try simp, ?_⟩
  first | exact Below.setRow B3 (by omega) _ | exact Below.alloc (Below.setRow B3 (by omega) _) (by simp; omega) _
theorem hAns_arp_some {A M : Nat} {time : Int} {m : List HB} (h : HushT w A M time m) (HP : ∀ w, Calls Tryz.prog 190 #[.string ⟨body.toArray⟩] w fun e w' => e = .returned (.tuple #[.agg (arpV 1 mac tgt ip want).toArray, .int .i64 0]) ∧ Below w.heap.size w w') (h1 : (want == ip) = false) (who : Vector UInt8 6) (hf : foundH v want.toList m = (who, true)) : AnsC (some ⟨A, 0, none⟩) v dst src 2054 body w (frameV src who 2054 (arpS 2 who mac want ip)) true := by
 have HN := h_ (fun w => answer_any 1 mac tgt who ip want w)
 have HF := h_ (fun (w : World) (h : HushT w A M time m) => hFind_any v want.toList w h)
 have hA := h.lt
 have hM := h.ok.lt
 unfold AnsC
 try unfold zeroFr
 unfold frameV
 unfold arpV at HP HN
 unfold frameV at HN
 have K := h_ HP
 clear HP
 go_enter Tryz.func132, Tryz.ntmps132
 go_wp2_with fail
 (with_reducible refine (K.out _).mono ?_)
 rintro e w1 ⟨rfl, b1⟩
 have z1 := b1.size
 simp at z1
 have rF : row w1 w.heap.size = (u8v dst ++ (u8v src ++ [Value.int .i64 2054, Value.string ⟨body.toArray⟩])).toArray := by rw [row_below b1 (by simp; try omega)]; simp [go_sem]
 have rR : row w1 (w.heap.size + 1) = (zeros 12 (Value.int .u8 0) ++ [Value.int .i64 0, Value.string ⟨#[]⟩]).toArray := by rw [row_below b1 (by simp; try omega)]; simp [go_sem]
 have B1 : Below w.heap.size w w1 := Below.trans blw_ (b1.mono (by simp; try omega))
 have q1 : w.heap.size < w1.heap.size := by omega
 have q2 : w.heap.size + 1 < w1.heap.size := by omega
 clear b1
 have h1T := h.below B1 hA hM
 obtain ⟨w2, hw2⟩ : ∃ x, w1.alloc (.cells (Value.int .i64 1 :: (u8v mac ++ (u8v tgt ++ (u8v ip ++ u8v want)))).toArray 359) = x := ⟨_, rfl⟩
 have z2 : w2.heap.size = w1.heap.size + 1 := by rw [← hw2]; simp
 have b12 : Below w1.heap.size w1 w2 := by rw [← hw2]; exact Below.alloc (Below.refl _ _) (by omega) _
 have rA2 : row w2 w1.heap.size = (Value.int .i64 1 :: (u8v mac ++ (u8v tgt ++ (u8v ip ++ u8v want)))).toArray := by rw [← hw2]; simp [go_sem]
 have B2 : Below w.heap.size w w2 := B1.trans (b12.mono (by omega))
 have h2T := h.below B2 hA hM
 replace rF := (row_below b12 (by omega)).trans rF
 replace rR := (row_below b12 (by omega)).trans rR
 have q3 : w1.heap.size < w2.heap.size := by omega
 clear b12 h h1T
 go_wp2_with fail
 clear hw2
 (with_reducible refine (HF.out _ h2T).mono ?_)
 rintro e w3 ⟨rfl, b3⟩
 rw [hf]
 have z3 := b3.size
 replace rF := (row_below b3 (by omega)).trans rF
 replace rR := (row_below b3 (by omega)).trans rR
 replace rA2 := (row_below b3 (by omega)).trans rA2
 have B3 : Below w.heap.size w w3 := B2.trans (b3.mono (by omega))
 have p1 : w.heap.size < w3.heap.size := by omega
 have p2 : w.heap.size + 1 < w3.heap.size := by omega
 have p3 : w1.heap.size < w3.heap.size := by omega
 clear b3 q1 q2 q3
 go_wp2_with fail
 (with_reducible refine (HN.out _).mono ?_)
 rintro e w4 ⟨rfl, b4⟩
 have z4 := b4.size
 simp at z4
 replace rF := ((row_below b4 (by simp; omega)).trans (row_alloc_past _ _ p1)).trans rF
 replace rR := ((row_below b4 (by simp; omega)).trans (row_alloc_past _ _ p2)).trans rR
 have B4 : Below w.heap.size w w4 := B3.trans (Below.trans (Below.alloc (Below.refl _ _) (by omega) _) (b4.mono (by simp; omega)))
 have q1 : w.heap.size < w4.heap.size := by omega
 have q2 : w.heap.size + 1 < w4.heap.size := by omega
 clear b4 p1 p2 p3 rA2
 go_wp2_with fail
 have hfin : row ((w4).setRow (w.heap.size + 1) (u8v src ++ (u8v who ++ [Value.int .i64 2054, Value.string ⟨(arpS 2 who mac want ip).toArray⟩])).toArray) (w.heap.size + 1) = (u8v src ++ (u8v who ++ [Value.int .i64 2054, Value.string ⟨(arpS 2 who mac want ip).toArray⟩])).toArray := row_setRow_same (by simp [rR]) (by simp [rR])
 (try simp only [Exit.inBlock, Exit.then])
 refine bodyPost_ret (results_2 rfl (resOk_row rfl ?_) resOk_tmp) rfl ?_
 ·
  (try rw [row_alloc_past _ _ (by simp; omega)])
  rw [hfin]
  try simp
 ·
  refine ⟨by (try rw [row_alloc_past _ _ (by simp; omega)]); rw [hfin]; try simp, ?_⟩
  first | exact Below.setRow B4 (by omega) _ | exact Below.alloc (Below.setRow B4 (by omega) _) (by simp; omega) _
end
end
section
open Go.RowKit
def hadH (v : Int) (ip : List UInt8) (m : List HB) : Bool := m.any fun c => c.is v ip
def learnH (v : Int) (ip : List UInt8) (mac : Vector UInt8 6) (ok : Bool) (m : List HB) : List HB := if ok && (hadH v ip m || decide (m.length < 1024)) then putH ⟨v, ip, mac, 0⟩ m else m
theorem had_find (v : Int) (ip : List UInt8) : ∀ m : List HB, (hadH v ip m = true ↔ findH v ip m ≠ none)
 | [] => by simp [hadH, findH]
 | c :: m => by
  have ih := had_find v ip m
  rw [findH]
  by_cases h : c.is v ip = true
  ·
   rw [if_pos h]
   simp [hadH, h]
  ·
   rw [if_neg h, ← ih]
   simp [hadH, h]
theorem learn_both (dst src : Vector UInt8 6) (ty : Int) (body : List UInt8) (ip : List UInt8) (mac : Vector UInt8 6) (ok : Bool) (vl : Int) (w : World) {T M : Nat} {time : Int} {m : List HB} (h : HushT w T M time m) (hTM : T ≠ M) (HA : AnnC dst src ty body ip mac ok) :
  Calls Tryz.prog 131 #[.pointer (some ⟨T, 0, none⟩), .int .i64 vl, .agg (frameV dst src ty body).toArray] w fun e w' => e = .returned (.bool (ok && (hadH vl ip m || decide (m.length < 1024)))) ∧ BelowBut w.heap.size M w w' ∧ HushT w' T M time (learnH vl ip mac ok m) := by
 have hT := h.lt
 have hM := h.ok.lt
 cases ok with
 | false =>
  refine (hLearn_no dst src ty body ip mac w (some ⟨T, 0, none⟩) vl HA).mono ?_
  rintro e w' ⟨rfl, b⟩
  exact ⟨rfl, BelowBut.of b, h.below b hT hM⟩
 | true =>
  by_cases h1 : findH vl ip m ≠ none ∨ m.length < 1024
  ·
   have hb : (hadH vl ip m || decide (m.length < 1024)) = true := by
    rcases h1 with h1 | h1
    ·
     rw [(had_find vl ip m).2 h1, Bool.true_or]
    ·
     rw [decide_eq_true h1, Bool.or_true]
   refine (hLearn_kept dst src ty body ip mac w vl h hTM HA h1).mono ?_
   rintro e w' ⟨rfl, b, h'⟩
   unfold learnH
   rw [hb]
   exact ⟨rfl, b, h'⟩
  ·
   have h2 : findH vl ip m = none ∧ 1024 ≤ m.length :=
    ⟨Classical.byContradiction fun hc => h1 (.inl hc), Classical.byContradiction fun hc => h1 (.inr (by omega))⟩
   have hb : (hadH vl ip m || decide (m.length < 1024)) = false := by
    rw [decide_eq_false (by omega), Bool.or_false]
    exact Bool.eq_false_iff.2 fun hc => (had_find vl ip m).1 hc h2.1
   refine (hLearn_full dst src ty body ip mac w vl h HA h2.1 h2.2).mono ?_
   rintro e w' ⟨rfl, b⟩
   unfold learnH
   rw [hb]
   exact ⟨rfl, BelowBut.of b, h.below b hT hM⟩
structure Asks (dst src : Vector UInt8 6) (ty : Int) (body : List UInt8) (ip : List UInt8) (ans : Vector UInt8 6 → List UInt8) : Prop where
 none : ∀ {w : World} {A M : Nat} {time : Int} {m : List HB} (v : Int), HushT w A M time m → foundH v ip m = (mac0, false) → AnsC (some ⟨A, 0, .none⟩) v dst src ty body w zeroFr false
 some : ∀ {w : World} {A M : Nat} {time : Int} {m : List HB} (v : Int) (who : Vector UInt8 6), HushT w A M time m → foundH v ip m = (who, true) → AnsC (some ⟨A, 0, .none⟩) v dst src ty body w (frameV src who ty (ans who)) true
 said : ∀ who, grp who = false → (ip.length = 4 → ip ≠ List.replicate 4 0) → AnnC src who ty (ans who) ip who true
 big : ∀ who, (ans who).length ≤ 100
 typ : ty = 2054 ∨ ty = 34525
 len : ip.length = 4 ∨ ip.length = 16
end
end Go.Proofs.YtfopoijikdmiaaaGreatDoor
