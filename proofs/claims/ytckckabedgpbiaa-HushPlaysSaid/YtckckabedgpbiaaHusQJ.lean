/- Contracts of package hush: questions of chapter 9 that are answered. -/
import Derived.Test.YtckckabedgpbiaaHusBJ
set_option linter.unusedSimpArgs false
set_option linter.unusedVariables false
set_option maxRecDepth 4000
namespace Go.Proofs.Ytckckabedgpbiaa
open Go.RowKit
def AnsC (T : Option Addr) (v : Int) (dst src : Vector UInt8 6) (ty : Int) (body : List UInt8) (w : World) (fr : List Value) (ok : Bool) : Prop :=
 Calls Try.prog 16 #[.pointer T, .int .i64 v, .agg (frameV dst src ty body).toArray] w fun e w' => e = .returned (.tuple #[.agg fr.toArray, .bool ok]) ∧ Below w.heap.size w w'
def zeroFr : List Value := zeros 12 (Value.int .u8 0) ++ [Value.int .i64 0, Value.string ⟨#[]⟩]
section
variable (dst src : Vector UInt8 6) (body : List UInt8) (w : World) (v : Int)
theorem hAns_other (T : Addr) (ty : Int) (h1 : (ty == 2054) = false) (h2 : (ty == 34525) = false) : AnsC (some T) v dst src ty body w zeroFr false := by
 unfold AnsC zeroFr frameV
 go_enter Try.func16, Try.ntmps16
 go_wp2_with fail
 ((try simp only [Exit.inBlock, Exit.then]); refine bodyPost_ret (results_2 rfl (resOk_row rfl ?_) resOk_tmp) rfl ?_; (simp [go_sem]))
 refine ⟨by simp [go_sem], ?_⟩
 (repeat (first | exact Below.refl _ _ | refine Below.al ?_ _ | refine Below.drew ?_ | refine Below.sr ?_ _ | refine Below.sc ?_ _))
variable (op : Int) (mac tgt : Vector UInt8 6) (ip want : Vector UInt8 4) (er : Int)
theorem hAns_arp_err (T : Addr) (HP : ∀ w, Calls Try.prog 43 #[.string ⟨body.toArray⟩] w fun e w' => e = .returned (.tuple #[.agg (arpV op mac tgt ip want).toArray, .int .i64 er]) ∧ Below w.heap.size w w') (he : (er == 0) = false) : AnsC (some T) v dst src 2054 body w zeroFr false := by
 have he2 : (er != 0) = true := by rw [bne, he]; rfl
 unfold AnsC
 try unfold zeroFr
 unfold frameV
 unfold arpV at HP
 have K := Lib.hid HP
 clear HP
 go_enter Try.func16, Try.ntmps16
 go_wp2_with fail
 (with_reducible refine (K.out _).mono ?_)
 rintro e w1 ⟨rfl, b1⟩
 have z1 := b1.size
 simp at z1
 have rF : row w1 w.heap.size = (u8v dst ++ (u8v src ++ [Value.int .i64 2054, Value.string ⟨body.toArray⟩])).toArray := by rw [row_below b1 (by simp; try omega)]; simp [go_sem]
 have rR : row w1 (w.heap.size + 1) = (zeros 12 (Value.int .u8 0) ++ [Value.int .i64 0, Value.string ⟨#[]⟩]).toArray := by rw [row_below b1 (by simp; try omega)]; simp [go_sem]
 have B1 : Below w.heap.size w w1 := Below.trans (by (repeat (first | exact Below.refl _ _ | refine Below.al ?_ _ | refine Below.drew ?_ | refine Below.sr ?_ _ | refine Below.sc ?_ _))) (b1.mono (by simp; try omega))
 have q1 : w.heap.size < w1.heap.size := by omega
 have q2 : w.heap.size + 1 < w1.heap.size := by omega
 clear b1
 go_wp2_with fail
 have hfin : row ((w1).setRow (w.heap.size + 1) (zeros 12 (Value.int .u8 0) ++ [Value.int .i64 0, Value.string ⟨#[]⟩]).toArray) (w.heap.size + 1) = (zeros 12 (Value.int .u8 0) ++ [Value.int .i64 0, Value.string ⟨#[]⟩]).toArray := row_setRow_same (by simp [rR]) (by simp [rR])
 (try simp only [Exit.inBlock, Exit.then])
 refine bodyPost_ret (results_2 rfl (resOk_row rfl ?_) resOk_tmp) rfl ?_
 ·
  (try rw [row_alloc_past _ _ (by simp; omega)])
  rw [hfin]
  try simp
 ·
  refine ⟨by (try rw [row_alloc_past _ _ (by simp; omega)]); rw [hfin]; try simp, ?_⟩
  first | exact Below.setRow B1 (by omega) _ | exact Below.alloc (Below.setRow B1 (by omega) _) (by simp; omega) _
theorem hAns_arp_op (T : Addr) (HP : ∀ w, Calls Try.prog 43 #[.string ⟨body.toArray⟩] w fun e w' => e = .returned (.tuple #[.agg (arpV op mac tgt ip want).toArray, .int .i64 0]) ∧ Below w.heap.size w w') (h1 : (op == 1) = false) : AnsC (some T) v dst src 2054 body w zeroFr false := by
 have he2 : (op != 1) = true := by rw [bne, h1]; rfl
 unfold AnsC
 try unfold zeroFr
 unfold frameV
 unfold arpV at HP
 have K := Lib.hid HP
 clear HP
 go_enter Try.func16, Try.ntmps16
 go_wp2_with fail
 (with_reducible refine (K.out _).mono ?_)
 rintro e w1 ⟨rfl, b1⟩
 have z1 := b1.size
 simp at z1
 have rF : row w1 w.heap.size = (u8v dst ++ (u8v src ++ [Value.int .i64 2054, Value.string ⟨body.toArray⟩])).toArray := by rw [row_below b1 (by simp; try omega)]; simp [go_sem]
 have rR : row w1 (w.heap.size + 1) = (zeros 12 (Value.int .u8 0) ++ [Value.int .i64 0, Value.string ⟨#[]⟩]).toArray := by rw [row_below b1 (by simp; try omega)]; simp [go_sem]
 have B1 : Below w.heap.size w w1 := Below.trans (by (repeat (first | exact Below.refl _ _ | refine Below.al ?_ _ | refine Below.drew ?_ | refine Below.sr ?_ _ | refine Below.sc ?_ _))) (b1.mono (by simp; try omega))
 have q1 : w.heap.size < w1.heap.size := by omega
 have q2 : w.heap.size + 1 < w1.heap.size := by omega
 clear b1
 go_wp2_with fail
 have hfin : row ((w1).setRow (w.heap.size + 1) (zeros 12 (Value.int .u8 0) ++ [Value.int .i64 0, Value.string ⟨#[]⟩]).toArray) (w.heap.size + 1) = (zeros 12 (Value.int .u8 0) ++ [Value.int .i64 0, Value.string ⟨#[]⟩]).toArray := row_setRow_same (by simp [rR]) (by simp [rR])
 (try simp only [Exit.inBlock, Exit.then])
 refine bodyPost_ret (results_2 rfl (resOk_row rfl ?_) resOk_tmp) rfl ?_
 ·
  (try rw [row_alloc_past _ _ (by simp; omega)])
  rw [hfin]
  try simp
 ·
  refine ⟨by (try rw [row_alloc_past _ _ (by simp; omega)]); rw [hfin]; try simp, ?_⟩
  first | exact Below.setRow B1 (by omega) _ | exact Below.alloc (Below.setRow B1 (by omega) _) (by simp; omega) _
theorem hAns_arp_own (T : Addr) (HP : ∀ w, Calls Try.prog 43 #[.string ⟨body.toArray⟩] w fun e w' => e = .returned (.tuple #[.agg (arpV 1 mac tgt ip want).toArray, .int .i64 0]) ∧ Below w.heap.size w w') (h1 : (want == ip) = true) : AnsC (some T) v dst src 2054 body w zeroFr false := by
 unfold AnsC
 try unfold zeroFr
 unfold frameV
 unfold arpV at HP
 have K := Lib.hid HP
 clear HP
 go_enter Try.func16, Try.ntmps16
 go_wp2_with fail
 (with_reducible refine (K.out _).mono ?_)
 rintro e w1 ⟨rfl, b1⟩
 have z1 := b1.size
 simp at z1
 have rF : row w1 w.heap.size = (u8v dst ++ (u8v src ++ [Value.int .i64 2054, Value.string ⟨body.toArray⟩])).toArray := by rw [row_below b1 (by simp; try omega)]; simp [go_sem]
 have rR : row w1 (w.heap.size + 1) = (zeros 12 (Value.int .u8 0) ++ [Value.int .i64 0, Value.string ⟨#[]⟩]).toArray := by rw [row_below b1 (by simp; try omega)]; simp [go_sem]
 have B1 : Below w.heap.size w w1 := Below.trans (by (repeat (first | exact Below.refl _ _ | refine Below.al ?_ _ | refine Below.drew ?_ | refine Below.sr ?_ _ | refine Below.sc ?_ _))) (b1.mono (by simp; try omega))
 have q1 : w.heap.size < w1.heap.size := by omega
 have q2 : w.heap.size + 1 < w1.heap.size := by omega
 clear b1
 go_wp2_with fail
 have hfin : row ((w1).setRow (w.heap.size + 1) (zeros 12 (Value.int .u8 0) ++ [Value.int .i64 0, Value.string ⟨#[]⟩]).toArray) (w.heap.size + 1) = (zeros 12 (Value.int .u8 0) ++ [Value.int .i64 0, Value.string ⟨#[]⟩]).toArray := row_setRow_same (by simp [rR]) (by simp [rR])
 (try simp only [Exit.inBlock, Exit.then])
 refine bodyPost_ret (results_2 rfl (resOk_row rfl ?_) resOk_tmp) rfl ?_
 ·
  (try rw [row_alloc_past _ _ (by simp; omega)])
  rw [hfin]
  try simp
 ·
  refine ⟨by (try rw [row_alloc_past _ _ (by simp; omega)]); rw [hfin]; try simp, ?_⟩
  first | exact Below.setRow B1 (by omega) _ | exact Below.alloc (Below.setRow B1 (by omega) _) (by simp; omega) _
theorem hAns_arp_none {A M : Nat} {time : Int} {m : List HB} (h : HushT w A M time m) (HP : ∀ w, Calls Try.prog 43 #[.string ⟨body.toArray⟩] w fun e w' => e = .returned (.tuple #[.agg (arpV 1 mac tgt ip want).toArray, .int .i64 0]) ∧ Below w.heap.size w w') (h1 : (want == ip) = false) (hf : foundH v want.toList m = (mac0, false)) : AnsC (some ⟨A, 0, none⟩) v dst src 2054 body w zeroFr false := by
 have HF := Lib.hid (fun (w : World) (h : HushT w A M time m) => hFind_any v want.toList w h)
 have hA := h.lt
 have hM := h.ok.lt
 unfold AnsC
 try unfold zeroFr
 unfold frameV
 unfold arpV at HP
 have K := Lib.hid HP
 clear HP
 go_enter Try.func16, Try.ntmps16
 go_wp2_with fail
 (with_reducible refine (K.out _).mono ?_)
 rintro e w1 ⟨rfl, b1⟩
 have z1 := b1.size
 simp at z1
 have rF : row w1 w.heap.size = (u8v dst ++ (u8v src ++ [Value.int .i64 2054, Value.string ⟨body.toArray⟩])).toArray := by rw [row_below b1 (by simp; try omega)]; simp [go_sem]
 have rR : row w1 (w.heap.size + 1) = (zeros 12 (Value.int .u8 0) ++ [Value.int .i64 0, Value.string ⟨#[]⟩]).toArray := by rw [row_below b1 (by simp; try omega)]; simp [go_sem]
 have B1 : Below w.heap.size w w1 := Below.trans (by (repeat (first | exact Below.refl _ _ | refine Below.al ?_ _ | refine Below.drew ?_ | refine Below.sr ?_ _ | refine Below.sc ?_ _))) (b1.mono (by simp; try omega))
 have q1 : w.heap.size < w1.heap.size := by omega
 have q2 : w.heap.size + 1 < w1.heap.size := by omega
 clear b1
 have h1T := h.below B1 hA hM
 obtain ⟨w2, hw2⟩ : ∃ x, w1.alloc (.cells (Value.int .i64 1 :: (u8v mac ++ (u8v tgt ++ (u8v ip ++ u8v want)))).toArray 112) = x := ⟨_, rfl⟩
 have z2 : w2.heap.size = w1.heap.size + 1 := by rw [← hw2]; simp
 have b12 : Below w1.heap.size w1 w2 := by rw [← hw2]; exact Below.alloc (Below.refl _ _) (by omega) _
 have rA2 : row w2 w1.heap.size = (Value.int .i64 1 :: (u8v mac ++ (u8v tgt ++ (u8v ip ++ u8v want)))).toArray := by rw [← hw2]; simp [go_sem]
 have B2 : Below w.heap.size w w2 := B1.trans (b12.mono (by omega))
 have h2T := h.below B2 hA hM
 replace rF := (row_below b12 (by omega)).trans rF
 replace rR := (row_below b12 (by omega)).trans rR
 have q3 : w1.heap.size < w2.heap.size := by omega
 clear b12 h h1T
 go_wp2_with fail
 clear hw2
 (with_reducible refine (HF.out _ h2T).mono ?_)
 rintro e w3 ⟨rfl, b3⟩
 rw [hf]
 have z3 := b3.size
 replace rF := (row_below b3 (by omega)).trans rF
 replace rR := (row_below b3 (by omega)).trans rR
 replace rA2 := (row_below b3 (by omega)).trans rA2
 have B3 : Below w.heap.size w w3 := B2.trans (b3.mono (by omega))
 have p1 : w.heap.size < w3.heap.size := by omega
 have p2 : w.heap.size + 1 < w3.heap.size := by omega
 have p3 : w1.heap.size < w3.heap.size := by omega
 clear b3 q1 q2 q3
 go_wp2_with fail
 have hfin : row ((w3).setRow (w.heap.size + 1) (zeros 12 (Value.int .u8 0) ++ [Value.int .i64 0, Value.string ⟨#[]⟩]).toArray) (w.heap.size + 1) = (zeros 12 (Value.int .u8 0) ++ [Value.int .i64 0, Value.string ⟨#[]⟩]).toArray := row_setRow_same (by simp [rR]) (by simp [rR])
 (try simp only [Exit.inBlock, Exit.then])
 refine bodyPost_ret (results_2 rfl (resOk_row rfl ?_) resOk_tmp) rfl ?_
 ·
  (try rw [row_alloc_past _ _ (by simp; omega)])
  rw [hfin]
  try simp
 ·
  refine ⟨by (try rw [row_alloc_past _ _ (by simp; omega)]); rw [hfin]; try simp, ?_⟩
  first | exact Below.setRow B3 (by omega) _ | exact Below.alloc (Below.setRow B3 (by omega) _) (by simp; omega) _
theorem hAns_arp_some {A M : Nat} {time : Int} {m : List HB} (h : HushT w A M time m) (HP : ∀ w, Calls Try.prog 43 #[.string ⟨body.toArray⟩] w fun e w' => e = .returned (.tuple #[.agg (arpV 1 mac tgt ip want).toArray, .int .i64 0]) ∧ Below w.heap.size w w') (h1 : (want == ip) = false) (who : Vector UInt8 6) (hf : foundH v want.toList m = (who, true)) : AnsC (some ⟨A, 0, none⟩) v dst src 2054 body w (frameV src who 2054 (arpS 2 who mac want ip)) true := by
 have HN := Lib.hid (fun w => answer_any 1 mac tgt who ip want w)
 have HF := Lib.hid (fun (w : World) (h : HushT w A M time m) => hFind_any v want.toList w h)
 have hA := h.lt
 have hM := h.ok.lt
 unfold AnsC
 try unfold zeroFr
 unfold frameV
 unfold arpV at HP HN
 unfold frameV at HN
 have K := Lib.hid HP
 clear HP
 go_enter Try.func16, Try.ntmps16
 go_wp2_with fail
 (with_reducible refine (K.out _).mono ?_)
 rintro e w1 ⟨rfl, b1⟩
 have z1 := b1.size
 simp at z1
 have rF : row w1 w.heap.size = (u8v dst ++ (u8v src ++ [Value.int .i64 2054, Value.string ⟨body.toArray⟩])).toArray := by rw [row_below b1 (by simp; try omega)]; simp [go_sem]
 have rR : row w1 (w.heap.size + 1) = (zeros 12 (Value.int .u8 0) ++ [Value.int .i64 0, Value.string ⟨#[]⟩]).toArray := by rw [row_below b1 (by simp; try omega)]; simp [go_sem]
 have B1 : Below w.heap.size w w1 := Below.trans (by (repeat (first | exact Below.refl _ _ | refine Below.al ?_ _ | refine Below.drew ?_ | refine Below.sr ?_ _ | refine Below.sc ?_ _))) (b1.mono (by simp; try omega))
 have q1 : w.heap.size < w1.heap.size := by omega
 have q2 : w.heap.size + 1 < w1.heap.size := by omega
 clear b1
 have h1T := h.below B1 hA hM
 obtain ⟨w2, hw2⟩ : ∃ x, w1.alloc (.cells (Value.int .i64 1 :: (u8v mac ++ (u8v tgt ++ (u8v ip ++ u8v want)))).toArray 112) = x := ⟨_, rfl⟩
 have z2 : w2.heap.size = w1.heap.size + 1 := by rw [← hw2]; simp
 have b12 : Below w1.heap.size w1 w2 := by rw [← hw2]; exact Below.alloc (Below.refl _ _) (by omega) _
 have rA2 : row w2 w1.heap.size = (Value.int .i64 1 :: (u8v mac ++ (u8v tgt ++ (u8v ip ++ u8v want)))).toArray := by rw [← hw2]; simp [go_sem]
 have B2 : Below w.heap.size w w2 := B1.trans (b12.mono (by omega))
 have h2T := h.below B2 hA hM
 replace rF := (row_below b12 (by omega)).trans rF
 replace rR := (row_below b12 (by omega)).trans rR
 have q3 : w1.heap.size < w2.heap.size := by omega
 clear b12 h h1T
 go_wp2_with fail
 clear hw2
 (with_reducible refine (HF.out _ h2T).mono ?_)
 rintro e w3 ⟨rfl, b3⟩
 rw [hf]
 have z3 := b3.size
 replace rF := (row_below b3 (by omega)).trans rF
 replace rR := (row_below b3 (by omega)).trans rR
 replace rA2 := (row_below b3 (by omega)).trans rA2
 have B3 : Below w.heap.size w w3 := B2.trans (b3.mono (by omega))
 have p1 : w.heap.size < w3.heap.size := by omega
 have p2 : w.heap.size + 1 < w3.heap.size := by omega
 have p3 : w1.heap.size < w3.heap.size := by omega
 clear b3 q1 q2 q3
 go_wp2_with fail
 (with_reducible refine (HN.out _).mono ?_)
 rintro e w4 ⟨rfl, b4⟩
 have z4 := b4.size
 simp at z4
 replace rF := ((row_below b4 (by simp; omega)).trans (row_alloc_past _ _ p1)).trans rF
 replace rR := ((row_below b4 (by simp; omega)).trans (row_alloc_past _ _ p2)).trans rR
 have B4 : Below w.heap.size w w4 := B3.trans (Below.trans (Below.alloc (Below.refl _ _) (by omega) _) (b4.mono (by simp; omega)))
 have q1 : w.heap.size < w4.heap.size := by omega
 have q2 : w.heap.size + 1 < w4.heap.size := by omega
 clear b4 p1 p2 p3 rA2
 go_wp2_with fail
 have hfin : row ((w4).setRow (w.heap.size + 1) (u8v src ++ (u8v who ++ [Value.int .i64 2054, Value.string ⟨(arpS 2 who mac want ip).toArray⟩])).toArray) (w.heap.size + 1) = (u8v src ++ (u8v who ++ [Value.int .i64 2054, Value.string ⟨(arpS 2 who mac want ip).toArray⟩])).toArray := row_setRow_same (by simp [rR]) (by simp [rR])
 (try simp only [Exit.inBlock, Exit.then])
 refine bodyPost_ret (results_2 rfl (resOk_row rfl ?_) resOk_tmp) rfl ?_
 ·
  (try rw [row_alloc_past _ _ (by simp; omega)])
  rw [hfin]
  try simp
 ·
  refine ⟨by (try rw [row_alloc_past _ _ (by simp; omega)]); rw [hfin]; try simp, ?_⟩
  first | exact Below.setRow B4 (by omega) _ | exact Below.alloc (Below.setRow B4 (by omega) _) (by simp; omega) _
end
end Go.Proofs.Ytckckabedgpbiaa
