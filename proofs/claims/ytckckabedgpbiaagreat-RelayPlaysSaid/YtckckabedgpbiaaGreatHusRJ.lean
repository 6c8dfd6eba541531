/- Contracts of the reference of chapter 21: what a frame announces. -/
import Derived.Test.YtckckabedgpbiaaGreatHusAJ
import Derived.Test.YtckckabedgpbiaaGreatJ28
import Derived.Test.YtckckabedgpbiaaGreatJ27
set_option linter.unusedSimpArgs false
set_option linter.unusedVariables false
set_option maxRecDepth 4000
namespace Go.Proofs.YtckckabedgpbiaaGreat
open Go.RowKit
def RAnnC (dst src : Vector UInt8 6) (ty : Int) (body : List UInt8) (ip : List UInt8) (mac : Vector UInt8 6) (ok : Bool) : Prop := ∀ w, Calls Tryz.prog 78 #[.agg (frameV dst src ty body).toArray] w fun e w' => e = .returned (.tuple #[.string ⟨ip.toArray⟩, .agg (u8v mac).toArray, .bool ok]) ∧ Below w.heap.size w w'
theorem grp_rem {mac : Vector UInt8 6} {b : Bool} (h : grp mac = b) : ((mac[0].toNat : Int) % 2 = if b then 1 else 0) ∧ ((mac[0].toNat : Int).tmod 2 = if b then 1 else 0) := by
 have : (mac[0].toNat : Int) % 2 = if b then 1 else 0 := by
  subst h
  unfold grp
  by_cases h : mac[0].toNat % 2 = 1
  ·
   simp [h]; omega
  ·
   simp [h]; omega
 refine ⟨this, ?_⟩
 rw [Int.tmod_eq_emod_of_nonneg (by omega)]
 exact this
section
variable (dst src : Vector UInt8 6) (body : List UInt8)
set_option maxRecDepth 20000 in
set_option maxHeartbeats 2000000 in
theorem rAnn_other (ty : Int) (h1 : (ty == 2054) = false) (h2 : (ty == 34525) = false) : RAnnC dst src ty body [] mac0 false := by
 intro w
 unfold frameV
 go_enter Tryz.func78, Tryz.ntmps78
 go_wp2_with fail
 (try simp only [Exit.inBlock, Exit.then])
 refine bodyPost_ret (results_3 rfl resOk_tmp (resOk_row rfl ?_) resOk_tmp) rfl ?_
 ·
  simp [go_sem]
 ·
  refine ⟨by simp [go_sem], ?_⟩
  (repeat (first | exact Below.refl _ _ | refine Below.al ?_ _ | refine Below.drew ?_ | refine Below.sr ?_ _ | refine Below.sc ?_ _))
section
variable (op : Int) (mac tgt : Vector UInt8 6) (ip want : Vector UInt8 4)
set_option maxRecDepth 20000 in
set_option maxHeartbeats 2000000 in
theorem rAnn_arp_err (er : Int) (HP : ∀ w, Calls Tryz.prog 79 #[.string ⟨body.toArray⟩] w fun e w' => e = .returned (.tuple #[.agg (arpV op mac tgt ip want).toArray, .int .i64 er]) ∧ Below w.heap.size w w') (he : (er == 0) = false) : RAnnC dst src 2054 body [] mac0 false := by
 intro w
 unfold arpV at HP
 have K := Lib.hid HP
 clear HP
 unfold frameV
 go_enter Tryz.func78, Tryz.ntmps78
 go_wp2_with fail
 (with_reducible refine (K.out _).mono ?_)
 rintro e w1 ⟨rfl, b1⟩
 have z1 := b1.size
 simp at z1
 have rF : row w1 w.heap.size = (u8v dst ++ (u8v src ++ [Value.int .i64 2054, Value.string ⟨body.toArray⟩])).toArray := by rw [row_below b1 (by simp; try omega)]; simp [go_sem]
 have rR : row w1 (w.heap.size + 1) = (u8v mac0).toArray := by rw [row_below b1 (by simp; try omega)]; simp [go_sem]
 have rM : row w1 (w.heap.size + 2) = (u8v mac0).toArray := by rw [row_below b1 (by simp; try omega)]; simp [go_sem]
 have B1 : Below w.heap.size w w1 := Below.trans (by (repeat (first | exact Below.refl _ _ | refine Below.al ?_ _ | refine Below.drew ?_ | refine Below.sr ?_ _ | refine Below.sc ?_ _))) (b1.mono (by simp; try omega))
 clear b1
 obtain ⟨w2, hw2⟩ : ∃ v, w1.alloc (.cells (Value.int .i64 op :: (u8v mac ++ (u8v tgt ++ (u8v ip ++ u8v want)))).toArray 178) = v := ⟨_, rfl⟩
 have rA : row w2 w1.heap.size = (Value.int .i64 op :: (u8v mac ++ (u8v tgt ++ (u8v ip ++ u8v want)))).toArray := by rw [← hw2]; exact row_alloc_at _ _ _ rfl
 have z2 : w2.heap.size = w1.heap.size + 1 := by rw [← hw2]; exact alloc_sizeW _ _
 have B2 : Below w.heap.size w w2 := by rw [← hw2]; exact Below.alloc B1 (by omega) _
 replace rF : row w2 w.heap.size = (u8v dst ++ (u8v src ++ [Value.int .i64 2054, Value.string ⟨body.toArray⟩])).toArray := by rw [← hw2, row_alloc_past _ _ (by omega)]; exact rF
 replace rR : row w2 (w.heap.size + 1) = (u8v mac0).toArray := by rw [← hw2, row_alloc_past _ _ (by omega)]; exact rR
 replace rM : row w2 (w.heap.size + 2) = (u8v mac0).toArray := by rw [← hw2, row_alloc_past _ _ (by omega)]; exact rM
 go_wp2_with fail
 clear hw2
 have hfin := row_setRow_same (w := w2) (g := w.heap.size + 1) (c := (u8v mac0).toArray) (by rw [rR]; simp) (by rw [rR])
 (try simp only [Exit.inBlock, Exit.then])
 refine bodyPost_ret (results_3 rfl resOk_tmp (resOk_row rfl ?_) resOk_tmp) rfl ?_
 ·
  first | (rw [hfin]; simp; done) | (rw [rR]; simp)
 ·
  exact ⟨by (rw [hfin]) <;> rfl, Below.setRow B2 (by omega) _⟩
set_option maxRecDepth 20000 in
set_option maxHeartbeats 2000000 in
theorem rAnn_arp_zero (HP : ∀ w, Calls Tryz.prog 79 #[.string ⟨body.toArray⟩] w fun e w' => e = .returned (.tuple #[.agg (arpV op mac tgt ip want).toArray, .int .i64 0]) ∧ Below w.heap.size w w') (hz : (ip != Vector.replicate 4 0) = false) : RAnnC dst src 2054 body [] mac0 false := by
 intro w
 have hz2 : (ip == Vector.replicate 4 0) = true := by simpa [bne] using hz
 unfold arpV at HP
 have K := Lib.hid HP
 clear HP
 unfold frameV
 go_enter Tryz.func78, Tryz.ntmps78
 go_wp2_with fail
 (with_reducible refine (K.out _).mono ?_)
 rintro e w1 ⟨rfl, b1⟩
 have z1 := b1.size
 simp at z1
 have rF : row w1 w.heap.size = (u8v dst ++ (u8v src ++ [Value.int .i64 2054, Value.string ⟨body.toArray⟩])).toArray := by rw [row_below b1 (by simp; try omega)]; simp [go_sem]
 have rR : row w1 (w.heap.size + 1) = (u8v mac0).toArray := by rw [row_below b1 (by simp; try omega)]; simp [go_sem]
 have rM : row w1 (w.heap.size + 2) = (u8v mac0).toArray := by rw [row_below b1 (by simp; try omega)]; simp [go_sem]
 have B1 : Below w.heap.size w w1 := Below.trans (by (repeat (first | exact Below.refl _ _ | refine Below.al ?_ _ | refine Below.drew ?_ | refine Below.sr ?_ _ | refine Below.sc ?_ _))) (b1.mono (by simp; try omega))
 clear b1
 obtain ⟨w2, hw2⟩ : ∃ v, w1.alloc (.cells (Value.int .i64 op :: (u8v mac ++ (u8v tgt ++ (u8v ip ++ u8v want)))).toArray 178) = v := ⟨_, rfl⟩
 have rA : row w2 w1.heap.size = (Value.int .i64 op :: (u8v mac ++ (u8v tgt ++ (u8v ip ++ u8v want)))).toArray := by rw [← hw2]; exact row_alloc_at _ _ _ rfl
 have z2 : w2.heap.size = w1.heap.size + 1 := by rw [← hw2]; exact alloc_sizeW _ _
 have B2 : Below w.heap.size w w2 := by rw [← hw2]; exact Below.alloc B1 (by omega) _
 replace rF : row w2 w.heap.size = (u8v dst ++ (u8v src ++ [Value.int .i64 2054, Value.string ⟨body.toArray⟩])).toArray := by rw [← hw2, row_alloc_past _ _ (by omega)]; exact rF
 replace rR : row w2 (w.heap.size + 1) = (u8v mac0).toArray := by rw [← hw2, row_alloc_past _ _ (by omega)]; exact rR
 replace rM : row w2 (w.heap.size + 2) = (u8v mac0).toArray := by rw [← hw2, row_alloc_past _ _ (by omega)]; exact rM
 go_wp2_with fail
 clear hw2
 have hfin := row_setRow_same (w := w2) (g := w.heap.size + 1) (c := (u8v mac0).toArray) (by rw [rR]; simp) (by rw [rR])
 (try simp only [Exit.inBlock, Exit.then])
 refine bodyPost_ret (results_3 rfl resOk_tmp (resOk_row rfl ?_) resOk_tmp) rfl ?_
 ·
  first | (rw [hfin]; simp; done) | (rw [rR]; simp)
 ·
  exact ⟨by (rw [hfin]) <;> rfl, Below.setRow B2 (by omega) _⟩
set_option maxRecDepth 20000 in
set_option maxHeartbeats 2000000 in
theorem rAnn_arp_ok (HP : ∀ w, Calls Tryz.prog 79 #[.string ⟨body.toArray⟩] w fun e w' => e = .returned (.tuple #[.agg (arpV op mac tgt ip want).toArray, .int .i64 0]) ∧ Below w.heap.size w w') (hz : (ip != Vector.replicate 4 0) = true) (hg : grp mac = false) : RAnnC dst src 2054 body ip.toList mac true := by
 intro w
 have hz2 : (ip == Vector.replicate 4 0) = false := by simpa [bne] using hz
 obtain ⟨hr1, hr2⟩ := grp_rem hg
 simp only [Bool.false_eq_true, if_false] at hr1 hr2
 have hnil : (ip.toList == ([] : List UInt8)) = false := by cases h : ip.toList with
  | nil => have := congrArg List.length h; simp at this
  | cons => rfl
 unfold arpV at HP
 have K := Lib.hid HP
 clear HP
 unfold frameV
 go_enter Tryz.func78, Tryz.ntmps78
 go_wp2_with fail
 (with_reducible refine (K.out _).mono ?_)
 rintro e w1 ⟨rfl, b1⟩
 have z1 := b1.size
 simp at z1
 have rF : row w1 w.heap.size = (u8v dst ++ (u8v src ++ [Value.int .i64 2054, Value.string ⟨body.toArray⟩])).toArray := by rw [row_below b1 (by simp; try omega)]; simp [go_sem]
 have rR : row w1 (w.heap.size + 1) = (u8v mac0).toArray := by rw [row_below b1 (by simp; try omega)]; simp [go_sem]
 have rM : row w1 (w.heap.size + 2) = (u8v mac0).toArray := by rw [row_below b1 (by simp; try omega)]; simp [go_sem]
 have B1 : Below w.heap.size w w1 := Below.trans (by (repeat (first | exact Below.refl _ _ | refine Below.al ?_ _ | refine Below.drew ?_ | refine Below.sr ?_ _ | refine Below.sc ?_ _))) (b1.mono (by simp; try omega))
 clear b1
 obtain ⟨w2, hw2⟩ : ∃ v, w1.alloc (.cells (Value.int .i64 op :: (u8v mac ++ (u8v tgt ++ (u8v ip ++ u8v want)))).toArray 178) = v := ⟨_, rfl⟩
 have rA : row w2 w1.heap.size = (Value.int .i64 op :: (u8v mac ++ (u8v tgt ++ (u8v ip ++ u8v want)))).toArray := by rw [← hw2]; exact row_alloc_at _ _ _ rfl
 have z2 : w2.heap.size = w1.heap.size + 1 := by rw [← hw2]; exact alloc_sizeW _ _
 have B2 : Below w.heap.size w w2 := by rw [← hw2]; exact Below.alloc B1 (by omega) _
 replace rF : row w2 w.heap.size = (u8v dst ++ (u8v src ++ [Value.int .i64 2054, Value.string ⟨body.toArray⟩])).toArray := by rw [← hw2, row_alloc_past _ _ (by omega)]; exact rF
 replace rR : row w2 (w.heap.size + 1) = (u8v mac0).toArray := by rw [← hw2, row_alloc_past _ _ (by omega)]; exact rR
 replace rM : row w2 (w.heap.size + 2) = (u8v mac0).toArray := by rw [← hw2, row_alloc_past _ _ (by omega)]; exact rM
 obtain ⟨w3, hw3⟩ : ∃ v, w2.setRow (w.heap.size + 2) (u8v mac).toArray = v := ⟨_, rfl⟩
 have rM3 : row w3 (w.heap.size + 2) = (u8v mac).toArray := by rw [← hw3]; exact row_setRow_same (by rw [rM]; simp) (by rw [rM]; simp)
 have rF3 : row w3 w.heap.size = (u8v dst ++ (u8v src ++ [Value.int .i64 2054, Value.string ⟨body.toArray⟩])).toArray := by rw [← hw3, row_setRow_other _ _ _ (by omega)]; exact rF
 have rR3 : row w3 (w.heap.size + 1) = (u8v mac0).toArray := by rw [← hw3, row_setRow_other _ _ _ (by omega)]; exact rR
 have rA3 : row w3 w1.heap.size = (Value.int .i64 op :: (u8v mac ++ (u8v tgt ++ (u8v ip ++ u8v want)))).toArray := by rw [← hw3, row_setRow_other _ _ _ (by omega)]; exact rA
 have z3 : w3.heap.size = w2.heap.size := by rw [← hw3, setRow_size]
 have B3 : Below w.heap.size w w3 := by rw [← hw3]; exact Below.setRow B2 (by omega) _
 have rM := rM3
 have hM0 : ((u8v mac)[0]'(by simp)) = Value.int .u8 (mac[0].toNat : Int) := by simp [u8v, u8s]
 have rF := rF3
 have rR := rR3
 clear rM3
 go_wp2_with fail
 clear hw3 hw2
 have rd : row w3.drew (w.heap.size + 1) = (u8v mac0).toArray := rR
 refine wp_region_beginR [(w.heap.size + 2, (u8v mac).toArray)] rfl (by simp only [Rws]; (repeat (first | exact trivial | refine ⟨(by first | assumption | (simp [go_sem, *]; done)), (by first | omega | (simp; done) | (simp; omega)), ?_⟩))) (fun hS => ?_)
 refine qp 0 hS ?_
 refine qp 1 hS ?_
 refine qp 2 hS ?_
 refine wpAnyR_store (i := 3) (b := (w.heap.size + 1)) (c := (u8v mac).toArray) (by simp only [List.getElem?_toArray, List.getElem?_cons_succ, List.getElem?_cons_zero]; rfl) rfl rfl (by kernel_rfl) (by simp; (try omega)) hS (by rw [rd]; simp; (try omega)) (fun w1 hr => by rw [rd] at hr; go_simp; (try rfl)) (fun u1 hu1 ru1 hS => ?_)
 refine qp 4 hS ?_
 refine wpAnyR_done (by kernel_rfl) (fun w9 h9 => ?_) _
 have zu1 : w3.heap.size ≤ u1.heap.size := hu1.size
 have r9 : row w9 (w.heap.size + 1) = (u8v mac).toArray := by
  rw [row_below h9 (by rw [setRow_size]; omega)]
  exact row_setRow_same (by rw [ru1, rd]; simp) (by rw [ru1, rd]; simp)
 have B9 : Below w.heap.size w w9 := Below.trans (Below.setRow (Below.trans B3 ((below_step (Below.drew (Below.refl _ _)) hu1).mono (by omega))) (by omega) _) (h9.mono (by rw [setRow_size]; omega))
 clear hS h9 hu1 ru1 rd
 go_wp2_with fail
 (try simp only [Exit.inBlock, Exit.then])
 refine bodyPost_ret (results_3 rfl resOk_tmp (resOk_row rfl ?_) resOk_tmp) rfl ?_
 ·
  rw [r9]; simp
 ·
  exact ⟨by rw [r9]; rfl, B9⟩
set_option maxRecDepth 20000 in
set_option maxHeartbeats 2000000 in
theorem rAnn_arp_grp (HP : ∀ w, Calls Tryz.prog 79 #[.string ⟨body.toArray⟩] w fun e w' => e = .returned (.tuple #[.agg (arpV op mac tgt ip want).toArray, .int .i64 0]) ∧ Below w.heap.size w w') (hz : (ip != Vector.replicate 4 0) = true) (hg : grp mac = true) : RAnnC dst src 2054 body [] mac0 false := by
 intro w
 have hz2 : (ip == Vector.replicate 4 0) = false := by simpa [bne] using hz
 obtain ⟨hr1, hr2⟩ := grp_rem hg
 simp only [Bool.false_eq_true, if_false, if_true] at hr1 hr2
 have hnil : (ip.toList == ([] : List UInt8)) = false := by cases h : ip.toList with
  | nil => have := congrArg List.length h; simp at this
  | cons => rfl
 unfold arpV at HP
 have K := Lib.hid HP
 clear HP
 unfold frameV
 go_enter Tryz.func78, Tryz.ntmps78
 go_wp2_with fail
 (with_reducible refine (K.out _).mono ?_)
 rintro e w1 ⟨rfl, b1⟩
 have z1 := b1.size
 simp at z1
 have rF : row w1 w.heap.size = (u8v dst ++ (u8v src ++ [Value.int .i64 2054, Value.string ⟨body.toArray⟩])).toArray := by rw [row_below b1 (by simp; try omega)]; simp [go_sem]
 have rR : row w1 (w.heap.size + 1) = (u8v mac0).toArray := by rw [row_below b1 (by simp; try omega)]; simp [go_sem]
 have rM : row w1 (w.heap.size + 2) = (u8v mac0).toArray := by rw [row_below b1 (by simp; try omega)]; simp [go_sem]
 have B1 : Below w.heap.size w w1 := Below.trans (by (repeat (first | exact Below.refl _ _ | refine Below.al ?_ _ | refine Below.drew ?_ | refine Below.sr ?_ _ | refine Below.sc ?_ _))) (b1.mono (by simp; try omega))
 clear b1
 obtain ⟨w2, hw2⟩ : ∃ v, w1.alloc (.cells (Value.int .i64 op :: (u8v mac ++ (u8v tgt ++ (u8v ip ++ u8v want)))).toArray 178) = v := ⟨_, rfl⟩
 have rA : row w2 w1.heap.size = (Value.int .i64 op :: (u8v mac ++ (u8v tgt ++ (u8v ip ++ u8v want)))).toArray := by rw [← hw2]; exact row_alloc_at _ _ _ rfl
 have z2 : w2.heap.size = w1.heap.size + 1 := by rw [← hw2]; exact alloc_sizeW _ _
 have B2 : Below w.heap.size w w2 := by rw [← hw2]; exact Below.alloc B1 (by omega) _
 replace rF : row w2 w.heap.size = (u8v dst ++ (u8v src ++ [Value.int .i64 2054, Value.string ⟨body.toArray⟩])).toArray := by rw [← hw2, row_alloc_past _ _ (by omega)]; exact rF
 replace rR : row w2 (w.heap.size + 1) = (u8v mac0).toArray := by rw [← hw2, row_alloc_past _ _ (by omega)]; exact rR
 replace rM : row w2 (w.heap.size + 2) = (u8v mac0).toArray := by rw [← hw2, row_alloc_past _ _ (by omega)]; exact rM
 obtain ⟨w3, hw3⟩ : ∃ v, w2.setRow (w.heap.size + 2) (u8v mac).toArray = v := ⟨_, rfl⟩
 have rM3 : row w3 (w.heap.size + 2) = (u8v mac).toArray := by rw [← hw3]; exact row_setRow_same (by rw [rM]; simp) (by rw [rM]; simp)
 have rF3 : row w3 w.heap.size = (u8v dst ++ (u8v src ++ [Value.int .i64 2054, Value.string ⟨body.toArray⟩])).toArray := by rw [← hw3, row_setRow_other _ _ _ (by omega)]; exact rF
 have rR3 : row w3 (w.heap.size + 1) = (u8v mac0).toArray := by rw [← hw3, row_setRow_other _ _ _ (by omega)]; exact rR
 have rA3 : row w3 w1.heap.size = (Value.int .i64 op :: (u8v mac ++ (u8v tgt ++ (u8v ip ++ u8v want)))).toArray := by rw [← hw3, row_setRow_other _ _ _ (by omega)]; exact rA
 have z3 : w3.heap.size = w2.heap.size := by rw [← hw3, setRow_size]
 have B3 : Below w.heap.size w w3 := by rw [← hw3]; exact Below.setRow B2 (by omega) _
 have rM := rM3
 have hM0 : ((u8v mac)[0]'(by simp)) = Value.int .u8 (mac[0].toNat : Int) := by simp [u8v, u8s]
 have rF := rF3
 have rR := rR3
 clear rM3
 go_wp2_with fail
 clear hw3 hw2
 have hfin := row_setRow_same (w := w3) (g := w.heap.size + 1) (c := (u8v mac0).toArray) (by rw [rR]; simp) (by rw [rR])
 (try simp only [Exit.inBlock, Exit.then])
 refine bodyPost_ret (results_3 rfl resOk_tmp (resOk_row rfl ?_) resOk_tmp) rfl ?_
 ·
  rw [hfin]; simp
 ·
  exact ⟨by (rw [hfin]) <;> rfl, Below.setRow B3 (by omega) _⟩
end
section
variable (fr to ab : Vector UInt8 16) (mac : Vector UInt8 6) (fl : Vector UInt8 4)
set_option maxRecDepth 20000 in
set_option maxHeartbeats 2000000 in
theorem rAnn_nd_err (op : Nat) (has : Bool) (n : Int) (HP : ParsesR body (ndV op fr to ab mac has fl) n) (he : (n == 0) = false) : RAnnC dst src 34525 body [] mac0 false := by
 intro w
 unfold ParsesR ndV at HP
 have K := Lib.hid HP
 clear HP
 unfold frameV
 go_enter Tryz.func78, Tryz.ntmps78
 go_wp2_with fail
 (with_reducible refine (K.out _).mono ?_)
 rintro e w1 ⟨rfl, b1⟩
 have z1 := b1.size
 simp at z1
 have rF : row w1 w.heap.size = (u8v dst ++ (u8v src ++ [Value.int .i64 34525, Value.string ⟨body.toArray⟩])).toArray := by rw [row_below b1 (by simp; try omega)]; simp [go_sem]
 have rR : row w1 (w.heap.size + 1) = (u8v mac0).toArray := by rw [row_below b1 (by simp; try omega)]; simp [go_sem]
 have rM : row w1 (w.heap.size + 2) = (u8v mac0).toArray := by rw [row_below b1 (by simp; try omega)]; simp [go_sem]
 have B1 : Below w.heap.size w w1 := Below.trans (by (repeat (first | exact Below.refl _ _ | refine Below.al ?_ _ | refine Below.drew ?_ | refine Below.sr ?_ _ | refine Below.sc ?_ _))) (b1.mono (by simp; try omega))
 clear b1
 obtain ⟨w2, hw2⟩ : ∃ v, w1.alloc (.cells (Value.int .i64 op :: (u8v fr ++ (u8v to ++ (u8v ab ++ (u8v mac ++ (Value.bool has :: u8v fl)))))).toArray 181) = v := ⟨_, rfl⟩
 have rA : row w2 w1.heap.size = (Value.int .i64 op :: (u8v fr ++ (u8v to ++ (u8v ab ++ (u8v mac ++ (Value.bool has :: u8v fl)))))).toArray := by rw [← hw2]; exact row_alloc_at _ _ _ rfl
 have z2 : w2.heap.size = w1.heap.size + 1 := by rw [← hw2]; exact alloc_sizeW _ _
 have B2 : Below w.heap.size w w2 := by rw [← hw2]; exact Below.alloc B1 (by omega) _
 replace rF : row w2 w.heap.size = (u8v dst ++ (u8v src ++ [Value.int .i64 34525, Value.string ⟨body.toArray⟩])).toArray := by rw [← hw2, row_alloc_past _ _ (by omega)]; exact rF
 replace rR : row w2 (w.heap.size + 1) = (u8v mac0).toArray := by rw [← hw2, row_alloc_past _ _ (by omega)]; exact rR
 replace rM : row w2 (w.heap.size + 2) = (u8v mac0).toArray := by rw [← hw2, row_alloc_past _ _ (by omega)]; exact rM
 go_wp2_with fail
 clear hw2
 have hfin := row_setRow_same (w := w2) (g := w.heap.size + 1) (c := (u8v mac0).toArray) (by rw [rR]; simp) (by rw [rR])
 (try simp only [Exit.inBlock, Exit.then])
 refine bodyPost_ret (results_3 rfl resOk_tmp (resOk_row rfl ?_) resOk_tmp) rfl ?_
 ·
  first | (rw [hfin]; simp; done) | (rw [rR]; simp)
 ·
  exact ⟨by (rw [hfin]) <;> rfl, Below.setRow B2 (by omega) _⟩
set_option maxRecDepth 20000 in
set_option maxHeartbeats 2000000 in
theorem rAnn_nd_not1 (HP : ParsesR body (ndV 1 fr to ab mac false fl) 0) : RAnnC dst src 34525 body [] mac0 false := by
 intro w
 unfold ParsesR ndV at HP
 have K := Lib.hid HP
 clear HP
 unfold frameV
 go_enter Tryz.func78, Tryz.ntmps78
 go_wp2_with fail
 (with_reducible refine (K.out _).mono ?_)
 rintro e w1 ⟨rfl, b1⟩
 have z1 := b1.size
 simp at z1
 have rF : row w1 w.heap.size = (u8v dst ++ (u8v src ++ [Value.int .i64 34525, Value.string ⟨body.toArray⟩])).toArray := by rw [row_below b1 (by simp; try omega)]; simp [go_sem]
 have rR : row w1 (w.heap.size + 1) = (u8v mac0).toArray := by rw [row_below b1 (by simp; try omega)]; simp [go_sem]
 have rM : row w1 (w.heap.size + 2) = (u8v mac0).toArray := by rw [row_below b1 (by simp; try omega)]; simp [go_sem]
 have B1 : Below w.heap.size w w1 := Below.trans (by (repeat (first | exact Below.refl _ _ | refine Below.al ?_ _ | refine Below.drew ?_ | refine Below.sr ?_ _ | refine Below.sc ?_ _))) (b1.mono (by simp; try omega))
 clear b1
 obtain ⟨w2, hw2⟩ : ∃ v, w1.alloc (.cells (Value.int .i64 1 :: (u8v fr ++ (u8v to ++ (u8v ab ++ (u8v mac ++ (Value.bool false :: u8v fl)))))).toArray 181) = v := ⟨_, rfl⟩
 have rA : row w2 w1.heap.size = (Value.int .i64 1 :: (u8v fr ++ (u8v to ++ (u8v ab ++ (u8v mac ++ (Value.bool false :: u8v fl)))))).toArray := by rw [← hw2]; exact row_alloc_at _ _ _ rfl
 have z2 : w2.heap.size = w1.heap.size + 1 := by rw [← hw2]; exact alloc_sizeW _ _
 have B2 : Below w.heap.size w w2 := by rw [← hw2]; exact Below.alloc B1 (by omega) _
 replace rF : row w2 w.heap.size = (u8v dst ++ (u8v src ++ [Value.int .i64 34525, Value.string ⟨body.toArray⟩])).toArray := by rw [← hw2, row_alloc_past _ _ (by omega)]; exact rF
 replace rR : row w2 (w.heap.size + 1) = (u8v mac0).toArray := by rw [← hw2, row_alloc_past _ _ (by omega)]; exact rR
 replace rM : row w2 (w.heap.size + 2) = (u8v mac0).toArray := by rw [← hw2, row_alloc_past _ _ (by omega)]; exact rM
 go_wp2_with fail
 clear hw2
 have hfin := row_setRow_same (w := w2) (g := w.heap.size + 1) (c := (u8v mac0).toArray) (by rw [rR]; simp) (by rw [rR])
 (try simp only [Exit.inBlock, Exit.then])
 refine bodyPost_ret (results_3 rfl resOk_tmp (resOk_row rfl ?_) resOk_tmp) rfl ?_
 ·
  first | (rw [hfin]; simp; done) | (rw [rR]; simp)
 ·
  exact ⟨by (rw [hfin]) <;> rfl, Below.setRow B2 (by omega) _⟩
set_option maxRecDepth 20000 in
set_option maxHeartbeats 2000000 in
theorem rAnn_nd_not2 (HP : ParsesR body (ndV 2 fr to ab mac false fl) 0) : RAnnC dst src 34525 body [] mac0 false := by
 intro w
 unfold ParsesR ndV at HP
 have K := Lib.hid HP
 clear HP
 unfold frameV
 go_enter Tryz.func78, Tryz.ntmps78
 go_wp2_with fail
 (with_reducible refine (K.out _).mono ?_)
 rintro e w1 ⟨rfl, b1⟩
 have z1 := b1.size
 simp at z1
 have rF : row w1 w.heap.size = (u8v dst ++ (u8v src ++ [Value.int .i64 34525, Value.string ⟨body.toArray⟩])).toArray := by rw [row_below b1 (by simp; try omega)]; simp [go_sem]
 have rR : row w1 (w.heap.size + 1) = (u8v mac0).toArray := by rw [row_below b1 (by simp; try omega)]; simp [go_sem]
 have rM : row w1 (w.heap.size + 2) = (u8v mac0).toArray := by rw [row_below b1 (by simp; try omega)]; simp [go_sem]
 have B1 : Below w.heap.size w w1 := Below.trans (by (repeat (first | exact Below.refl _ _ | refine Below.al ?_ _ | refine Below.drew ?_ | refine Below.sr ?_ _ | refine Below.sc ?_ _))) (b1.mono (by simp; try omega))
 clear b1
 obtain ⟨w2, hw2⟩ : ∃ v, w1.alloc (.cells (Value.int .i64 2 :: (u8v fr ++ (u8v to ++ (u8v ab ++ (u8v mac ++ (Value.bool false :: u8v fl)))))).toArray 181) = v := ⟨_, rfl⟩
 have rA : row w2 w1.heap.size = (Value.int .i64 2 :: (u8v fr ++ (u8v to ++ (u8v ab ++ (u8v mac ++ (Value.bool false :: u8v fl)))))).toArray := by rw [← hw2]; exact row_alloc_at _ _ _ rfl
 have z2 : w2.heap.size = w1.heap.size + 1 := by rw [← hw2]; exact alloc_sizeW _ _
 have B2 : Below w.heap.size w w2 := by rw [← hw2]; exact Below.alloc B1 (by omega) _
 replace rF : row w2 w.heap.size = (u8v dst ++ (u8v src ++ [Value.int .i64 34525, Value.string ⟨body.toArray⟩])).toArray := by rw [← hw2, row_alloc_past _ _ (by omega)]; exact rF
 replace rR : row w2 (w.heap.size + 1) = (u8v mac0).toArray := by rw [← hw2, row_alloc_past _ _ (by omega)]; exact rR
 replace rM : row w2 (w.heap.size + 2) = (u8v mac0).toArray := by rw [← hw2, row_alloc_past _ _ (by omega)]; exact rM
 go_wp2_with fail
 clear hw2
 have hfin := row_setRow_same (w := w2) (g := w.heap.size + 1) (c := (u8v mac0).toArray) (by rw [rR]; simp) (by rw [rR])
 (try simp only [Exit.inBlock, Exit.then])
 refine bodyPost_ret (results_3 rfl resOk_tmp (resOk_row rfl ?_) resOk_tmp) rfl ?_
 ·
  first | (rw [hfin]; simp; done) | (rw [rR]; simp)
 ·
  exact ⟨by (rw [hfin]) <;> rfl, Below.setRow B2 (by omega) _⟩
set_option maxRecDepth 20000 in
set_option maxHeartbeats 2000000 in
theorem rAnn_nd_zero (HP : ParsesR body (ndV 1 fr to ab mac true fl) 0) (hz : (fr != Vector.replicate 16 0) = false) : RAnnC dst src 34525 body [] mac0 false := by
 intro w
 have hz2 : (fr == Vector.replicate 16 0) = true := by simpa [bne] using hz
 unfold ParsesR ndV at HP
 have K := Lib.hid HP
 clear HP
 unfold frameV
 go_enter Tryz.func78, Tryz.ntmps78
 go_wp2_with fail
 (with_reducible refine (K.out _).mono ?_)
 rintro e w1 ⟨rfl, b1⟩
 have z1 := b1.size
 simp at z1
 have rF : row w1 w.heap.size = (u8v dst ++ (u8v src ++ [Value.int .i64 34525, Value.string ⟨body.toArray⟩])).toArray := by rw [row_below b1 (by simp; try omega)]; simp [go_sem]
 have rR : row w1 (w.heap.size + 1) = (u8v mac0).toArray := by rw [row_below b1 (by simp; try omega)]; simp [go_sem]
 have rM : row w1 (w.heap.size + 2) = (u8v mac0).toArray := by rw [row_below b1 (by simp; try omega)]; simp [go_sem]
 have B1 : Below w.heap.size w w1 := Below.trans (by (repeat (first | exact Below.refl _ _ | refine Below.al ?_ _ | refine Below.drew ?_ | refine Below.sr ?_ _ | refine Below.sc ?_ _))) (b1.mono (by simp; try omega))
 clear b1
 obtain ⟨w2, hw2⟩ : ∃ v, w1.alloc (.cells (Value.int .i64 1 :: (u8v fr ++ (u8v to ++ (u8v ab ++ (u8v mac ++ (Value.bool true :: u8v fl)))))).toArray 181) = v := ⟨_, rfl⟩
 have rA : row w2 w1.heap.size = (Value.int .i64 1 :: (u8v fr ++ (u8v to ++ (u8v ab ++ (u8v mac ++ (Value.bool true :: u8v fl)))))).toArray := by rw [← hw2]; exact row_alloc_at _ _ _ rfl
 have z2 : w2.heap.size = w1.heap.size + 1 := by rw [← hw2]; exact alloc_sizeW _ _
 have B2 : Below w.heap.size w w2 := by rw [← hw2]; exact Below.alloc B1 (by omega) _
 replace rF : row w2 w.heap.size = (u8v dst ++ (u8v src ++ [Value.int .i64 34525, Value.string ⟨body.toArray⟩])).toArray := by rw [← hw2, row_alloc_past _ _ (by omega)]; exact rF
 replace rR : row w2 (w.heap.size + 1) = (u8v mac0).toArray := by rw [← hw2, row_alloc_past _ _ (by omega)]; exact rR
 replace rM : row w2 (w.heap.size + 2) = (u8v mac0).toArray := by rw [← hw2, row_alloc_past _ _ (by omega)]; exact rM
 go_wp2_with fail
 clear hw2
 have hfin := row_setRow_same (w := w2) (g := w.heap.size + 1) (c := (u8v mac0).toArray) (by rw [rR]; simp) (by rw [rR])
 (try simp only [Exit.inBlock, Exit.then])
 refine bodyPost_ret (results_3 rfl resOk_tmp (resOk_row rfl ?_) resOk_tmp) rfl ?_
 ·
  first | (rw [hfin]; simp; done) | (rw [rR]; simp)
 ·
  exact ⟨by (rw [hfin]) <;> rfl, Below.setRow B2 (by omega) _⟩
set_option maxRecDepth 20000 in
set_option maxHeartbeats 2000000 in
theorem rAnn_nd_q (HP : ParsesR body (ndV 1 fr to ab mac true fl) 0) (hz : (fr != Vector.replicate 16 0) = true) (hg : grp mac = false) : RAnnC dst src 34525 body fr.toList mac true := by
 intro w
 have hz2 : (fr == Vector.replicate 16 0) = false := by simpa [bne] using hz
 obtain ⟨hr1, hr2⟩ := grp_rem hg
 simp only [Bool.false_eq_true, if_false, if_true] at hr1 hr2
 have hnil : (fr.toList == ([] : List UInt8)) = false := by cases h : fr.toList with
  | nil => have := congrArg List.length h; simp at this
  | cons => rfl
 unfold ParsesR ndV at HP
 have K := Lib.hid HP
 clear HP
 unfold frameV
 go_enter Tryz.func78, Tryz.ntmps78
 go_wp2_with fail
 (with_reducible refine (K.out _).mono ?_)
 rintro e w1 ⟨rfl, b1⟩
 have z1 := b1.size
 simp at z1
 have rF : row w1 w.heap.size = (u8v dst ++ (u8v src ++ [Value.int .i64 34525, Value.string ⟨body.toArray⟩])).toArray := by rw [row_below b1 (by simp; try omega)]; simp [go_sem]
 have rR : row w1 (w.heap.size + 1) = (u8v mac0).toArray := by rw [row_below b1 (by simp; try omega)]; simp [go_sem]
 have rM : row w1 (w.heap.size + 2) = (u8v mac0).toArray := by rw [row_below b1 (by simp; try omega)]; simp [go_sem]
 have B1 : Below w.heap.size w w1 := Below.trans (by (repeat (first | exact Below.refl _ _ | refine Below.al ?_ _ | refine Below.drew ?_ | refine Below.sr ?_ _ | refine Below.sc ?_ _))) (b1.mono (by simp; try omega))
 clear b1
 obtain ⟨w2, hw2⟩ : ∃ v, w1.alloc (.cells (Value.int .i64 1 :: (u8v fr ++ (u8v to ++ (u8v ab ++ (u8v mac ++ (Value.bool true :: u8v fl)))))).toArray 181) = v := ⟨_, rfl⟩
 have rA : row w2 w1.heap.size = (Value.int .i64 1 :: (u8v fr ++ (u8v to ++ (u8v ab ++ (u8v mac ++ (Value.bool true :: u8v fl)))))).toArray := by rw [← hw2]; exact row_alloc_at _ _ _ rfl
 have z2 : w2.heap.size = w1.heap.size + 1 := by rw [← hw2]; exact alloc_sizeW _ _
 have B2 : Below w.heap.size w w2 := by rw [← hw2]; exact Below.alloc B1 (by omega) _
 replace rF : row w2 w.heap.size = (u8v dst ++ (u8v src ++ [Value.int .i64 34525, Value.string ⟨body.toArray⟩])).toArray := by rw [← hw2, row_alloc_past _ _ (by omega)]; exact rF
 replace rR : row w2 (w.heap.size + 1) = (u8v mac0).toArray := by rw [← hw2, row_alloc_past _ _ (by omega)]; exact rR
 replace rM : row w2 (w.heap.size + 2) = (u8v mac0).toArray := by rw [← hw2, row_alloc_past _ _ (by omega)]; exact rM
 obtain ⟨w3, hw3⟩ : ∃ v, w2.setRow (w.heap.size + 2) (u8v mac).toArray = v := ⟨_, rfl⟩
 have rM3 : row w3 (w.heap.size + 2) = (u8v mac).toArray := by rw [← hw3]; exact row_setRow_same (by rw [rM]; simp) (by rw [rM]; simp)
 have rF3 : row w3 w.heap.size = (u8v dst ++ (u8v src ++ [Value.int .i64 34525, Value.string ⟨body.toArray⟩])).toArray := by rw [← hw3, row_setRow_other _ _ _ (by omega)]; exact rF
 have rR3 : row w3 (w.heap.size + 1) = (u8v mac0).toArray := by rw [← hw3, row_setRow_other _ _ _ (by omega)]; exact rR
 have rA3 : row w3 w1.heap.size = (Value.int .i64 1 :: (u8v fr ++ (u8v to ++ (u8v ab ++ (u8v mac ++ (Value.bool true :: u8v fl)))))).toArray := by rw [← hw3, row_setRow_other _ _ _ (by omega)]; exact rA
 have z3 : w3.heap.size = w2.heap.size := by rw [← hw3, setRow_size]
 have B3 : Below w.heap.size w w3 := by rw [← hw3]; exact Below.setRow B2 (by omega) _
 have rM := rM3
 have hM0 : ((u8v mac)[0]'(by simp)) = Value.int .u8 (mac[0].toNat : Int) := by simp [u8v, u8s]
 have rF := rF3
 have rR := rR3
 clear rM3
 go_wp2_with fail
 clear hw3 hw2
 have rd : row w3.drew (w.heap.size + 1) = (u8v mac0).toArray := rR
 refine wp_region_beginR [(w.heap.size + 2, (u8v mac).toArray)] rfl (by simp only [Rws]; (repeat (first | exact trivial | refine ⟨(by first | assumption | (simp [go_sem, *]; done)), (by first | omega | (simp; done) | (simp; omega)), ?_⟩))) (fun hS => ?_)
 refine qp 0 hS ?_
 refine qp 1 hS ?_
 refine qp 2 hS ?_
 refine wpAnyR_store (i := 3) (b := (w.heap.size + 1)) (c := (u8v mac).toArray) (by simp only [List.getElem?_toArray, List.getElem?_cons_succ, List.getElem?_cons_zero]; rfl) rfl rfl (by kernel_rfl) (by simp; (try omega)) hS (by rw [rd]; simp; (try omega)) (fun w1 hr => by rw [rd] at hr; go_simp; (try rfl)) (fun u1 hu1 ru1 hS => ?_)
 refine qp 4 hS ?_
 refine wpAnyR_done (by kernel_rfl) (fun w9 h9 => ?_) _
 have zu1 : w3.heap.size ≤ u1.heap.size := hu1.size
 have r9 : row w9 (w.heap.size + 1) = (u8v mac).toArray := by
  rw [row_below h9 (by rw [setRow_size]; omega)]
  exact row_setRow_same (by rw [ru1, rd]; simp) (by rw [ru1, rd]; simp)
 have B9 : Below w.heap.size w w9 := Below.trans (Below.setRow (Below.trans B3 ((below_step (Below.drew (Below.refl _ _)) hu1).mono (by omega))) (by omega) _) (h9.mono (by rw [setRow_size]; omega))
 clear hS h9 hu1 ru1 rd
 go_wp2_with fail
 (try simp only [Exit.inBlock, Exit.then])
 refine bodyPost_ret (results_3 rfl resOk_tmp (resOk_row rfl ?_) resOk_tmp) rfl ?_
 ·
  rw [r9]; simp
 ·
  exact ⟨by rw [r9]; rfl, B9⟩
set_option maxRecDepth 20000 in
set_option maxHeartbeats 2000000 in
theorem rAnn_nd_qgrp (HP : ParsesR body (ndV 1 fr to ab mac true fl) 0) (hz : (fr != Vector.replicate 16 0) = true) (hg : grp mac = true) : RAnnC dst src 34525 body [] mac0 false := by
 intro w
 have hz2 : (fr == Vector.replicate 16 0) = false := by simpa [bne] using hz
 obtain ⟨hr1, hr2⟩ := grp_rem hg
 simp only [Bool.false_eq_true, if_false, if_true] at hr1 hr2
 have hnil : (fr.toList == ([] : List UInt8)) = false := by cases h : fr.toList with
  | nil => have := congrArg List.length h; simp at this
  | cons => rfl
 unfold ParsesR ndV at HP
 have K := Lib.hid HP
 clear HP
 unfold frameV
 go_enter Tryz.func78, Tryz.ntmps78
 go_wp2_with fail
 (with_reducible refine (K.out _).mono ?_)
 rintro e w1 ⟨rfl, b1⟩
 have z1 := b1.size
 simp at z1
 have rF : row w1 w.heap.size = (u8v dst ++ (u8v src ++ [Value.int .i64 34525, Value.string ⟨body.toArray⟩])).toArray := by rw [row_below b1 (by simp; try omega)]; simp [go_sem]
 have rR : row w1 (w.heap.size + 1) = (u8v mac0).toArray := by rw [row_below b1 (by simp; try omega)]; simp [go_sem]
 have rM : row w1 (w.heap.size + 2) = (u8v mac0).toArray := by rw [row_below b1 (by simp; try omega)]; simp [go_sem]
 have B1 : Below w.heap.size w w1 := Below.trans (by (repeat (first | exact Below.refl _ _ | refine Below.al ?_ _ | refine Below.drew ?_ | refine Below.sr ?_ _ | refine Below.sc ?_ _))) (b1.mono (by simp; try omega))
 clear b1
 obtain ⟨w2, hw2⟩ : ∃ v, w1.alloc (.cells (Value.int .i64 1 :: (u8v fr ++ (u8v to ++ (u8v ab ++ (u8v mac ++ (Value.bool true :: u8v fl)))))).toArray 181) = v := ⟨_, rfl⟩
 have rA : row w2 w1.heap.size = (Value.int .i64 1 :: (u8v fr ++ (u8v to ++ (u8v ab ++ (u8v mac ++ (Value.bool true :: u8v fl)))))).toArray := by rw [← hw2]; exact row_alloc_at _ _ _ rfl
 have z2 : w2.heap.size = w1.heap.size + 1 := by rw [← hw2]; exact alloc_sizeW _ _
 have B2 : Below w.heap.size w w2 := by rw [← hw2]; exact Below.alloc B1 (by omega) _
 replace rF : row w2 w.heap.size = (u8v dst ++ (u8v src ++ [Value.int .i64 34525, Value.string ⟨body.toArray⟩])).toArray := by rw [← hw2, row_alloc_past _ _ (by omega)]; exact rF
 replace rR : row w2 (w.heap.size + 1) = (u8v mac0).toArray := by rw [← hw2, row_alloc_past _ _ (by omega)]; exact rR
 replace rM : row w2 (w.heap.size + 2) = (u8v mac0).toArray := by rw [← hw2, row_alloc_past _ _ (by omega)]; exact rM
 obtain ⟨w3, hw3⟩ : ∃ v, w2.setRow (w.heap.size + 2) (u8v mac).toArray = v := ⟨_, rfl⟩
 have rM3 : row w3 (w.heap.size + 2) = (u8v mac).toArray := by rw [← hw3]; exact row_setRow_same (by rw [rM]; simp) (by rw [rM]; simp)
 have rF3 : row w3 w.heap.size = (u8v dst ++ (u8v src ++ [Value.int .i64 34525, Value.string ⟨body.toArray⟩])).toArray := by rw [← hw3, row_setRow_other _ _ _ (by omega)]; exact rF
 have rR3 : row w3 (w.heap.size + 1) = (u8v mac0).toArray := by rw [← hw3, row_setRow_other _ _ _ (by omega)]; exact rR
 have rA3 : row w3 w1.heap.size = (Value.int .i64 1 :: (u8v fr ++ (u8v to ++ (u8v ab ++ (u8v mac ++ (Value.bool true :: u8v fl)))))).toArray := by rw [← hw3, row_setRow_other _ _ _ (by omega)]; exact rA
 have z3 : w3.heap.size = w2.heap.size := by rw [← hw3, setRow_size]
 have B3 : Below w.heap.size w w3 := by rw [← hw3]; exact Below.setRow B2 (by omega) _
 have rM := rM3
 have hM0 : ((u8v mac)[0]'(by simp)) = Value.int .u8 (mac[0].toNat : Int) := by simp [u8v, u8s]
 have rF := rF3
 have rR := rR3
 clear rM3
 go_wp2_with fail
 clear hw3 hw2
 have hfin := row_setRow_same (w := w3) (g := w.heap.size + 1) (c := (u8v mac0).toArray) (by rw [rR]; simp) (by rw [rR])
 (try simp only [Exit.inBlock, Exit.then])
 refine bodyPost_ret (results_3 rfl resOk_tmp (resOk_row rfl ?_) resOk_tmp) rfl ?_
 ·
  rw [hfin]; simp
 ·
  exact ⟨by (rw [hfin]) <;> rfl, Below.setRow B3 (by omega) _⟩
set_option maxRecDepth 20000 in
set_option maxHeartbeats 2000000 in
theorem rAnn_nd_a (HP : ParsesR body (ndV 2 fr to ab mac true fl) 0) (hg : grp mac = false) : RAnnC dst src 34525 body ab.toList mac true := by
 intro w
 obtain ⟨hr1, hr2⟩ := grp_rem hg
 simp only [Bool.false_eq_true, if_false, if_true] at hr1 hr2
 have hnil : (ab.toList == ([] : List UInt8)) = false := by cases h : ab.toList with
  | nil => have := congrArg List.length h; simp at this
  | cons => rfl
 unfold ParsesR ndV at HP
 have K := Lib.hid HP
 clear HP
 unfold frameV
 go_enter Tryz.func78, Tryz.ntmps78
 go_wp2_with fail
 (with_reducible refine (K.out _).mono ?_)
 rintro e w1 ⟨rfl, b1⟩
 have z1 := b1.size
 simp at z1
 have rF : row w1 w.heap.size = (u8v dst ++ (u8v src ++ [Value.int .i64 34525, Value.string ⟨body.toArray⟩])).toArray := by rw [row_below b1 (by simp; try omega)]; simp [go_sem]
 have rR : row w1 (w.heap.size + 1) = (u8v mac0).toArray := by rw [row_below b1 (by simp; try omega)]; simp [go_sem]
 have rM : row w1 (w.heap.size + 2) = (u8v mac0).toArray := by rw [row_below b1 (by simp; try omega)]; simp [go_sem]
 have B1 : Below w.heap.size w w1 := Below.trans (by (repeat (first | exact Below.refl _ _ | refine Below.al ?_ _ | refine Below.drew ?_ | refine Below.sr ?_ _ | refine Below.sc ?_ _))) (b1.mono (by simp; try omega))
 clear b1
 obtain ⟨w2, hw2⟩ : ∃ v, w1.alloc (.cells (Value.int .i64 2 :: (u8v fr ++ (u8v to ++ (u8v ab ++ (u8v mac ++ (Value.bool true :: u8v fl)))))).toArray 181) = v := ⟨_, rfl⟩
 have rA : row w2 w1.heap.size = (Value.int .i64 2 :: (u8v fr ++ (u8v to ++ (u8v ab ++ (u8v mac ++ (Value.bool true :: u8v fl)))))).toArray := by rw [← hw2]; exact row_alloc_at _ _ _ rfl
 have z2 : w2.heap.size = w1.heap.size + 1 := by rw [← hw2]; exact alloc_sizeW _ _
 have B2 : Below w.heap.size w w2 := by rw [← hw2]; exact Below.alloc B1 (by omega) _
 replace rF : row w2 w.heap.size = (u8v dst ++ (u8v src ++ [Value.int .i64 34525, Value.string ⟨body.toArray⟩])).toArray := by rw [← hw2, row_alloc_past _ _ (by omega)]; exact rF
 replace rR : row w2 (w.heap.size + 1) = (u8v mac0).toArray := by rw [← hw2, row_alloc_past _ _ (by omega)]; exact rR
 replace rM : row w2 (w.heap.size + 2) = (u8v mac0).toArray := by rw [← hw2, row_alloc_past _ _ (by omega)]; exact rM
 obtain ⟨w3, hw3⟩ : ∃ v, w2.setRow (w.heap.size + 2) (u8v mac).toArray = v := ⟨_, rfl⟩
 have rM3 : row w3 (w.heap.size + 2) = (u8v mac).toArray := by rw [← hw3]; exact row_setRow_same (by rw [rM]; simp) (by rw [rM]; simp)
 have rF3 : row w3 w.heap.size = (u8v dst ++ (u8v src ++ [Value.int .i64 34525, Value.string ⟨body.toArray⟩])).toArray := by rw [← hw3, row_setRow_other _ _ _ (by omega)]; exact rF
 have rR3 : row w3 (w.heap.size + 1) = (u8v mac0).toArray := by rw [← hw3, row_setRow_other _ _ _ (by omega)]; exact rR
 have rA3 : row w3 w1.heap.size = (Value.int .i64 2 :: (u8v fr ++ (u8v to ++ (u8v ab ++ (u8v mac ++ (Value.bool true :: u8v fl)))))).toArray := by rw [← hw3, row_setRow_other _ _ _ (by omega)]; exact rA
 have z3 : w3.heap.size = w2.heap.size := by rw [← hw3, setRow_size]
 have B3 : Below w.heap.size w w3 := by rw [← hw3]; exact Below.setRow B2 (by omega) _
 have rM := rM3
 have hM0 : ((u8v mac)[0]'(by simp)) = Value.int .u8 (mac[0].toNat : Int) := by simp [u8v, u8s]
 have rF := rF3
 have rR := rR3
 clear rM3
 go_wp2_with fail
 clear hw3 hw2
 have rd : row w3.drew (w.heap.size + 1) = (u8v mac0).toArray := rR
 refine wp_region_beginR [(w.heap.size + 2, (u8v mac).toArray)] rfl (by simp only [Rws]; (repeat (first | exact trivial | refine ⟨(by first | assumption | (simp [go_sem, *]; done)), (by first | omega | (simp; done) | (simp; omega)), ?_⟩))) (fun hS => ?_)
 refine qp 0 hS ?_
 refine qp 1 hS ?_
 refine qp 2 hS ?_
 refine wpAnyR_store (i := 3) (b := (w.heap.size + 1)) (c := (u8v mac).toArray) (by simp only [List.getElem?_toArray, List.getElem?_cons_succ, List.getElem?_cons_zero]; rfl) rfl rfl (by kernel_rfl) (by simp; (try omega)) hS (by rw [rd]; simp; (try omega)) (fun w1 hr => by rw [rd] at hr; go_simp; (try rfl)) (fun u1 hu1 ru1 hS => ?_)
 refine qp 4 hS ?_
 refine wpAnyR_done (by kernel_rfl) (fun w9 h9 => ?_) _
 have zu1 : w3.heap.size ≤ u1.heap.size := hu1.size
 have r9 : row w9 (w.heap.size + 1) = (u8v mac).toArray := by
  rw [row_below h9 (by rw [setRow_size]; omega)]
  exact row_setRow_same (by rw [ru1, rd]; simp) (by rw [ru1, rd]; simp)
 have B9 : Below w.heap.size w w9 := Below.trans (Below.setRow (Below.trans B3 ((below_step (Below.drew (Below.refl _ _)) hu1).mono (by omega))) (by omega) _) (h9.mono (by rw [setRow_size]; omega))
 clear hS h9 hu1 ru1 rd
 go_wp2_with fail
 (try simp only [Exit.inBlock, Exit.then])
 refine bodyPost_ret (results_3 rfl resOk_tmp (resOk_row rfl ?_) resOk_tmp) rfl ?_
 ·
  rw [r9]; simp
 ·
  exact ⟨by rw [r9]; rfl, B9⟩
set_option maxRecDepth 20000 in
set_option maxHeartbeats 2000000 in
theorem rAnn_nd_agrp (HP : ParsesR body (ndV 2 fr to ab mac true fl) 0) (hg : grp mac = true) : RAnnC dst src 34525 body [] mac0 false := by
 intro w
 obtain ⟨hr1, hr2⟩ := grp_rem hg
 simp only [Bool.false_eq_true, if_false, if_true] at hr1 hr2
 have hnil : (ab.toList == ([] : List UInt8)) = false := by cases h : ab.toList with
  | nil => have := congrArg List.length h; simp at this
  | cons => rfl
 unfold ParsesR ndV at HP
 have K := Lib.hid HP
 clear HP
 unfold frameV
 go_enter Tryz.func78, Tryz.ntmps78
 go_wp2_with fail
 (with_reducible refine (K.out _).mono ?_)
 rintro e w1 ⟨rfl, b1⟩
 have z1 := b1.size
 simp at z1
 have rF : row w1 w.heap.size = (u8v dst ++ (u8v src ++ [Value.int .i64 34525, Value.string ⟨body.toArray⟩])).toArray := by rw [row_below b1 (by simp; try omega)]; simp [go_sem]
 have rR : row w1 (w.heap.size + 1) = (u8v mac0).toArray := by rw [row_below b1 (by simp; try omega)]; simp [go_sem]
 have rM : row w1 (w.heap.size + 2) = (u8v mac0).toArray := by rw [row_below b1 (by simp; try omega)]; simp [go_sem]
 have B1 : Below w.heap.size w w1 := Below.trans (by (repeat (first | exact Below.refl _ _ | refine Below.al ?_ _ | refine Below.drew ?_ | refine Below.sr ?_ _ | refine Below.sc ?_ _))) (b1.mono (by simp; try omega))
 clear b1
 obtain ⟨w2, hw2⟩ : ∃ v, w1.alloc (.cells (Value.int .i64 2 :: (u8v fr ++ (u8v to ++ (u8v ab ++ (u8v mac ++ (Value.bool true :: u8v fl)))))).toArray 181) = v := ⟨_, rfl⟩
 have rA : row w2 w1.heap.size = (Value.int .i64 2 :: (u8v fr ++ (u8v to ++ (u8v ab ++ (u8v mac ++ (Value.bool true :: u8v fl)))))).toArray := by rw [← hw2]; exact row_alloc_at _ _ _ rfl
 have z2 : w2.heap.size = w1.heap.size + 1 := by rw [← hw2]; exact alloc_sizeW _ _
 have B2 : Below w.heap.size w w2 := by rw [← hw2]; exact Below.alloc B1 (by omega) _
 replace rF : row w2 w.heap.size = (u8v dst ++ (u8v src ++ [Value.int .i64 34525, Value.string ⟨body.toArray⟩])).toArray := by rw [← hw2, row_alloc_past _ _ (by omega)]; exact rF
 replace rR : row w2 (w.heap.size + 1) = (u8v mac0).toArray := by rw [← hw2, row_alloc_past _ _ (by omega)]; exact rR
 replace rM : row w2 (w.heap.size + 2) = (u8v mac0).toArray := by rw [← hw2, row_alloc_past _ _ (by omega)]; exact rM
 obtain ⟨w3, hw3⟩ : ∃ v, w2.setRow (w.heap.size + 2) (u8v mac).toArray = v := ⟨_, rfl⟩
 have rM3 : row w3 (w.heap.size + 2) = (u8v mac).toArray := by rw [← hw3]; exact row_setRow_same (by rw [rM]; simp) (by rw [rM]; simp)
 have rF3 : row w3 w.heap.size = (u8v dst ++ (u8v src ++ [Value.int .i64 34525, Value.string ⟨body.toArray⟩])).toArray := by rw [← hw3, row_setRow_other _ _ _ (by omega)]; exact rF
 have rR3 : row w3 (w.heap.size + 1) = (u8v mac0).toArray := by rw [← hw3, row_setRow_other _ _ _ (by omega)]; exact rR
 have rA3 : row w3 w1.heap.size = (Value.int .i64 2 :: (u8v fr ++ (u8v to ++ (u8v ab ++ (u8v mac ++ (Value.bool true :: u8v fl)))))).toArray := by rw [← hw3, row_setRow_other _ _ _ (by omega)]; exact rA
 have z3 : w3.heap.size = w2.heap.size := by rw [← hw3, setRow_size]
 have B3 : Below w.heap.size w w3 := by rw [← hw3]; exact Below.setRow B2 (by omega) _
 have rM := rM3
 have hM0 : ((u8v mac)[0]'(by simp)) = Value.int .u8 (mac[0].toNat : Int) := by simp [u8v, u8s]
 have rF := rF3
 have rR := rR3
 clear rM3
 go_wp2_with fail
 clear hw3 hw2
 have hfin := row_setRow_same (w := w3) (g := w.heap.size + 1) (c := (u8v mac0).toArray) (by rw [rR]; simp) (by rw [rR])
 (try simp only [Exit.inBlock, Exit.then])
 refine bodyPost_ret (results_3 rfl resOk_tmp (resOk_row rfl ?_) resOk_tmp) rfl ?_
 ·
  rw [hfin]; simp
 ·
  exact ⟨by (rw [hfin]) <;> rfl, Below.setRow B3 (by omega) _⟩
end
end
end Go.Proofs.YtckckabedgpbiaaGreat
