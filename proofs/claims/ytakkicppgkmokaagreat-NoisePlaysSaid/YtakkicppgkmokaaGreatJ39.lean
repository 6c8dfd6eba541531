/- Texts of this proof, merged: SnC, SnB. -/
import Derived.Test.YtakkicppgkmokaaGreatJ38
import Derived.Test.YtakkicppgkmokaaGreatJ15
set_option linter.unusedSimpArgs false
set_option linter.unusedVariables false
set_option maxRecDepth 4000
namespace Go.Proofs.YtakkicppgkmokaaGreat
section
open Go.RowKit
theorem OwnE.form {w : World} {B n : Nat} {v : Value} {l : List UInt8} (h : OwnE w B v n l) (hn : 0 < n) :
  ∃ g c s, v = .slice (some ⟨g, 0, none⟩) n c ∧ B ≤ g ∧ g < w.heap.size ∧ row w g = (u8s l ++ s).toArray := by
 obtain ⟨hl, ⟨rfl, h0⟩ | ⟨g, cap, cur, rfl, hg0, hg, hnc, hm, hc, ht⟩⟩ := h
 ·
  omega
 ·
  refine ⟨g, cap, cur.toList.drop (n * 32), rfl, hg0, ?_, ?_⟩
  ·
   rcases Nat.lt_or_ge g w.heap.size with h1 | h1
   ·
    exact h1
   ·
    rw [Array.getElem?_eq_none h1] at hg
    cases hg
  ·
   unfold row
   rw [hg]
   apply Array.ext'
   simp only [if_true, true_or]
   conv => lhs; rw [← List.take_append_drop (n * 32) cur.toList, ht]
attribute [local irreducible] shaK macL keysF keyN
set_option maxRecDepth 20000 in
set_option maxHeartbeats 2000000 in
theorem chain13_any (h c k s : List UInt8) (w : World) (hh : h.length = 32) (hc : c.length = 32) (hk : k.length = 32) (hs : s.length ≤ 10000) :
  Calls Tryz.prog 35 #[.agg (u8s h ++ (u8s c ++ u8s k)).toArray, .string ⟨s.toArray⟩] w fun e w' => e = .returned (.agg (u8s h ++ (u8s (keyN (macL c s) [] 1) ++ u8s (keyN (macL c s) [] 2))).toArray) ∧ Below w.heap.size w w' := by
 have HT := Lib.hid (fun w => text13_any c w hc)
 have HM := Lib.hid (fun w => sum02_any c s w (by omega) hs)
 have hml := macL_length c s
 have HK := Lib.hid (fun w => keys02_any (macL c s) [] 2 w hml (by simp) (by omega))
 have l1 := keyN_length (macL c s) [] 0
 have l2 := keyN_length (macL c s) [] 1
 simp only [Nat.zero_add, Nat.reduceAdd] at l1 l2
 rw [keysF_two] at HK
 obtain ⟨a, ha⟩ : ∃ a, keyN (macL c s) [] 1 = a := ⟨_, rfl⟩
 obtain ⟨b, hb⟩ : ∃ b, keyN (macL c s) [] 2 = b := ⟨_, rfl⟩
 rw [ha] at HK l1 ⊢
 rw [hb] at HK l2 ⊢
 clear ha hb
 obtain ⟨y, hy⟩ : ∃ y, macL c s = y := ⟨_, rfl⟩
 rw [hy] at HM HK hml
 clear hy
 rw [show (([] : List UInt8).toArray) = #[] from rfl, show ((2 : Nat) : Int) = 2 from rfl] at HK
 go_enter Tryz.func35, Tryz.ntmps35
 obtain ⟨W, hW⟩ : ∃ v, (w.alloc (.cells (u8s h ++ (u8s c ++ u8s k)).toArray 34)).alloc (.cells (zeros 96 (.int .u8 0)).toArray 34) = v := ⟨_, rfl⟩
 have rT : row W w.heap.size = (u8s h ++ (u8s c ++ u8s k)).toArray := by rw [← hW]; simp [go_sem]
 have rR : row W (w.heap.size + 1) = (zeros 96 (.int .u8 0)).toArray := by rw [← hW]; simp [go_sem]
 have zW : W.heap.size = w.heap.size + 1 + 1 := by rw [← hW]; simp
 have bW : Below w.heap.size w W := by
  rw [← hW]
  (repeat (first | exact Below.refl _ _ | refine Below.al ?_ _ | refine Below.drew ?_ | refine Below.sr ?_ _ | refine Below.sc ?_ _))
 have hsp : 64 ≤ 32 + (32 + 32) := by omega
 go_wp2_with fail
 clear hW
 refine (HT.out _).mono ?_
 rintro e w1 ⟨rfl, b1⟩
 go_wp2_with fail
 refine (HM.out _).mono ?_
 rintro e w2 ⟨rfl, b2⟩
 go_wp2_with fail
 refine (HK.out _).mono ?_
 rintro e w3 ⟨v, rfl, own, b3⟩
 obtain ⟨g, cp, sp, rfl, hg, zg, rg⟩ := own.form (by omega)
 rw [u8s_append, List.append_assoc] at rg
 have z1 := b1.size
 have z2 := b2.size
 have z3 := b3.size
 have rT2 := (row_below b3 (by omega)).trans ((row_below b2 (by omega)).trans ((row_below b1 (by omega)).trans rT))
 have rR2 := (row_below b3 (by omega)).trans ((row_below b2 (by omega)).trans ((row_below b1 (by omega)).trans rR))
 have bb : Below w.heap.size w w3 := Below.trans bW (Below.trans (b1.mono (by omega)) (Below.trans (b2.mono (by omega)) (b3.mono (by omega))))
 have q1 : 64 ≤ 32 + (32 + sp.length) := by omega
 have q2 : 32 + 32 ≤ 32 + (32 + sp.length) := by omega
 have q3 : 64 ≤ a.length + (b.length + sp.length) := by omega
 have q4 : 32 + 32 ≤ a.length + (b.length + sp.length) := by omega
 have hgne : w.heap.size ≠ g := by omega
 have hgne2 : w.heap.size + 1 ≠ g := by omega
 have e0 : u8s [] = [] := rfl
 have hgne3 : g ≠ w.heap.size := by omega
 have rg2 : row (w3.setRow w.heap.size (u8s h ++ (u8s a ++ u8s k)).toArray) g = (u8s a ++ (u8s b ++ sp)).toArray := by rw [row_setRow_other _ _ _ (by omega)]; exact rg
 have rg3 : row (w3.setRow w.heap.size (u8s h ++ (u8s a ++ (u8s [] ++ u8s k))).toArray) g = (u8s a ++ (u8s b ++ sp)).toArray := by rw [row_setRow_other _ _ _ (by omega)]; exact rg
 have rT3 : row (w3.setRow w.heap.size (u8s h ++ (u8s a ++ (u8s [] ++ u8s k))).toArray) w.heap.size = (u8s h ++ (u8s a ++ u8s k)).toArray := row_setRow_same (by rw [rT2]; simp; omega) (by rw [rT2]; simp [l1, hc])
 clear rT rR bW b1 b2 b3 own HK HM HT
 go_wp2_with fail
 have rR3 : row (w3.setRow w.heap.size (u8s h ++ (u8s a ++ u8s b)).toArray) (w.heap.size + 1) = (zeros 96 (.int .u8 0)).toArray := by rw [row_setRow_other _ _ _ (by omega)]; exact rR2
 have hfin := row_setRow_same (w := w3.setRow w.heap.size (u8s h ++ (u8s a ++ u8s b)).toArray) (g := w.heap.size + 1) (c := (u8s h ++ (u8s a ++ u8s b)).toArray) (by rw [rR3]; simp) (by rw [rR3]; simp [hh, l1, l2])
 (try simp only [Exit.inBlock, Exit.then])
 refine bodyPost_ret (results_1 rfl (resOk_row rfl ?_)) rfl ?_
 ·
  rw [hfin]
  simp [hh, l1, l2]
 exact ⟨by rw [hfin], Below.setRow (Below.setRow bb (by omega) _) (by omega) _⟩
end
section
open Go.RowKit
attribute [local irreducible] shaK macL keysF keyN
set_option maxRecDepth 20000 in
set_option maxHeartbeats 2000000 in
theorem begin13_any (psk : List UInt8) (w : World) (hp : psk.length = 32) :
  Calls Tryz.prog 33 #[.agg (u8s psk).toArray] w fun e w' => e = .returned (.agg (u8s (beginT psk []).h ++ (u8s (beginT psk []).c ++ u8s (beginT psk []).k)).toArray) ∧ Below w.heap.size w w' := by
 have H0 := Lib.hid (fun w => sum01_any nameL w (by decide))
 have l0 := shaK_length nameL
 unfold beginT firstT0 bothT
 simp only
 obtain ⟨x, hx⟩ : ∃ x, shaK nameL = x := ⟨_, rfl⟩
 rw [hx] at H0 l0 ⊢
 have H1 := Lib.hid (fun w => in13_any x x (List.replicate 32 0) [] w l0 l0 (by simp) (by simp))
 have l1 := shaK_length (x ++ [])
 obtain ⟨x1, hx1⟩ : ∃ v, shaK (x ++ []) = v := ⟨_, rfl⟩
 rw [hx1] at H1 l1 ⊢
 have HT1 := Lib.hid (fun w => text13_any x w l0)
 have HT2 := Lib.hid (fun w => text13_any psk w hp)
 have HM := Lib.hid (fun w => sum02_any x psk w (by omega) (by omega))
 have hml := macL_length x psk
 have HK := Lib.hid (fun w => keys02_any (macL x psk) [] 3 w hml (by simp) (by omega))
 have la := keyN_length (macL x psk) [] 0
 have lb := keyN_length (macL x psk) [] 1
 have ld := keyN_length (macL x psk) [] 2
 simp only [Nat.zero_add, Nat.reduceAdd] at la lb ld
 rw [keysF_three] at HK
 obtain ⟨y, hy⟩ : ∃ v, macL x psk = v := ⟨_, rfl⟩
 rw [hy] at HM HK hml la lb ld ⊢
 obtain ⟨a, ha⟩ : ∃ v, keyN y [] 1 = v := ⟨_, rfl⟩
 obtain ⟨b, hb⟩ : ∃ v, keyN y [] 2 = v := ⟨_, rfl⟩
 obtain ⟨d, hd⟩ : ∃ v, keyN y [] 3 = v := ⟨_, rfl⟩
 rw [ha] at HK la ⊢
 rw [hb] at HK lb ⊢
 rw [hd] at HK ld ⊢
 clear ha hb hd hy hx hx1
 have HTB := Lib.hid (fun w => text13_any b w lb)
 have HI := Lib.hid (fun w => in13_any x1 a d b w l1 la ld (by omega))
 rw [show (([] : List UInt8).toArray) = #[] from rfl, show ((3 : Nat) : Int) = 3 from rfl] at HK
 rw [show (([] : List UInt8).toArray) = #[] from rfl] at H1
 unfold nameL at H0
 rw [show u8s (List.replicate 32 (0 : UInt8)) = u8s [] ++ zeros 32 (Value.int .u8 0) from by first | rfl | simp [u8s, zeros]] at H1
 go_enter Tryz.func33, Tryz.ntmps33
 go_wp2_with fail
 refine (H0.out _).mono ?_
 rintro e w1 ⟨rfl, b1⟩
 go_wp2_with fail
 refine (H1.out _).mono ?_
 rintro e w2 ⟨rfl, b2⟩
 have z1 := b1.size
 have z2 := b2.size
 simp at z1 z2
 have rP : row w2 w.heap.size = (u8s psk).toArray := by rw [row_below b2 (by simp; omega), row_alloc_past _ _ (by omega), row_below b1 (by first | (simp; done) | (simp; omega) | omega)]; simp [go_sem]
 have rR : row w2 (w.heap.size + 1) = (zeros 96 (.int .u8 0)).toArray := by rw [row_below b2 (by simp; omega), row_alloc_past _ _ (by omega), row_below b1 (by first | (simp; done) | (simp; omega) | omega)]; simp [go_sem]
 obtain ⟨W, hW⟩ : ∃ v, w2.alloc (.cells (u8s x1 ++ (u8s x ++ (u8s [] ++ zeros 32 (Value.int .u8 0)))).toArray 34) = v := ⟨_, rfl⟩
 have rT : row W w2.heap.size = (u8s x1 ++ (u8s x ++ (u8s [] ++ zeros 32 (Value.int .u8 0)))).toArray := by rw [← hW]; exact row_alloc_at _ _ _ rfl
 have rP2 : row W w.heap.size = (u8s psk).toArray := by rw [← hW, row_alloc_past _ _ (by omega)]; exact rP
 have rR2 : row W (w.heap.size + 1) = (zeros 96 (.int .u8 0)).toArray := by rw [← hW, row_alloc_past _ _ (by omega)]; exact rR
 have zW : W.heap.size = w2.heap.size + 1 := by rw [← hW]; simp
 have bW : Below w.heap.size w W := by
  rw [← hW]
  refine Below.alloc (below_of b2 ?_ (by first | (simp; done) | (simp; omega) | omega)) (by omega) _
  refine Below.alloc (below_of b1 ?_ (by first | (simp; done) | (simp; omega) | omega)) (by omega) _
  (repeat (first | exact Below.refl _ _ | refine Below.al ?_ _ | refine Below.drew ?_ | refine Below.sr ?_ _ | refine Below.sc ?_ _))
 go_wp2_with fail
 clear hW rP rR
 refine wp_region_beginR [(w2.heap.size, (u8s x1 ++ (u8s x ++ (u8s [] ++ zeros 32 (Value.int .u8 0)))).toArray), (w.heap.size, (u8s psk).toArray)] rfl (by simp only [Rws]; (repeat (first | exact trivial | refine ⟨(by first | assumption | (simp [go_sem, *]; done)), (by first | omega | (simp; done) | (simp; omega)), ?_⟩))) (fun hS => ?_)
 refine qp 0 hS ?_
 refine qp 1 hS ?_
 refine qc 2 (v := ?_) hS ?_ ?_
 rotate_left
 ·
  intro w' hS'
  simp only [Rws] at hS'
  go_simp
  with_reducible refine (HT1.out _).mono ?_
  rintro e w'' ⟨rfl, hb⟩
  exact ⟨_, rfl, by rfl, hb⟩
 refine qp 3 hS ?_
 refine qc 4 (v := ?_) hS ?_ ?_
 rotate_left
 ·
  intro w' hS'
  simp only [Rws] at hS'
  go_simp
  with_reducible refine (HT2.out _).mono ?_
  rintro e w'' ⟨rfl, hb⟩
  exact ⟨_, rfl, by rfl, hb⟩
 refine qc 5 (v := ?_) hS ?_ ?_
 rotate_left
 ·
  intro w' hS'
  simp only [Rws] at hS'
  go_simp
  with_reducible refine (HM.out _).mono ?_
  rintro e w'' ⟨rfl, hb⟩
  exact ⟨_, rfl, by rfl, hb⟩
 clear HT1 HT2 HM H0 H1
 refine wpAnyR_all (rs := [6]) (by kernel_rfl) (by simp) (Rws.grow _) hS (fun u1 hu1 hSW => ?_)
 intro i hi
 obtain rfl := List.mem_singleton.1 hi
 refine wpOp_step rfl (fun K hK => ?_)
 simp only [Rws] at hSW
 clear hi hS
 go_simp
 have zu1 : W.heap.size ≤ u1.heap.size := hu1.size
 refine (HK.out _).mono ?_
 rintro e u2 ⟨v, rfl, own, bu⟩
 have zu2 := bu.size
 refine hK _ _ ⟨Rws.grow _ _ _ (by first | (simp only [Rws]; done) | (simpa only [Rws] using hSW)) bu, ?_⟩
 have hS := Rws.grow _ _ _ (show Rws [(w2.heap.size, (u8s x1 ++ (u8s x ++ (u8s [] ++ zeros 32 (Value.int .u8 0)))).toArray), (w.heap.size, (u8s psk).toArray)] u1 from by simpa only [Rws] using hSW) bu
 clear hK K hSW
 (try simp only [Act.put, List.setIfInBounds_toArray, List.set_cons_zero, List.set_cons_succ])
 refine qp 7 hS ?_
 refine wpAnyR_done (by kernel_rfl) (fun w4 h4 => ?_) _
 have z4 := h4.size
 have own4 := own.but (BelowBut.of (S := w.heap.size) h4) (by omega)
 obtain ⟨g, cp, sp, rfl, hg, zg, rg⟩ := own4.form (by omega)
 rw [u8s_append, u8s_append, List.append_assoc, List.append_assoc] at rg
 have bW4 : Below W.heap.size W w4 := Below.trans (Below.trans (Below.drew (Below.refl _ _)) hu1) (Below.trans (bu.mono (by omega)) (h4.mono (by omega)))
 have rT4 := (row_below bW4 (by omega)).trans rT
 have rR4 := (row_below bW4 (by omega)).trans rR2
 have bb := Below.trans bW (bW4.mono (by omega))
 clear hS own own4 bu hu1 h4 rT rP2 rR2 HK bW4 bW
 have e0 : u8s [] = [] := rfl
 have q1 : 96 ≤ 32 + (32 + (32 + sp.length)) := by omega
 have q2 : 32 + 32 ≤ 32 + (32 + (32 + sp.length)) := by omega
 have q3 : 96 ≤ a.length + (b.length + (d.length + sp.length)) := by omega
 have q4 : 32 + 32 ≤ a.length + (b.length + (d.length + sp.length)) := by omega
 have q5 : 64 + 32 ≤ a.length + (b.length + (d.length + sp.length)) := by omega
 have q6 : 64 + 32 ≤ 32 + (32 + (32 + sp.length)) := by omega
 have hgne : w2.heap.size ≠ g := by omega
 have hgne3 : g ≠ w2.heap.size := by omega
 have rg2 : ∀ l : List Value, row (w4.setRow w2.heap.size l.toArray) g = (u8s a ++ (u8s b ++ (u8s d ++ sp))).toArray := fun l => by rw [row_setRow_other _ _ _ (by omega)]; exact rg
 have rT5 : row (w4.setRow w2.heap.size (u8s x1 ++ (u8s a ++ (u8s [] ++ zeros 32 (Value.int .u8 0)))).toArray) w2.heap.size = (u8s x1 ++ (u8s a ++ zeros 32 (Value.int .u8 0))).toArray := row_setRow_same (by rw [rT4]; simp; omega) (by rw [rT4]; simp [la, l0])
 go_wp2_with fail
 have rT6 : row (w4.setRow w2.heap.size (u8s x1 ++ (u8s a ++ u8s d)).toArray) w2.heap.size = (u8s x1 ++ (u8s a ++ u8s d)).toArray := row_setRow_same (by rw [rT4]; simp; omega) (by rw [rT4]; simp [la, l0, ld])
 have rg6 := rg2 (u8s x1 ++ (u8s a ++ u8s d))
 have rR6 : row (w4.setRow w2.heap.size (u8s x1 ++ (u8s a ++ u8s d)).toArray) (w.heap.size + 1) = (zeros 96 (.int .u8 0)).toArray := by rw [row_setRow_other _ _ _ (by omega)]; exact rR4
 have b6 : Below w.heap.size w (w4.setRow w2.heap.size (u8s x1 ++ (u8s a ++ u8s d)).toArray) := Below.setRow bb (by omega) _
 have z6 : (w4.setRow w2.heap.size (u8s x1 ++ (u8s a ++ u8s d)).toArray).heap.size = w4.heap.size := setRow_size _ _ _
 obtain ⟨V, hV⟩ : ∃ v, w4.setRow w2.heap.size (u8s x1 ++ (u8s a ++ u8s d)).toArray = v := ⟨_, rfl⟩
 rw [hV] at rT6 rg6 rR6 b6 z6
 try rw [hV]
 clear hV rg2 rT5 rT4 rR4 rg bb
 refine wp_region_beginR [(w2.heap.size, (u8s x1 ++ (u8s a ++ u8s d)).toArray), (g, (u8s a ++ (u8s b ++ (u8s d ++ sp))).toArray)] rfl (by simp only [Rws]; (repeat (first | exact trivial | refine ⟨(by first | assumption | (simp [go_sem, *]; done)), (by first | omega | (simp; done) | (simp; omega)), ?_⟩))) (fun hS => ?_)
 refine qp 0 hS ?_
 refine qp 1 hS ?_
 refine qp 2 hS ?_
 refine qp 3 hS ?_
 refine qc 4 (v := ?_) hS ?_ ?_
 rotate_left
 ·
  intro w' hS'
  simp only [Rws] at hS'
  go_simp
  with_reducible refine (HTB.out _).mono ?_
  rintro e w'' ⟨rfl, hb⟩
  exact ⟨_, rfl, by rfl, hb⟩
 refine qc 5 (v := ?_) hS ?_ ?_
 rotate_left
 ·
  intro w' hS'
  simp only [Rws] at hS'
  go_simp
  with_reducible refine (HI.out _).mono ?_
  rintro e w'' ⟨rfl, hb⟩
  exact ⟨_, rfl, by rfl, hb⟩
 have rRd : row V.drew (w.heap.size + 1) = (zeros 96 (.int .u8 0)).toArray := rR6
 have hsx := shaK_length (x1 ++ b)
 refine wpAnyR_store (i := 6) (b := w.heap.size + 1) (c := (u8s (shaK (x1 ++ b)) ++ (u8s a ++ u8s d)).toArray) (by simp only [List.getElem?_toArray, List.getElem?_cons_succ, List.getElem?_cons_zero]; rfl) rfl rfl (by kernel_rfl) (by simp; (try omega)) hS (by rw [rRd]; simp; (try omega)) (fun w1 hr => by rw [rRd] at hr; go_simp; (try rfl)) (fun u3 hu3 ru3 hS => ?_)
 have zd : V.drew.heap.size = V.heap.size := rfl
 have zu3 := hu3.size
 refine wpAnyR_done (by kernel_rfl) (fun w5 h5 => ?_) _
 have rF : row w5 (w.heap.size + 1) = (u8s (shaK (x1 ++ b)) ++ (u8s a ++ u8s d)).toArray := by
  rw [row_below h5 (by rw [setRow_size]; omega)]
  exact row_setRow_same (by rw [ru3, rRd]; simp) (by rw [ru3, rRd]; simp [la, ld, hsx])
 have b5 : Below w.heap.size w w5 := Below.trans (Below.setRow (Below.trans (Below.drew b6) (hu3.mono (by omega))) (by omega) _) (h5.mono (by rw [setRow_size]; omega))
 clear hS h5 hu3 ru3
 go_wp2_with fail
 (try simp only [Exit.inBlock, Exit.then])
 refine bodyPost_ret (results_1 rfl (resOk_row rfl ?_)) rfl ?_
 ·
  rw [rF]
  simp [hsx, la, ld]
 exact ⟨by rw [rF], b5⟩
end
end Go.Proofs.YtakkicppgkmokaaGreat
