/- Texts of this proof, merged: RpB, RpC. -/
import Derived.Test.YtckckabedgpbiaaGreatJ15
import Derived.Test.YtckckabedgpbiaaGreatRsAJ
import Derived.BigQuiet
import Derived.WalkSmall
import Derived.Test.YtckckabedgpbiaaGreatRegJ
set_option linter.unusedSimpArgs false
set_option linter.unusedVariables false
set_option maxRecDepth 4000
namespace Go.Proofs.YtckckabedgpbiaaGreat
section
open Go.RowKit
theorem right_ty {ty vlan prio size : Int} (h : ty ≠ 0) (h2 : ty < 1536 ∨ 65535 < ty ∨ ty = 33024) : rightB ty vlan prio size = false := by
 have e : (ty == 0 || (decide (1536 ≤ ty) && decide (ty ≤ 65535) && ty != 33024)) = false := by
  rw [beq_eq_false_iff_ne.2 h]
  rcases h2 with h2 | h2 | h2
  ·
   rw [decide_eq_false (by omega : ¬ 1536 ≤ ty)]; rfl
  ·
   rw [decide_eq_false (by omega : ¬ ty ≤ 65535)]; simp
  ·
   rw [h2]; rfl
 unfold rightB
 rw [e]
 rfl
theorem right_long {ty vlan prio size : Int} (h : 1500 < size) : rightB ty vlan prio size = false := by
 unfold rightB
 rw [decide_eq_false (by omega : ¬ size ≤ 1500), Bool.and_false]
theorem right_rest {ty vlan prio size : Int} (h : ty = 0 ∨ (1536 ≤ ty ∧ ty ≤ 65535 ∧ ty ≠ 33024)) (hs : size ≤ 1500) : rightB ty vlan prio size = ((vlan == -1 && prio == 0) || (decide (0 ≤ vlan) && decide (vlan ≤ 4094) && decide (0 ≤ prio) && decide (prio ≤ 7))) := by
 have e : (ty == 0 || (decide (1536 ≤ ty) && decide (ty ≤ 65535) && ty != 33024)) = true := by
  rcases h with rfl | ⟨h1, h2, h3⟩
  ·
   rfl
  ·
   rw [decide_eq_true h1, decide_eq_true h2, bne_iff_ne.2 h3]; simp
 unfold rightB
 rw [e, decide_eq_true hs, Bool.and_true, Bool.true_and]
set_option maxRecDepth 20000 in
set_option maxHeartbeats 4000000 in
theorem r08Right_any (dst src : Vector UInt8 6) (ty : Int) (body : List UInt8) (vlan prio : Int) (w : World) (hb : body.length ≤ maxLen) :
  Calls Tryz.prog 81 #[.agg (ethV dst src ty body vlan prio).toArray] w fun e w' => e = .returned (.bool (rightB ty vlan prio body.length)) ∧ Below w.heap.size w w' := by
 have hb2 : (body.length : Int) ≤ 9223372036854775807 := by unfold maxLen at hb; omega
 obtain ⟨r, hr⟩ : ∃ x, rightB ty vlan prio body.length = x := ⟨_, rfl⟩
 rw [hr]
 have HR := Lib.hid hr
 clear hr
 unfold ethV
 go_enter Tryz.func81, Tryz.ntmps81
 obtain ⟨W, hW⟩ : ∃ W, w.alloc (.cells (u8v dst ++ (u8v src ++ [Value.int .i64 ty, .string ⟨body.toArray⟩, .int .i64 vlan, .int .i64 prio])).toArray 101) = W := ⟨_, rfl⟩
 have bW : Below w.heap.size w W := by rw [← hW]; exact Below.alloc (Below.refl _ _) (Nat.le_refl _) _
 have rX : row W w.heap.size = (u8v dst ++ (u8v src ++ [Value.int .i64 ty, .string ⟨body.toArray⟩, .int .i64 vlan, .int .i64 prio])).toArray := by rw [← hW]; exact row_alloc_at _ _ _ rfl
 have zW : W.heap.size = w.heap.size + 1 := by rw [← hW]; simp
 by_cases t0 : ty = 0
 case pos =>
  subst t0
  by_cases lb : 1500 < (body.length : Int)
  ·
   have lb2 := decide_eq_true lb
   go_wp2_with fail
   go_ret
   exact ⟨by rw [← HR.out, right_long lb]; rfl, bW⟩
  have lb2 := decide_eq_false lb
  have HE := Lib.hid (right_rest (vlan := vlan) (prio := prio) (size := (body.length : Int)) (.inl rfl) (by omega))
  by_cases v1 : vlan = -1
  ·
   subst v1
   have v2 : ((-1 : Int) == -1) = true := rfl
   cases p0 : (prio == 0) with
   | true =>
    go_wp2_with fail
    go_ret
    exact ⟨by rw [← HR.out, HE.out, p0]; rfl, bW⟩
   | false =>
    go_wp2_with fail
    go_ret
    exact ⟨by rw [← HR.out, HE.out, p0]; rfl, bW⟩
  have v2 : (vlan == -1) = false := beq_eq_false_iff_ne.2 v1
  by_cases v3 : 0 ≤ vlan
  case neg =>
   have v3b := decide_eq_false v3
   go_wp2_with fail
   go_ret
   exact ⟨by rw [← HR.out, HE.out, v2, v3b]; rfl, bW⟩
  have v3b := decide_eq_true v3
  by_cases v4 : vlan ≤ 4094
  case neg =>
   have v4b := decide_eq_false v4
   go_wp2_with fail
   go_ret
   exact ⟨by rw [← HR.out, HE.out, v2, v3b, v4b]; rfl, bW⟩
  have v4b := decide_eq_true v4
  by_cases v5 : 0 ≤ prio
  case neg =>
   have v5b := decide_eq_false v5
   go_wp2_with fail
   go_ret
   exact ⟨by rw [← HR.out, HE.out, v2, v3b, v4b, v5b]; rfl, bW⟩
  have v5b := decide_eq_true v5
  by_cases v6 : prio ≤ 7
  ·
   have v6b := decide_eq_true v6
   go_wp2_with fail
   go_ret
   exact ⟨by rw [← HR.out, HE.out, v2, v3b, v4b, v5b, v6b]; rfl, bW⟩
  ·
   have v6b := decide_eq_false v6
   go_wp2_with fail
   go_ret
   exact ⟨by rw [← HR.out, HE.out, v2, v3b, v4b, v5b, v6b]; rfl, bW⟩
 have t0b : (ty == 0) = false := beq_eq_false_iff_ne.2 t0
 have t0c : (ty != 0) = true := bne_iff_ne.2 t0
 by_cases t1 : ty < 1536
 ·
  have t1b := decide_eq_true t1
  go_wp2_with fail
  go_ret
  exact ⟨by rw [← HR.out, right_ty t0 (.inl t1)]; rfl, bW⟩
 have t1b := decide_eq_false t1
 by_cases t2 : 65535 < ty
 ·
  have t2b := decide_eq_true t2
  go_wp2_with fail
  go_ret
  exact ⟨by rw [← HR.out, right_ty t0 (.inr (.inl t2))]; rfl, bW⟩
 have t2b := decide_eq_false t2
 by_cases t3 : ty = 33024
 ·
  subst t3
  go_wp2_with fail
  go_ret
  exact ⟨by rw [← HR.out, right_ty t0 (.inr (.inr rfl))]; rfl, bW⟩
 have t3b : (ty == 33024) = false := beq_eq_false_iff_ne.2 t3
 by_cases lb : 1500 < (body.length : Int)
 ·
  have lb2 := decide_eq_true lb
  go_wp2_with fail
  go_ret
  exact ⟨by rw [← HR.out, right_long lb]; rfl, bW⟩
 have lb2 := decide_eq_false lb
 have HE := Lib.hid (right_rest (vlan := vlan) (prio := prio) (size := (body.length : Int)) (.inr ⟨by omega, by omega, t3⟩) (by omega))
 by_cases v1 : vlan = -1
 ·
  subst v1
  have v2 : ((-1 : Int) == -1) = true := rfl
  cases p0 : (prio == 0) with
  | true =>
   go_wp2_with fail
   go_ret
   exact ⟨by rw [← HR.out, HE.out, p0]; rfl, bW⟩
  | false =>
   go_wp2_with fail
   go_ret
   exact ⟨by rw [← HR.out, HE.out, p0]; rfl, bW⟩
 have v2 : (vlan == -1) = false := beq_eq_false_iff_ne.2 v1
 by_cases v3 : 0 ≤ vlan
 case neg =>
  have v3b := decide_eq_false v3
  go_wp2_with fail
  go_ret
  exact ⟨by rw [← HR.out, HE.out, v2, v3b]; rfl, bW⟩
 have v3b := decide_eq_true v3
 by_cases v4 : vlan ≤ 4094
 case neg =>
  have v4b := decide_eq_false v4
  go_wp2_with fail
  go_ret
  exact ⟨by rw [← HR.out, HE.out, v2, v3b, v4b]; rfl, bW⟩
 have v4b := decide_eq_true v4
 by_cases v5 : 0 ≤ prio
 case neg =>
  have v5b := decide_eq_false v5
  go_wp2_with fail
  go_ret
  exact ⟨by rw [← HR.out, HE.out, v2, v3b, v4b, v5b]; rfl, bW⟩
 have v5b := decide_eq_true v5
 by_cases v6 : prio ≤ 7
 ·
  have v6b := decide_eq_true v6
  go_wp2_with fail
  go_ret
  exact ⟨by rw [← HR.out, HE.out, v2, v3b, v4b, v5b, v6b]; rfl, bW⟩
 ·
  have v6b := decide_eq_false v6
  go_wp2_with fail
  go_ret
  exact ⟨by rw [← HR.out, HE.out, v2, v3b, v4b, v5b, v6b]; rfl, bW⟩
end
section
open Go.RowKit
attribute [local irreducible] bytesN
set_option maxRecDepth 20000 in
set_option maxHeartbeats 4000000 in
theorem r08Print_any (dst src : Vector UInt8 6) (ty : Int) (body : List UInt8) (vlan prio : Int) (w : World) (hr : rightB ty vlan prio body.length = true) :
  Calls Tryz.prog 82 #[.agg (ethV dst src ty body vlan prio).toArray] w fun e w' => e = .returned (.string ⟨(ethS dst src ty body vlan prio).toArray⟩) ∧ Below w.heap.size w w' := by
 obtain ⟨n, hn⟩ : ∃ n : Nat, (if ty = 0 then (body.length : Int) else ty) = (n : Int) := by
  simp [rightB] at hr
  split
  ·
   exact ⟨body.length, rfl⟩
  ·
   exact ⟨ty.toNat, by omega⟩
 have hb : body.length ≤ 1500 := by
  simp [rightB] at hr
  omega
 have hnl : n ≤ 65535 := by
  simp [rightB] at hr
  split at hn <;> omega
 have HB := Lib.hid (fun (m : Nat) (hm : m ≤ 65535) w => rbytes_any m 2 w (by omega) (by decide))
 rw [show ((2 : Nat) : Int) = 2 from rfl] at HB
 have hbl : (bytesN n 2).length = 2 := bytesN_length _ _
 have hd : dst.toList.length = 6 := by simp
 have hb1 : ¬ 9223372036854775807 < 14 + body.length := by omega
 have hb2 : ¬ 9223372036854775807 < 18 + body.length := by omega
 have hs : src.toList.length = 6 := by simp
 unfold ethV
 go_enter Tryz.func82, Tryz.ntmps82
 obtain ⟨W, hW⟩ : ∃ W, w.alloc (.cells (u8v dst ++ (u8v src ++ [Value.int .i64 ty, .string ⟨body.toArray⟩, .int .i64 vlan, .int .i64 prio])).toArray 101) = W := ⟨_, rfl⟩
 have bW : Below w.heap.size w W := by rw [← hW]; exact Below.alloc (Below.refl _ _) (Nat.le_refl _) _
 have rX : row W w.heap.size = (u8v dst ++ (u8v src ++ [Value.int .i64 ty, .string ⟨body.toArray⟩, .int .i64 vlan, .int .i64 prio])).toArray := by rw [← hW]; exact row_alloc_at _ _ _ rfl
 have zW : W.heap.size = w.heap.size + 1 := by rw [← hW]; simp
 go_wp2_with fail
 (try rw [hW])
 clear hW
 refine wp_region_beginR [(w.heap.size, (u8v dst ++ (u8v src ++ [Value.int .i64 ty, .string ⟨body.toArray⟩, .int .i64 vlan, .int .i64 prio])).toArray)] rfl (by simp only [Rws]; (repeat (first | exact trivial | refine ⟨(by first | assumption | (simp [go_sem, *]; done)), (by first | omega | (simp; done) | (simp; omega)), ?_⟩))) (fun hS => ?_)
 refine qp 0 hS ?_
 refine qp 1 hS ?_
 refine qp 2 hS ?_
 refine qp 3 hS ?_
 refine qp 4 hS ?_
 refine qp 5 hS ?_
 refine qp 6 hS ?_
 refine qp 7 hS ?_
 refine qp 8 hS ?_
 refine qp 9 hS ?_
 refine wpAnyR_done (by kernel_rfl) (fun w1 b1 => ?_) _
 replace b1 : Below (W).heap.size (W) w1 := below_step (Below.drew (Below.refl _ _)) b1
 have z1 := b1.size
 have B1 := bW.trans (b1.mono (by omega))
 have rX1 := (row_below b1 (by omega)).trans rX
 clear b1 rX hS
 by_cases t0 : ty = 0
 ·
  subst t0
  have HN := Lib.hid hn
  clear hn
  by_cases v1 : vlan = -1
  ·
   subst v1
   go_wp2_with fail
   have zz := (B1).size
   have zX : w.heap.size < w1.heap.size := by omega
   refine wp_region_beginR [(w.heap.size, (u8v dst ++ (u8v src ++ [Value.int .i64 0, .string ⟨body.toArray⟩, .int .i64 (-1), .int .i64 prio])).toArray)] rfl (by simp only [Rws]; (repeat (first | exact trivial | refine ⟨(by first | assumption | (simp [go_sem, *]; done)), (by first | omega | (simp; done) | (simp; omega)), ?_⟩))) (fun hS => ?_)
   refine qp 0 hS ?_
   refine qp 1 hS ?_
   refine qp 2 hS ?_
   refine qp 3 hS ?_
   refine qp 4 hS ?_
   refine qc 5 (v := ?_) hS ?_ ?_
   rotate_left
   ·
    intro w' hS'
    simp only [Rws] at hS'
    go_simp
    with_reducible refine (HB.out body.length (by omega) _).mono ?_
    rintro e w'' ⟨rfl, hb⟩
    exact ⟨_, rfl, by rfl, hb⟩
   refine qp 6 hS ?_
   refine qp 7 hS ?_
   refine qp 8 hS ?_
   refine qp 9 hS ?_
   refine qp 10 hS ?_
   refine qp 11 hS ?_
   refine wpAnyR_done (by kernel_rfl) (fun wf bf => ?_) _
   replace bf : Below (w1).heap.size (w1) wf := below_step (Below.drew (Below.refl _ _)) bf
   go_wp2_with fail
   go_ret
   exact ⟨by simp [ethS, tagS], (B1).trans (bf.mono zz)⟩
  have hv0 : 0 ≤ vlan := by
   simp [rightB] at hr
   omega
  have hv1 : vlan ≤ 4094 := by
   simp [rightB] at hr
   omega
  have hp0 : 0 ≤ prio ∧ prio ≤ 7 := by
   simp [rightB] at hr
   omega
  obtain ⟨m, hm⟩ : ∃ m : Nat, prio * 8192 + vlan = (m : Int) := ⟨(prio * 8192 + vlan).toNat, by omega⟩
  have hw : wrap64 (wrap64 (8192 * prio) + vlan) = (m : Int) := by unfold wrap64; omega
  have hw2 : 8192 * prio + vlan = (m : Int) := by omega
  have hbm : (bytesN m 2).length = 2 := bytesN_length _ _
  have HM := Lib.hid hm
  have HBm := Lib.hid (fun w => HB.out m (by omega) w)
  clear hm
  go_wp2_with fail
  (with_reducible refine (HBm.out _).mono ?_)
  rintro e w2 ⟨rfl, b2⟩
  have z2 := b2.size
  have B2 := B1.trans (b2.mono (by omega))
  have rX2 := (row_below b2 (by omega)).trans rX1
  clear b2 rX1
  go_wp2_with fail
  have zz := (B2).size
  have zX : w.heap.size < w2.heap.size := by omega
  refine wp_region_beginR [(w.heap.size, (u8v dst ++ (u8v src ++ [Value.int .i64 0, .string ⟨body.toArray⟩, .int .i64 vlan, .int .i64 prio])).toArray)] rfl (by simp only [Rws]; (repeat (first | exact trivial | refine ⟨(by first | assumption | (simp [go_sem, *]; done)), (by first | omega | (simp; done) | (simp; omega)), ?_⟩))) (fun hS => ?_)
  refine qp 0 hS ?_
  refine qp 1 hS ?_
  refine qp 2 hS ?_
  refine qp 3 hS ?_
  refine qp 4 hS ?_
  refine qc 5 (v := ?_) hS ?_ ?_
  rotate_left
  ·
   intro w' hS'
   simp only [Rws] at hS'
   go_simp
   with_reducible refine (HB.out body.length (by omega) _).mono ?_
   rintro e w'' ⟨rfl, hb⟩
   exact ⟨_, rfl, by rfl, hb⟩
  refine qp 6 hS ?_
  refine qp 7 hS ?_
  refine qp 8 hS ?_
  refine qp 9 hS ?_
  refine qp 10 hS ?_
  refine qp 11 hS ?_
  refine wpAnyR_done (by kernel_rfl) (fun wf bf => ?_) _
  replace bf : Below (w2).heap.size (w2) wf := below_step (Below.drew (Below.refl _ _)) bf
  go_wp2_with fail
  go_ret
  exact ⟨by simp [ethS, tagS, v1, HM.out], (B2).trans (bf.mono zz)⟩
 ·
  have hn2 : ty = (n : Int) := by rw [if_neg t0] at hn; exact hn
  have t0b : (ty == 0) = false := beq_eq_false_iff_ne.2 t0
  have tn : ty.toNat = n := by omega
  have t0N : ¬ n = 0 := by omega
  clear hn
  subst hn2
  by_cases v1 : vlan = -1
  ·
   subst v1
   go_wp2_with fail
   have zz := (B1).size
   have zX : w.heap.size < w1.heap.size := by omega
   refine wp_region_beginR [(w.heap.size, (u8v dst ++ (u8v src ++ [Value.int .i64 (n : Int), .string ⟨body.toArray⟩, .int .i64 (-1), .int .i64 prio])).toArray)] rfl (by simp only [Rws]; (repeat (first | exact trivial | refine ⟨(by first | assumption | (simp [go_sem, *]; done)), (by first | omega | (simp; done) | (simp; omega)), ?_⟩))) (fun hS => ?_)
   refine qp 0 hS ?_
   refine qp 1 hS ?_
   refine qp 2 hS ?_
   refine qp 3 hS ?_
   refine qc 4 (v := ?_) hS ?_ ?_
   rotate_left
   ·
    intro w' hS'
    simp only [Rws] at hS'
    go_simp
    with_reducible refine (HB.out n (by omega) _).mono ?_
    rintro e w'' ⟨rfl, hb⟩
    exact ⟨_, rfl, by rfl, hb⟩
   refine qp 5 hS ?_
   refine qp 6 hS ?_
   refine qp 7 hS ?_
   refine qp 8 hS ?_
   refine qp 9 hS ?_
   refine qp 10 hS ?_
   refine wpAnyR_done (by kernel_rfl) (fun wf bf => ?_) _
   replace bf : Below (w1).heap.size (w1) wf := below_step (Below.drew (Below.refl _ _)) bf
   go_wp2_with fail
   go_ret
   exact ⟨by simp [ethS, tagS, t0N], (B1).trans (bf.mono zz)⟩
  have hv0 : 0 ≤ vlan := by
   simp [rightB] at hr
   omega
  have hv1 : vlan ≤ 4094 := by
   simp [rightB] at hr
   omega
  have hp0 : 0 ≤ prio ∧ prio ≤ 7 := by
   simp [rightB] at hr
   omega
  obtain ⟨m, hm⟩ : ∃ m : Nat, prio * 8192 + vlan = (m : Int) := ⟨(prio * 8192 + vlan).toNat, by omega⟩
  have hw : wrap64 (wrap64 (8192 * prio) + vlan) = (m : Int) := by unfold wrap64; omega
  have hw2 : 8192 * prio + vlan = (m : Int) := by omega
  have hbm : (bytesN m 2).length = 2 := bytesN_length _ _
  have HM := Lib.hid hm
  have HBm := Lib.hid (fun w => HB.out m (by omega) w)
  clear hm
  go_wp2_with fail
  (with_reducible refine (HBm.out _).mono ?_)
  rintro e w2 ⟨rfl, b2⟩
  have z2 := b2.size
  have B2 := B1.trans (b2.mono (by omega))
  have rX2 := (row_below b2 (by omega)).trans rX1
  clear b2 rX1
  go_wp2_with fail
  have zz := (B2).size
  have zX : w.heap.size < w2.heap.size := by omega
  refine wp_region_beginR [(w.heap.size, (u8v dst ++ (u8v src ++ [Value.int .i64 (n : Int), .string ⟨body.toArray⟩, .int .i64 vlan, .int .i64 prio])).toArray)] rfl (by simp only [Rws]; (repeat (first | exact trivial | refine ⟨(by first | assumption | (simp [go_sem, *]; done)), (by first | omega | (simp; done) | (simp; omega)), ?_⟩))) (fun hS => ?_)
  refine qp 0 hS ?_
  refine qp 1 hS ?_
  refine qp 2 hS ?_
  refine qp 3 hS ?_
  refine qc 4 (v := ?_) hS ?_ ?_
  rotate_left
  ·
   intro w' hS'
   simp only [Rws] at hS'
   go_simp
   with_reducible refine (HB.out n (by omega) _).mono ?_
   rintro e w'' ⟨rfl, hb⟩
   exact ⟨_, rfl, by rfl, hb⟩
  refine qp 5 hS ?_
  refine qp 6 hS ?_
  refine qp 7 hS ?_
  refine qp 8 hS ?_
  refine qp 9 hS ?_
  refine qp 10 hS ?_
  refine wpAnyR_done (by kernel_rfl) (fun wf bf => ?_) _
  replace bf : Below (w2).heap.size (w2) wf := below_step (Below.drew (Below.refl _ _)) bf
  go_wp2_with fail
  go_ret
  exact ⟨by simp [ethS, tagS, t0N, v1, HM.out], (B2).trans (bf.mono zz)⟩
end
end Go.Proofs.YtckckabedgpbiaaGreat
