/- Texts of this proof, merged: Noi, NoiT, NoiC, NoiB, NoiM, NoiS, NoiG. -/
import Derived.Test.YtakkicppgkmokaaGreatJ14
set_option linter.unusedSimpArgs false
set_option linter.unusedVariables false
set_option maxRecDepth 4000
namespace Go.Proofs.YtakkicppgkmokaaGreat
section
open Go.RowKit
set_option maxRecDepth 20000 in
theorem text_any (k : List UInt8) (w : World) (hk : k.length = 32) :
  Calls Tryz.prog 26 #[.agg (u8s k).toArray] w fun e w' => e = .returned (.string ⟨k.toArray⟩) ∧ Below w.heap.size w w' := by
 go_enter Tryz.func26, Tryz.ntmps26
 go_wp2_with fail
 go_ret
 exact ⟨rfl, (by (repeat (first | exact Below.refl _ _ | refine Below.al ?_ _ | refine Below.drew ?_ | refine Below.sr ?_ _ | refine Below.sc ?_ _)))⟩
attribute [local irreducible] shaK
set_option maxRecDepth 20000 in
set_option maxHeartbeats 1000000 in
theorem hash_any (a b : List UInt8) (w : World) (ha : a.length ≤ 400000) (hb : b.length ≤ 400000) :
  Calls Tryz.prog 88 #[.string ⟨a.toArray⟩, .string ⟨b.toArray⟩] w fun e w' => e = .returned (.agg (u8s (shaK (a ++ b))).toArray) ∧ Below w.heap.size w w' := by
 have HS := Lib.hid (fun w => sum_any (a ++ b) w (by simp; omega))
 have hyl := shaK_length (a ++ b)
 obtain ⟨y, hy⟩ : ∃ y, shaK (a ++ b) = y := ⟨_, rfl⟩
 rw [hy] at HS hyl ⊢
 clear hy
 have haI : (a.length : Int) ≤ 400000 := by omega
 have hbI : (b.length : Int) ≤ 400000 := by omega
 have hl3 : ¬ 9223372036854775807 < a.length + b.length := by omega
 go_enter Tryz.func88, Tryz.ntmps88
 go_wp2_with fail
 refine (HS.out _).mono ?_
 rintro e w1 ⟨rfl, b1⟩
 have rR1 : row w1 w.heap.size = (zeros 32 (.int .u8 0)).toArray := by rw [row_below b1 (by simp only [alloc_sizeW]; omega)]; simp [go_sem]
 have z1 : w.heap.size < w1.heap.size := by have := b1.size; simp only [alloc_sizeW] at this; omega
 replace b1 := below_of b1 (show Below (w).heap.size w _ from by (repeat (first | exact Below.refl _ _ | refine Below.al ?_ _ | refine Below.drew ?_ | refine Below.sr ?_ _ | refine Below.sc ?_ _))) (by first | (simp; done) | (simp; omega) | omega)
 clear HS
 go_wp2_with fail
 have hfin := row_setRow_same (w := w1) (g := w.heap.size) (c := (u8s y).toArray) (by rw [rR1]; simp) (by rw [rR1]; simp [hyl])
 (try simp only [Exit.inBlock, Exit.then])
 refine bodyPost_ret (results_1 rfl (resOk_row rfl ?_)) rfl ?_
 ·
  rw [hfin]
  simp [hyl]
 refine ⟨by rw [hfin], ?_⟩
 exact Below.setRow b1 (by omega) _
structure TalkT where
 h : List UInt8
 c : List UInt8
 k : List UInt8
 n : Nat
 s : List UInt8
structure TalkT.ok (t : TalkT) : Prop where
 h : t.h.length = 32
 c : t.c.length = 32
 k : t.k.length = 32
 s : t.s.length = 32
 n : t.n ≤ 100
def TalkT.cells (t : TalkT) : List Value := u8s t.h ++ (u8s t.c ++ (u8s t.k ++ (.int .u64 (t.n : Int) :: u8s t.s)))
theorem TalkT.cells_length {t : TalkT} (h : t.ok) : t.cells.length = 129 := by simp [TalkT.cells, h.h, h.c, h.k, h.s]
end
section
open Go.RowKit
attribute [local irreducible] shaK macL keysF
set_option maxRecDepth 20000 in
set_option maxHeartbeats 1000000 in
theorem tkeys_any (t : TalkT) (s : List UInt8) (n S : Nat) (w : World) (ht : t.ok) (hs : s.length ≤ 1000) (hn : n ≤ 255) (hS : row w S = t.cells.toArray) :
  Calls Tryz.prog 61 #[.pointer (some ⟨S, 0, none⟩), .string ⟨s.toArray⟩, .int .i64 n] w fun e w' => ∃ v B, e = .returned v ∧ w.heap.size ≤ B ∧ OwnK w' B v n (keysF (macL t.c s) [] n) ∧ Below w.heap.size w w' := by
 have zS : S < w.heap.size := lt_of_row (i := 0) (by rw [hS]; simp [TalkT.cells_length ht])
 obtain ⟨th, tc, tk, tn, ts⟩ := t
 have h1 := ht.h
 have h2 := ht.c
 have h3 := ht.k
 have h4 := ht.s
 simp only at h1 h2 h3 h4
 unfold TalkT.cells at hS
 simp only at hS ⊢
 have HT := Lib.hid (fun w => text_any tc w h2)
 have HM := Lib.hid (fun w => macRoot_any tc s w (by omega) (by omega))
 have hyl := macL_length tc s
 obtain ⟨y, hy⟩ : ∃ y, macL tc s = y := ⟨_, rfl⟩
 rw [hy] at HM hyl ⊢
 have HK := Lib.hid (fun w => keys_any y [] n w hyl (by simp) hn)
 clear hy ht
 go_enter Tryz.func61, Tryz.ntmps61
 go_wp2_with fail
 refine (HT.out _).mono ?_
 rintro e w1 ⟨rfl, b1⟩
 have z1 := b1.size
 clear hS
 go_wp2_with fail
 refine (HM.out _).mono ?_
 rintro e w2 ⟨rfl, b2⟩
 have z2 := b2.size
 go_wp2_with fail
 refine (HK.out _).mono ?_
 rintro e w3 ⟨v, rfl, o3, b3⟩
 have bb : Below w.heap.size w w3 := b1.trans ((b2.mono (by omega)).trans (b3.mono (by omega)))
 go_wp2_with fail
 go_ret
 exact ⟨v, w2.heap.size + 1 + 1 + 1, rfl, by omega, o3, bb⟩
set_option maxRecDepth 20000 in
set_option maxHeartbeats 1000000 in
theorem tsum_any (t : TalkT) (s : List UInt8) (S : Nat) (w : World) (ht : t.ok) (hs : s.length ≤ 400000) (hS : row w S = t.cells.toArray) :
  Calls Tryz.prog 56 #[.pointer (some ⟨S, 0, none⟩), .string ⟨s.toArray⟩] w fun e w' => e = .returned (.tuple #[]) ∧ row w' S = ({ t with h := shaK (t.h ++ s) } : TalkT).cells.toArray ∧ BelowBut w.heap.size S w w' := by
 have zS : S < w.heap.size := lt_of_row (i := 0) (by rw [hS]; simp [TalkT.cells_length ht])
 obtain ⟨th, tc, tk, tn, ts⟩ := t
 have h1 := ht.h
 have h2 := ht.c
 have h3 := ht.k
 have h4 := ht.s
 simp only at h1 h2 h3 h4
 unfold TalkT.cells at hS ⊢
 simp only at hS ⊢
 have HT := Lib.hid (fun w => text_any th w h1)
 have HM := Lib.hid (fun w => hash_any th s w (by omega) hs)
 have hyl := shaK_length (th ++ s)
 obtain ⟨y, hy⟩ : ∃ y, shaK (th ++ s) = y := ⟨_, rfl⟩
 rw [hy] at HM hyl ⊢
 clear hy ht
 go_enter Tryz.func56, Tryz.ntmps56
 go_wp2_with fail
 refine (HT.out _).mono ?_
 rintro e w1 ⟨rfl, b1⟩
 have z1 := b1.size
 have hS1 := (row_below b1 zS).trans hS
 go_wp2_with fail
 refine (HM.out _).mono ?_
 rintro e w2 ⟨rfl, b2⟩
 have z2 := b2.size
 have hS2 := (row_below b2 (by omega)).trans hS1
 have zS2 : S < w2.heap.size := by omega
 have bb : Below w.heap.size w w2 := b1.trans (b2.mono (by omega))
 clear hS hS1 HT HM b1 b2
 go_wp2_with fail
 go_end0
 exact ⟨rfl, row_setRow_same (by rw [hS2]; simp; omega) (by rw [hS2]; simp [hyl, h1]), (BelowBut.of bb).trans (BelowBut.set _ _)⟩
end
section
open Go.RowKit
theorem OwnK.form {w : World} {B n : Nat} {v : Value} {l : List UInt8} (h : OwnK w B v n l) (hn : 0 < n) :
  ∃ g c s, v = .slice (some ⟨g, 0, none⟩) n c ∧ B ≤ g ∧ g < w.heap.size ∧ row w g = (u8s l ++ s).toArray := by
 obtain ⟨hl, ⟨rfl, h0⟩ | ⟨g, cap, cur, rfl, hg0, hg, hnc, hm, hc, ht⟩⟩ := h
 ·
  omega
 ·
  refine ⟨g, cap, cur.toList.drop (n * 32), rfl, hg0, ?_, ?_⟩
  ·
   rcases Nat.lt_or_ge g w.heap.size with h1 | h1
   ·
    exact h1
   ·
    rw [Array.getElem?_eq_none h1] at hg
    cases hg
  ·
   unfold row
   rw [hg]
   apply Array.ext'
   simp only [if_true, true_or]
   conv => lhs; rw [← List.take_append_drop (n * 32) cur.toList, ht]
theorem keysF_two (y : List UInt8) : keysF y [] 2 = keyN y [] 1 ++ keyN y [] 2 := by simp [keysF]
attribute [local irreducible] shaK macL keysF keyN
set_option maxRecDepth 20000 in
set_option maxHeartbeats 1000000 in
theorem chain_any (t : TalkT) (s : List UInt8) (S : Nat) (w : World) (ht : t.ok) (hs : s.length ≤ 1000) (hS : row w S = t.cells.toArray) :
  Calls Tryz.prog 59 #[.pointer (some ⟨S, 0, none⟩), .string ⟨s.toArray⟩] w fun e w' => e = .returned (.tuple #[]) ∧ row w' S = ({ t with c := keyN (macL t.c s) [] 1, k := keyN (macL t.c s) [] 2, n := 0 } : TalkT).cells.toArray ∧ BelowBut w.heap.size S w w' := by
 have zS : S < w.heap.size := lt_of_row (i := 0) (by rw [hS]; simp [TalkT.cells_length ht])
 have HK := Lib.hid (tkeys_any t s 2 S w ht hs (by omega) hS)
 obtain ⟨th, tc, tk, tn, ts⟩ := t
 have h1 := ht.h
 have h2 := ht.c
 have h3 := ht.k
 have h4 := ht.s
 simp only at h1 h2 h3 h4 HK
 rw [keysF_two] at HK
 unfold TalkT.cells at hS ⊢
 simp only at hS ⊢
 have l1 := keyN_length (macL tc s) [] 0
 have l2 := keyN_length (macL tc s) [] 1
 simp only [Nat.zero_add, Nat.reduceAdd] at l1 l2
 obtain ⟨a, ha⟩ : ∃ a, keyN (macL tc s) [] 1 = a := ⟨_, rfl⟩
 obtain ⟨b, hb⟩ : ∃ b, keyN (macL tc s) [] 2 = b := ⟨_, rfl⟩
 rw [ha] at HK l1 ⊢
 rw [hb] at HK l2 ⊢
 clear ha hb ht
 go_enter Tryz.func59, Tryz.ntmps59
 go_wp2_with fail
 refine (HK.out).mono ?_
 rintro e w1 ⟨v, B, rfl, hB, own, b1⟩
 obtain ⟨g, c, sp, rfl, hg, zg, rg⟩ := own.form (by omega)
 rw [u8s_append, List.append_assoc] at rg
 have z1 := b1.size
 have hS1 := (row_below b1 zS).trans hS
 clear HK hS own
 go_wp2_with fail
 have hSd : row w1.drew S = (u8s th ++ (u8s tc ++ (u8s tk ++ (.int .u64 (tn : Int) :: u8s ts)))).toArray := hS1
 have hgS : S < g := by omega
 have q1 : 64 ≤ 32 + (32 + sp.length) := by omega
 have q2 : 32 + 32 ≤ 32 + (32 + sp.length) := by omega
 have q3 : 64 ≤ a.length + (b.length + sp.length) := by omega
 have q4 : 32 + 32 ≤ a.length + (b.length + sp.length) := by omega
 refine wp_region_beginR [(g, (u8s a ++ (u8s b ++ sp)).toArray)] rfl (by simp only [Rws]; (repeat (first | exact trivial | refine ⟨(by first | assumption | (simp [go_sem, *]; done)), (by first | omega | (simp; done) | (simp; omega)), ?_⟩))) (fun hS => ?_)
 refine qp 0 hS ?_
 refine qp 1 hS ?_
 refine qp 2 hS ?_
 refine qp 3 hS ?_
 refine qp 4 hS ?_
 refine qp 5 hS ?_
 refine qp 6 hS ?_
 refine qp 7 hS ?_
 refine qp 8 hS ?_
 refine qp 9 hS ?_
 refine qp 10 hS ?_
 refine wpAnyR_store (i := 11) (b := S) (c := (u8s th ++ (u8s a ++ (u8s tk ++ (.int .u64 (tn : Int) :: u8s ts)))).toArray) (by simp only [List.getElem?_toArray, List.getElem?_cons_succ, List.getElem?_cons_zero]; rfl) rfl rfl (by kernel_rfl) (by simp; (try omega)) hS (by rw [hSd]; simp; (try omega)) (fun w1 hr => by rw [hSd] at hr; go_simp; (try rfl)) (fun u1 hu1 ru1 hS => ?_)
 have c0 : BelowBut w.heap.size S w w1.drew := BelowBut.of (Below.drew b1)
 have zd : w1.drew.heap.size = w1.heap.size := rfl
 have z1 := hu1.size
 have c1 : BelowBut w.heap.size S w (u1.setRow S (u8s th ++ (u8s a ++ (u8s tk ++ (.int .u64 (tn : Int) :: u8s ts)))).toArray) := (c0.trans (BelowBut.of (hu1.mono (by first | omega | (show w.heap.size ≤ w1.heap.size; omega))))).trans (BelowBut.set _ _)
 obtain ⟨w2, hw2⟩ : ∃ v, u1.setRow S (u8s th ++ (u8s a ++ (u8s tk ++ (.int .u64 (tn : Int) :: u8s ts)))).toArray = v := ⟨_, rfl⟩
 have rw2 : row w2 S = (u8s th ++ (u8s a ++ (u8s tk ++ (.int .u64 (tn : Int) :: u8s ts)))).toArray := by
  rw [← hw2]
  exact row_setRow_same (by rw [ru1, hSd]; simp; omega) (by rw [ru1, hSd]; simp; (try omega))
 have zw2 : w.heap.size ≤ w2.heap.size := by rw [← hw2, setRow_size]; omega
 rw [hw2] at hS c1 ⊢
 clear hw2 hu1 ru1
 refine qp 12 hS ?_
 refine qp 13 hS ?_
 refine wpAnyR_store (i := 14) (b := S) (c := (u8s th ++ (u8s a ++ (u8s b ++ (.int .u64 (tn : Int) :: u8s ts)))).toArray) (by simp only [List.getElem?_toArray, List.getElem?_cons_succ, List.getElem?_cons_zero]; rfl) rfl rfl (by kernel_rfl) (by simp; (try omega)) hS (by rw [rw2]; simp; (try omega)) (fun w1 hr => by rw [rw2] at hr; go_simp; (try rfl)) (fun u2 hu2 ru2 hS => ?_)
 have z2 := hu2.size
 have c2 : BelowBut w.heap.size S w (u2.setRow S (u8s th ++ (u8s a ++ (u8s b ++ (.int .u64 (tn : Int) :: u8s ts)))).toArray) := (c1.trans (BelowBut.of (hu2.mono (by first | omega | (show w.heap.size ≤ w1.heap.size; omega))))).trans (BelowBut.set _ _)
 obtain ⟨w3, hw3⟩ : ∃ v, u2.setRow S (u8s th ++ (u8s a ++ (u8s b ++ (.int .u64 (tn : Int) :: u8s ts)))).toArray = v := ⟨_, rfl⟩
 have rw3 : row w3 S = (u8s th ++ (u8s a ++ (u8s b ++ (.int .u64 (tn : Int) :: u8s ts)))).toArray := by
  rw [← hw3]
  exact row_setRow_same (by rw [ru2, rw2]; simp; omega) (by rw [ru2, rw2]; simp; (try omega))
 have zw3 : w.heap.size ≤ w3.heap.size := by rw [← hw3, setRow_size]; omega
 rw [hw3] at hS c2 ⊢
 clear hw3 hu2 ru2
 refine qp 15 hS ?_
 refine qp 16 hS ?_
 refine wpAnyR_store (i := 17) (b := S) (c := (u8s th ++ (u8s a ++ (u8s b ++ (.int .u64 0 :: u8s ts)))).toArray) (by simp only [List.getElem?_toArray, List.getElem?_cons_succ, List.getElem?_cons_zero]; rfl) rfl rfl (by kernel_rfl) (by simp; (try omega)) hS (by rw [rw3]; simp; (try omega)) (fun w1 hr => by rw [rw3] at hr; go_simp; (try rfl)) (fun u3 hu3 ru3 hS => ?_)
 have z3 := hu3.size
 have c3 : BelowBut w.heap.size S w (u3.setRow S (u8s th ++ (u8s a ++ (u8s b ++ (.int .u64 0 :: u8s ts)))).toArray) := (c2.trans (BelowBut.of (hu3.mono (by first | omega | (show w.heap.size ≤ w1.heap.size; omega))))).trans (BelowBut.set _ _)
 obtain ⟨w4, hw4⟩ : ∃ v, u3.setRow S (u8s th ++ (u8s a ++ (u8s b ++ (.int .u64 0 :: u8s ts)))).toArray = v := ⟨_, rfl⟩
 have rw4 : row w4 S = (u8s th ++ (u8s a ++ (u8s b ++ (.int .u64 0 :: u8s ts)))).toArray := by
  rw [← hw4]
  exact row_setRow_same (by rw [ru3, rw3]; simp; omega) (by rw [ru3, rw3]; simp; (try omega))
 have zw4 : w.heap.size ≤ w4.heap.size := by rw [← hw4, setRow_size]; omega
 rw [hw4] at hS c3 ⊢
 clear hw4 hu3 ru3
 refine wpAnyR_done (by kernel_rfl) (fun wN hN => ?_) _
 have rN : row wN S = (u8s th ++ (u8s a ++ (u8s b ++ (.int .u64 0 :: u8s ts)))).toArray := by rw [row_below hN (by omega)]; exact rw4
 have cN : BelowBut w.heap.size S w wN := c3.trans (BelowBut.of (hN.mono (by omega)))
 go_wp2_with fail
 go_end0
 exact ⟨rfl, rN, cN⟩
end
section
open Go.RowKit
theorem keysF_three (y : List UInt8) : keysF y [] 3 = keyN y [] 1 ++ (keyN y [] 2 ++ keyN y [] 3) := by simp [keysF]
attribute [local irreducible] shaK macL keysF keyN
set_option maxRecDepth 20000 in
set_option maxHeartbeats 1000000 in
theorem both_any (t : TalkT) (s : List UInt8) (S : Nat) (w : World) (ht : t.ok) (hs : s.length ≤ 1000) (hS : row w S = t.cells.toArray) :
  Calls Tryz.prog 57 #[.pointer (some ⟨S, 0, none⟩), .string ⟨s.toArray⟩] w fun e w' => e = .returned (.tuple #[]) ∧ row w' S = ({ t with h := shaK (t.h ++ keyN (macL t.c s) [] 2), c := keyN (macL t.c s) [] 1, k := keyN (macL t.c s) [] 3, n := 0 } : TalkT).cells.toArray ∧ BelowBut w.heap.size S w w' := by
 have zS : S < w.heap.size := lt_of_row (i := 0) (by rw [hS]; simp [TalkT.cells_length ht])
 have HK := Lib.hid (tkeys_any t s 3 S w ht hs (by omega) hS)
 obtain ⟨th, tc, tk, tn, ts⟩ := t
 have h1 := ht.h
 have h2 := ht.c
 have h3 := ht.k
 have h4 := ht.s
 simp only at h1 h2 h3 h4 HK
 rw [keysF_three] at HK
 unfold TalkT.cells at hS ⊢
 simp only at hS ⊢
 have l1 := keyN_length (macL tc s) [] 0
 have lm := keyN_length (macL tc s) [] 1
 have l2 := keyN_length (macL tc s) [] 2
 simp only [Nat.zero_add, Nat.reduceAdd] at l1 lm l2
 obtain ⟨a, ha⟩ : ∃ a, keyN (macL tc s) [] 1 = a := ⟨_, rfl⟩
 obtain ⟨m, hmm⟩ : ∃ b, keyN (macL tc s) [] 2 = b := ⟨_, rfl⟩
 obtain ⟨b, hb⟩ : ∃ b, keyN (macL tc s) [] 3 = b := ⟨_, rfl⟩
 rw [ha] at HK l1 ⊢
 rw [hmm] at HK lm ⊢
 rw [hb] at HK l2 ⊢
 clear ha hb hmm ht
 go_enter Tryz.func57, Tryz.ntmps57
 go_wp2_with fail
 refine (HK.out).mono ?_
 rintro e w1 ⟨v, B, rfl, hB, own, b1⟩
 obtain ⟨g, c, sp, rfl, hg, zg, rg⟩ := own.form (by omega)
 rw [u8s_append, u8s_append, List.append_assoc, List.append_assoc] at rg
 have z1 := b1.size
 have hS1 := (row_below b1 zS).trans hS
 clear HK hS own
 go_wp2_with fail
 have hSd : row w1.drew S = (u8s th ++ (u8s tc ++ (u8s tk ++ (.int .u64 (tn : Int) :: u8s ts)))).toArray := hS1
 have hgS : S < g := by omega
 have q1 : 96 ≤ 32 + (32 + (32 + sp.length)) := by omega
 have q2 : 64 + 32 ≤ 32 + (32 + (32 + sp.length)) := by omega
 have q3 : 32 ≤ 32 + (32 + (32 + sp.length)) := by omega
 have q4 : 64 ≤ 32 + (32 + (32 + sp.length)) := by omega
 have q5 : 32 + 32 ≤ 32 + (32 + (32 + sp.length)) := by omega
 refine wp_region_beginR [(g, (u8s a ++ (u8s m ++ (u8s b ++ sp))).toArray)] rfl (by simp only [Rws]; (repeat (first | exact trivial | refine ⟨(by first | assumption | (simp [go_sem, *]; done)), (by first | omega | (simp; done) | (simp; omega)), ?_⟩))) (fun hS => ?_)
 refine qp 0 hS ?_
 refine qp 1 hS ?_
 refine qp 2 hS ?_
 refine qp 3 hS ?_
 refine qp 4 hS ?_
 refine qp 5 hS ?_
 refine qp 6 hS ?_
 refine qp 7 hS ?_
 refine qp 8 hS ?_
 refine qp 9 hS ?_
 refine qp 10 hS ?_
 refine wpAnyR_store (i := 11) (b := S) (c := (u8s th ++ (u8s a ++ (u8s tk ++ (.int .u64 (tn : Int) :: u8s ts)))).toArray) (by simp only [List.getElem?_toArray, List.getElem?_cons_succ, List.getElem?_cons_zero]; rfl) rfl rfl (by kernel_rfl) (by simp; (try omega)) hS (by rw [hSd]; simp; (try omega)) (fun w1 hr => by rw [hSd] at hr; go_simp; (try rfl)) (fun u1 hu1 ru1 hS => ?_)
 have c0 : BelowBut w.heap.size S w w1.drew := BelowBut.of (Below.drew b1)
 have zd : w1.drew.heap.size = w1.heap.size := rfl
 have z1 := hu1.size
 have c1 : BelowBut w.heap.size S w (u1.setRow S (u8s th ++ (u8s a ++ (u8s tk ++ (.int .u64 (tn : Int) :: u8s ts)))).toArray) := (c0.trans (BelowBut.of (hu1.mono (by first | omega | (show w.heap.size ≤ w1.heap.size; omega))))).trans (BelowBut.set _ _)
 obtain ⟨w2, hw2⟩ : ∃ v, u1.setRow S (u8s th ++ (u8s a ++ (u8s tk ++ (.int .u64 (tn : Int) :: u8s ts)))).toArray = v := ⟨_, rfl⟩
 have rw2 : row w2 S = (u8s th ++ (u8s a ++ (u8s tk ++ (.int .u64 (tn : Int) :: u8s ts)))).toArray := by
  rw [← hw2]
  exact row_setRow_same (by rw [ru1, hSd]; simp; omega) (by rw [ru1, hSd]; simp; (try omega))
 have zw2 : w.heap.size ≤ w2.heap.size := by rw [← hw2, setRow_size]; omega
 rw [hw2] at hS c1 ⊢
 clear hw2 hu1 ru1
 refine qp 12 hS ?_
 refine qp 13 hS ?_
 refine wpAnyR_store (i := 14) (b := S) (c := (u8s th ++ (u8s a ++ (u8s b ++ (.int .u64 (tn : Int) :: u8s ts)))).toArray) (by simp only [List.getElem?_toArray, List.getElem?_cons_succ, List.getElem?_cons_zero]; rfl) rfl rfl (by kernel_rfl) (by simp; (try omega)) hS (by rw [rw2]; simp; (try omega)) (fun w1 hr => by rw [rw2] at hr; go_simp; (try rfl)) (fun u2 hu2 ru2 hS => ?_)
 have z2 := hu2.size
 have c2 : BelowBut w.heap.size S w (u2.setRow S (u8s th ++ (u8s a ++ (u8s b ++ (.int .u64 (tn : Int) :: u8s ts)))).toArray) := (c1.trans (BelowBut.of (hu2.mono (by first | omega | (show w.heap.size ≤ w1.heap.size; omega))))).trans (BelowBut.set _ _)
 obtain ⟨w3, hw3⟩ : ∃ v, u2.setRow S (u8s th ++ (u8s a ++ (u8s b ++ (.int .u64 (tn : Int) :: u8s ts)))).toArray = v := ⟨_, rfl⟩
 have rw3 : row w3 S = (u8s th ++ (u8s a ++ (u8s b ++ (.int .u64 (tn : Int) :: u8s ts)))).toArray := by
  rw [← hw3]
  exact row_setRow_same (by rw [ru2, rw2]; simp; omega) (by rw [ru2, rw2]; simp; (try omega))
 have zw3 : w.heap.size ≤ w3.heap.size := by rw [← hw3, setRow_size]; omega
 rw [hw3] at hS c2 ⊢
 clear hw3 hu2 ru2
 refine qp 15 hS ?_
 refine qp 16 hS ?_
 refine wpAnyR_store (i := 17) (b := S) (c := (u8s th ++ (u8s a ++ (u8s b ++ (.int .u64 0 :: u8s ts)))).toArray) (by simp only [List.getElem?_toArray, List.getElem?_cons_succ, List.getElem?_cons_zero]; rfl) rfl rfl (by kernel_rfl) (by simp; (try omega)) hS (by rw [rw3]; simp; (try omega)) (fun w1 hr => by rw [rw3] at hr; go_simp; (try rfl)) (fun u3 hu3 ru3 hS => ?_)
 have z3 := hu3.size
 have c3 : BelowBut w.heap.size S w (u3.setRow S (u8s th ++ (u8s a ++ (u8s b ++ (.int .u64 0 :: u8s ts)))).toArray) := (c2.trans (BelowBut.of (hu3.mono (by first | omega | (show w.heap.size ≤ w1.heap.size; omega))))).trans (BelowBut.set _ _)
 obtain ⟨w4, hw4⟩ : ∃ v, u3.setRow S (u8s th ++ (u8s a ++ (u8s b ++ (.int .u64 0 :: u8s ts)))).toArray = v := ⟨_, rfl⟩
 have rw4 : row w4 S = (u8s th ++ (u8s a ++ (u8s b ++ (.int .u64 0 :: u8s ts)))).toArray := by
  rw [← hw4]
  exact row_setRow_same (by rw [ru3, rw3]; simp; omega) (by rw [ru3, rw3]; simp; (try omega))
 have zw4 : w.heap.size ≤ w4.heap.size := by rw [← hw4, setRow_size]; omega
 rw [hw4] at hS c3 ⊢
 clear hw4 hu3 ru3
 refine wpAnyR_done (by kernel_rfl) (fun wN hN => ?_) _
 have rN : row wN S = (u8s th ++ (u8s a ++ (u8s b ++ (.int .u64 0 :: u8s ts)))).toArray := by rw [row_below hN (by omega)]; exact rw4
 have cN : BelowBut w.heap.size S w wN := c3.trans (BelowBut.of (hN.mono (by omega)))
 have rgN : row wN g = (u8s a ++ (u8s m ++ (u8s b ++ sp))).toArray := by rw [row_below hN hS.2.1]; exact hS.1
 have zgN : g < wN.heap.size := by have := hS.2.1; have := hN.size; omega
 have zSN : S < wN.heap.size := by omega
 clear hN hS
 go_wp2_with fail
 refine (text_any m _ lm).mono ?_
 rintro e w5 ⟨rfl, b5⟩
 have r5 := (row_below b5 zSN).trans rN
 have z5 := b5.size
 go_wp2_with fail
 refine (tsum_any ⟨th, a, b, 0, ts⟩ m S _ ⟨h1, l1, l2, h4, by simp⟩ (by omega) r5).mono ?_
 rintro e w6 ⟨rfl, r6, b6⟩
 have zw := cN.size
 go_wp2_with fail
 go_end0
 exact ⟨rfl, r6, (cN.trans ((BelowBut.of b5).mono (by omega))).trans (b6.mono (by omega))⟩
end
section
open Go.RowKit
attribute [local irreducible] shaK macL keysF keyN
def metT (t : TalkT) (s : List UInt8) : TalkT := ⟨shaK (t.h ++ s), keyN (macL t.c s) [] 1, keyN (macL t.c s) [] 2, 0, t.s⟩
theorem metT_ok {t : TalkT} (h : t.ok) (s : List UInt8) : (metT t s).ok := ⟨shaK_length _, keyN_length _ _ 0, keyN_length _ _ 1, h.s, by simp [metT]⟩
set_option maxRecDepth 20000 in
set_option maxHeartbeats 1000000 in
theorem met_any (t : TalkT) (s : List UInt8) (S : Nat) (w : World) (ht : t.ok) (hs : s.length ≤ 1000) (hS : row w S = t.cells.toArray) :
  Calls Tryz.prog 28 #[.pointer (some ⟨S, 0, none⟩), .string ⟨s.toArray⟩] w fun e w' => e = .returned (.tuple #[]) ∧ row w' S = (metT t s).cells.toArray ∧ BelowBut w.heap.size S w w' := by
 have h1 := shaK_length (t.h ++ s)
 have HA := Lib.hid (tsum_any t s S w ht (by omega) hS)
 go_enter Tryz.func28, Tryz.ntmps28
 go_wp2_with fail
 refine (HA.out).mono ?_
 rintro e w1 ⟨rfl, r1, b1⟩
 have z1 := b1.size
 have HB := Lib.hid (chain_any { t with h := shaK (t.h ++ s) } s S w1 ⟨h1, ht.c, ht.k, ht.s, ht.n⟩ hs r1)
 clear HA
 go_wp2_with fail
 refine (HB.out).mono ?_
 rintro e w2 ⟨rfl, r2, b2⟩
 go_wp2_with fail
 go_end0
 exact ⟨rfl, r2, b1.trans (b2.mono (by omega))⟩
end
section
open Go.RowKit
attribute [local irreducible] shaK macL keysF keyN
set_option maxRecDepth 20000 in
set_option maxHeartbeats 1000000 in
theorem split_any (t : TalkT) (S : Nat) (w : World) (ht : t.ok) (hS : row w S = t.cells.toArray) :
  Calls Tryz.prog 32 #[.pointer (some ⟨S, 0, none⟩)] w fun e w' => e = .returned (.tuple #[.agg (u8s (keyN (macL t.c []) [] 1)).toArray, .agg (u8s (keyN (macL t.c []) [] 2)).toArray]) ∧ Below w.heap.size w w' := by
 have zS : S < w.heap.size := lt_of_row (i := 0) (by rw [hS]; simp [TalkT.cells_length ht])
 obtain ⟨w0, hw0⟩ : ∃ v, (w.alloc (.cells (zeros 32 (.int .u8 0)).toArray 23)).alloc (.cells (zeros 32 (.int .u8 0)).toArray 23) = v := ⟨_, rfl⟩
 have rS0 : row w0 S = t.cells.toArray := by rw [← hw0, row_alloc_past _ _ (by rw [alloc_sizeW]; omega), row_alloc_past _ _ (by omega)]; exact hS
 have z0 : w0.heap.size = w.heap.size + 1 + 1 := by rw [← hw0, alloc_sizeW, alloc_sizeW]
 have rA0 : row w0 w.heap.size = (zeros 32 (.int .u8 0)).toArray := by rw [← hw0, row_alloc_past _ _ (by rw [alloc_sizeW]; omega)]; exact row_alloc_at _ _ _ rfl
 have rB0 : row w0 (w.heap.size + 1) = (zeros 32 (.int .u8 0)).toArray := by rw [← hw0]; exact row_alloc_at _ _ _ (by rw [alloc_sizeW])
 have b0 : Below w.heap.size w w0 := by rw [← hw0]; exact Below.alloc (Below.alloc (Below.refl _ _) (by omega) _) (by rw [alloc_sizeW]; omega) _
 have HK := Lib.hid (tkeys_any t [] 2 S w0 ht (by simp) (by omega) rS0)
 rw [keysF_two] at HK
 have l1 := keyN_length (macL t.c []) [] 0
 have l2 := keyN_length (macL t.c []) [] 1
 simp only [Nat.zero_add, Nat.reduceAdd] at l1 l2
 obtain ⟨a, ha⟩ : ∃ a, keyN (macL t.c []) [] 1 = a := ⟨_, rfl⟩
 obtain ⟨b, hb⟩ : ∃ b, keyN (macL t.c []) [] 2 = b := ⟨_, rfl⟩
 rw [ha] at HK l1 ⊢
 rw [hb] at HK l2 ⊢
 clear ha hb ht
 go_enter Tryz.func32, Tryz.ntmps32
 go_wp2_with fail
 clear hw0
 refine (HK.out).mono ?_
 rintro e w1 ⟨v, B, rfl, hB, own, b1⟩
 obtain ⟨g, c, sp, rfl, hg, zg, rg⟩ := own.form (by omega)
 rw [u8s_append, List.append_assoc] at rg
 have z1 := b1.size
 have rA1 := (row_below b1 (by omega)).trans rA0
 have rB1 := (row_below b1 (by omega)).trans rB0
 have bb1 : Below w.heap.size w w1 := b0.trans (b1.mono (by omega))
 clear HK hS own rS0 rA0 rB0 b0 b1
 go_wp2_with fail
 have rA1d : row w1.drew w.heap.size = (zeros 32 (.int .u8 0)).toArray := rA1
 have q1 : 64 ≤ 32 + (32 + sp.length) := by omega
 have q2 : 32 + 32 ≤ 32 + (32 + sp.length) := by omega
 have zd : w1.drew.heap.size = w1.heap.size := rfl
 refine wp_region_beginR [(g, (u8s a ++ (u8s b ++ sp)).toArray)] rfl (by simp only [Rws]; (repeat (first | exact trivial | refine ⟨(by first | assumption | (simp [go_sem, *]; done)), (by first | omega | (simp; done) | (simp; omega)), ?_⟩))) (fun hS => ?_)
 refine qp 0 hS ?_
 refine qp 1 hS ?_
 refine qp 2 hS ?_
 refine qp 3 hS ?_
 refine qp 4 hS ?_
 refine qp 5 hS ?_
 refine wpAnyR_store (i := 6) (b := w.heap.size) (c := (u8s a).toArray) (by simp only [List.getElem?_toArray, List.getElem?_cons_succ, List.getElem?_cons_zero]; rfl) rfl rfl (by kernel_rfl) (by simp; (try omega)) hS (by rw [rA1d]; simp; (try omega)) (fun w1 hr => by rw [rA1d] at hr; go_simp; (try rfl)) (fun u1 hu1 ru1 hS => ?_)
 have zu1 := hu1.size
 have rB2 : row (u1.setRow w.heap.size (u8s a).toArray) (w.heap.size + 1) = (zeros 32 (.int .u8 0)).toArray := by
  rw [row_setRow_other _ _ _ (by omega), row_below hu1 (by omega)]
  exact rB1
 have rA2 : row (u1.setRow w.heap.size (u8s a).toArray) w.heap.size = (u8s a).toArray := row_setRow_same (by rw [ru1, rA1d]; simp) (by rw [ru1, rA1d]; simp [l1])
 have bb2 : Below w.heap.size w (u1.setRow w.heap.size (u8s a).toArray) := Below.setRow (Below.trans (Below.drew bb1) (hu1.mono (by omega))) (by omega) _
 obtain ⟨w2, hw2⟩ : ∃ v, u1.setRow w.heap.size (u8s a).toArray = v := ⟨_, rfl⟩
 have z2 : w2.heap.size = u1.heap.size := by rw [← hw2, setRow_size]
 rw [hw2] at hS rB2 rA2 bb2 ⊢
 clear hw2 ru1 hu1
 refine wpAnyR_store (i := 7) (b := w.heap.size + 1) (c := (u8s b).toArray) (by simp only [List.getElem?_toArray, List.getElem?_cons_succ, List.getElem?_cons_zero]; rfl) rfl rfl (by kernel_rfl) (by simp; (try omega)) hS (by rw [rB2]; simp; (try omega)) (fun w1 hr => by rw [rB2] at hr; go_simp; (try rfl)) (fun u3 hu3 ru3 hS => ?_)
 refine wpAnyR_done (by kernel_rfl) (fun wN hN => ?_) _
 have zu3 := hu3.size
 have rBN : row wN (w.heap.size + 1) = (u8s b).toArray := by
  rw [row_below hN (by rw [setRow_size]; omega)]
  exact row_setRow_same (by rw [ru3, rB2]; simp) (by rw [ru3, rB2]; simp [l2])
 have rAN : row wN w.heap.size = (u8s a).toArray := by
  rw [row_below hN (by rw [setRow_size]; omega), row_setRow_other _ _ _ (by omega), row_below hu3 (by omega)]
  exact rA2
 have bN : Below w.heap.size w wN := Below.trans (Below.setRow (Below.trans bb2 (hu3.mono (by omega))) (by omega) _) (hN.mono (by rw [setRow_size]; omega))
 clear hN hu3 ru3 hS
 go_wp2_with fail
 refine bodyPost_ret (results_2 rfl (resOk_row rfl ?_) (resOk_row rfl ?_)) rfl ?_
 ·
  rw [rAN]
  simp [l1]
 ·
  rw [rBN]
  simp [l2]
 ·
  exact ⟨by rw [rAN, rBN], bN⟩
end
section
open Go.RowKit
def nameL : List UInt8 := [78, 111, 105, 115, 101, 95, 78, 78, 112, 115, 107, 48, 95, 50, 53, 53, 49, 57, 95, 67, 104, 97, 67, 104, 97, 80, 111, 108, 121, 95, 83, 72, 65, 50, 53, 54]
attribute [local irreducible] shaK macL keysF keyN
def bothT (t : TalkT) (s : List UInt8) : TalkT := ⟨shaK (t.h ++ keyN (macL t.c s) [] 2), keyN (macL t.c s) [] 1, keyN (macL t.c s) [] 3, 0, t.s⟩
theorem bothT_ok {t : TalkT} (h : t.ok) (s : List UInt8) : (bothT t s).ok := ⟨shaK_length _, keyN_length _ _ 0, keyN_length _ _ 2, h.s, by simp [bothT]⟩
def firstT0 (secret : List UInt8) : TalkT := ⟨shaK (shaK nameL ++ []), shaK nameL, List.replicate 32 0, 0, secret⟩
theorem firstT0_ok (secret : List UInt8) (h : secret.length = 32) : (firstT0 secret).ok := ⟨shaK_length _, shaK_length _, by simp [firstT0], h, by simp [firstT0]⟩
def beginT (psk secret : List UInt8) : TalkT := bothT (firstT0 secret) psk
theorem beginT_ok (psk secret : List UInt8) (h : secret.length = 32) : (beginT psk secret).ok := bothT_ok (firstT0_ok secret h) psk
set_option maxRecDepth 20000 in
set_option maxHeartbeats 1000000 in
theorem begin_any (psk secret : List UInt8) (w : World) (hp : psk.length = 32) (hs : secret.length = 32) :
  Calls Tryz.prog 25 #[.agg (u8s psk).toArray, .agg (u8s secret).toArray] w fun e w' => ∃ S, e = .returned (.pointer (some ⟨S, 0, none⟩)) ∧ w.heap.size ≤ S ∧ S < w'.heap.size ∧ row w' S = (beginT psk secret).cells.toArray ∧ Below w.heap.size w w' := by
 have hyl := shaK_length nameL
 obtain ⟨y, hy⟩ : ∃ y, shaK nameL = y := ⟨_, rfl⟩
 rw [hy] at hyl
 go_enter Tryz.func25, Tryz.ntmps25
 go_wp2_with fail
 refine (sum_any nameL _ (by decide)).mono ?_
 rintro e w1 ⟨rfl, b1⟩
 have rP1 : row w1 w.heap.size = (u8s psk).toArray := by rw [row_below b1 (by simp only [alloc_sizeW]; omega)]; simp [go_sem]
 have rS1 : row w1 (w.heap.size + 1) = (u8s secret).toArray := by rw [row_below b1 (by simp only [alloc_sizeW]; omega)]; simp [go_sem]
 have z1 : w.heap.size + 1 < w1.heap.size := by have := b1.size; simp only [alloc_sizeW] at this; omega
 replace b1 := below_of b1 (show Below (w).heap.size w _ from by (repeat (first | exact Below.refl _ _ | refine Below.al ?_ _ | refine Below.drew ?_ | refine Below.sr ?_ _ | refine Below.sc ?_ _))) (by first | (simp; done) | (simp; omega) | omega)
 rw [hy]
 go_wp2_with fail
 obtain ⟨c0, hc0⟩ : ∃ c, (u8s y ++ (u8s y ++ (u8s [] ++ (zeros 32 (.int .u8 0) ++ .int .u64 0 :: u8s secret)))).toArray = c := ⟨_, rfl⟩
 have hcell : c0 = (⟨y, y, List.replicate 32 0, 0, secret⟩ : TalkT).cells.toArray := by
  rw [← hc0, TalkT.cells, u8s_zeros]
  rfl
 rw [hc0]
 obtain ⟨w2, hw2⟩ : ∃ v, (w1.alloc (.cells (u8s y).toArray 23)).alloc (.cells c0 112) = v := ⟨_, rfl⟩
 have z2 : w2.heap.size = w1.heap.size + 1 + 1 := by rw [← hw2, alloc_sizeW, alloc_sizeW]
 have r2 : row w2 (w1.heap.size + 1) = (⟨y, y, List.replicate 32 0, 0, secret⟩ : TalkT).cells.toArray := by
  rw [← hw2, row_alloc_at _ _ _ (by rw [alloc_sizeW]), hcell]
 have p2 : row w2 w.heap.size = (u8s psk).toArray := by
  rw [← hw2, row_alloc_past _ _ (by rw [alloc_sizeW]; omega), row_alloc_past _ _ (by omega)]
  exact rP1
 have b2 : Below w.heap.size w w2 := by rw [← hw2]; exact Below.alloc (Below.alloc b1 (by omega) _) (by rw [alloc_sizeW]; omega) _
 rw [hw2]
 clear hw2
 refine (tsum_any ⟨y, y, List.replicate 32 0, 0, secret⟩ [] (w1.heap.size + 1) w2 ⟨hyl, hyl, by simp, hs, by simp⟩ (by simp) r2).mono ?_
 rintro e w3 ⟨rfl, r3, b3⟩
 have z3 := b3.size
 have p3 := (b3.row (show w.heap.size < w2.heap.size by omega) (by omega)).trans p2
 have bb3 : Below w.heap.size w w3 := b2.trans ((b3.mono (by omega)).below (by omega))
 clear r2 p2 b2 b3
 go_wp2_with fail
 refine (text_any psk _ hp).mono ?_
 rintro e w4 ⟨rfl, b4⟩
 have z4 := b4.size
 have r4 := (row_below b4 (by omega)).trans r3
 have bb4 : Below w.heap.size w w4 := bb3.trans (b4.mono (by omega))
 go_wp2_with fail
 refine (both_any ⟨shaK (y ++ []), y, List.replicate 32 0, 0, secret⟩ psk (w1.heap.size + 1) w4 ⟨shaK_length _, hyl, by simp, hs, by simp⟩ (by omega) r4).mono ?_
 rintro e w5 ⟨rfl, r5, b5⟩
 have z5 := b5.size
 go_wp2_with fail
 go_ret
 refine ⟨w1.heap.size + 1, rfl, by omega, by omega, ?_, bb4.trans ((b5.mono (by omega)).below (by omega))⟩
 rw [r5, beginT, bothT, firstT0, hy]
end
end Go.Proofs.YtakkicppgkmokaaGreat
