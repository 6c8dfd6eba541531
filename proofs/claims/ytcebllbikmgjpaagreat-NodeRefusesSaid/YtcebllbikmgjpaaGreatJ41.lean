/- Texts of this proof, merged: NoiP, NoiQ, NoiR, NoiF. -/
import Derived.Test.YtcebllbikmgjpaaGreatJ38
import Derived.Test.YtcebllbikmgjpaaGreatJ35
import Derived.Test.YtcebllbikmgjpaaGreatJ40
set_option linter.unusedSimpArgs false
set_option linter.unusedVariables false
set_option maxHeartbeats 8000000
set_option maxRecDepth 20000
namespace Go.Proofs.YtcebllbikmgjpaaGreat
section
open Go.RowKit
attribute [local irreducible] shaK macL keysF keyN sealL nonceL tagL maskL sharedK
theorem tshared_any (t : TalkT) (p : List UInt8) (S : Nat) (w : World) (ht : t.ok) (hp : p.length = 32) (hS : row w S = t.cells.toArray) :
  Calls Tryz.prog 181 #[.pointer (some ⟨S, 0, none⟩), .string ⟨p.toArray⟩] w fun e w' => e = .returned (.tuple #[]) ∧ row w' S = (chainT t (sharedK t.s p)).cells.toArray ∧ BelowBut w.heap.size S w w' := by
 have zS : S < w.heap.size := lt_of_row (i := 0) (by rw [hS]; simp [TalkT.cells_length ht])
 have h4 := ht.s
 have HSh := h_ (fun w => shared_any t.s p w h4 hp)
 have hxl := sharedK_length t.s p
 obtain ⟨x, hx⟩ : ∃ x, sharedK t.s p = x := ⟨_, rfl⟩
 rw [hx] at HSh hxl ⊢
 clear hx
 have HT := h_ (fun w => text_any x w hxl)
 have HC := h_ (fun w (hr : row w S = t.cells.toArray) => chain_any t x S w ht (by omega) hr)
 have htok := h_ ht
 clear ht
 obtain ⟨th, tc, tk, tn, ts⟩ := t
 have h1 := htok.out.h
 have h2 := htok.out.c
 have h3 := htok.out.k
 simp only at h1 h2 h3 h4
 have hC : (⟨th, tc, tk, tn, ts⟩ : TalkT).cells = u8s th ++ (u8s tc ++ (u8s tk ++ (.int .u64 (tn : Int) :: u8s ts))) := rfl
 rw [hC] at hS
 go_enter Tryz.func181, Tryz.ntmps181
 go_wp2_with fail
 have hRow := h_ hS
 refine rgR_ [(S, (u8s th ++ (u8s tc ++ (u8s tk ++ (.int .u64 (tn : Int) :: u8s ts)))).toArray)] (fun hS => ?_)
 refine qp 0 hS ?_
 refine qp 1 hS ?_
 refine qp 2 hS ?_
 refine qp 3 hS ?_
 refine qp 4 hS ?_
 have B0 : Below w.heap.size w w.drew := Below.drew (Below.refl _ _)
 refine wpAnyR_all (rs := [5, 9]) kr_ (by simp) (Rws.grow _) hS (fun u1 hu1 hSW => ?_)
 intro i hi
 simp only [List.mem_cons, List.not_mem_nil, or_false] at hi
 have Bu1 : Below w.heap.size w u1 := B0.trans (hu1.mono B0.size)
 have Zu1 := Bu1.size
 rcases hi with rfl | rfl
 ·
  skip
  refine wpOp_step rfl (fun K hK => ?_)
  simp only [Rws] at hSW
  clear hS
  go_simp
  obtain ⟨sp, hsp⟩ : ∃ q, spareOf u1 ⟨p.toArray⟩ 5 = q := ⟨_, rfl⟩
  rw [hsp]
  clear hsp
  obtain ⟨v1, ev1⟩ : ∃ v, ((u1.alloc (.cells (u8s p ++ zeros sp (Value.int .u8 0)).toArray 5 (32 + sp, 32 + sp + 1))).drew) = v := ⟨_, rfl⟩
  rw [ev1]
  have hv1 : Below u1.heap.size u1 v1 := by rw [← ev1]; exact blw_
  have zv1 : v1.heap.size = u1.heap.size + 1 := by rw [← ev1]; simp
  have rv1 : row v1 u1.heap.size = (u8s p ++ zeros sp (Value.int .u8 0)).toArray := by rw [← ev1]; first | (rw [row_drew, row_alloc_mark _ _ _ _ _ (by simp) (by first | (simp; done) | (simp; omega))]; done) | (rw [row_alloc_at _ _ _ rfl]; done)
  have Bv1 : Below w.heap.size w v1 := Bu1.trans (hv1.mono Bu1.size)
  have Zv1 := Bv1.size
  clear ev1
  refine hK _ _ (wpAnyR_next (S2 := Rws [(u1.heap.size, (u8s p ++ zeros sp (Value.int .u8 0)).toArray), (S, (u8s th ++ (u8s tc ++ (u8s tk ++ (.int .u64 (tn : Int) :: u8s ts)))).toArray)]) ⟨rv1, by omega, Rws.grow _ _ _ (by first | (simp only [Rws]; done) | (simpa only [Rws] using hSW)) hv1⟩ (fun _ h => h.tail) (fun hS => ?_))
  clear hK K hSW
  (try simp only [Act.put, List.setIfInBounds_toArray, List.set_cons_zero, List.set_cons_succ])
  refine qp 6 hS ?_
  refine qp 7 hS ?_
  refine qc 8 (v := ?_) hS ?_ ?_
  rotate_left
  ·
   intro w' hS'
   simp only [Rws] at hS'
   go_simp
   with_reducible refine (HSh.out _).mono ?_
   rintro e w'' ⟨rfl, hb⟩
   exact ⟨_, rfl, by rfl, hb⟩
  refine wpAnyR_all (rs := [9]) kr_ (by simp) (Rws.grow _) hS (fun u2 hu2 hSW => ?_)
  intro i hi
  obtain rfl := List.mem_singleton.1 hi
  have Bu2 : Below w.heap.size w u2 := Bv1.trans (hu2.mono Bv1.size)
  have Zu2 := hu2.size
  have ZB2 := Bu2.size
  refine wpOp_step rfl (fun K hK => ?_)
  simp only [Rws] at hSW
  clear hS
  go_simp
  obtain ⟨v2, ev2⟩ : ∃ v, (u2.alloc (.cells (zeros 32 (Value.int .u8 0)).toArray 28)) = v := ⟨_, rfl⟩
  rw [ev2]
  have hv2 : Below u2.heap.size u2 v2 := by rw [← ev2]; exact blw_
  have zv2 : v2.heap.size = u2.heap.size + 1 := by rw [← ev2]; simp
  have rv2 : row v2 u2.heap.size = (zeros 32 (Value.int .u8 0)).toArray := by rw [← ev2]; first | (rw [row_drew, row_alloc_mark _ _ _ _ _ (by simp) (by first | (simp; done) | (simp; omega))]; done) | (rw [row_alloc_at _ _ _ rfl]; done)
  have Bv2 : Below w.heap.size w v2 := Bu2.trans (hv2.mono Bu2.size)
  have Zv2 := Bv2.size
  clear ev2
  refine hK _ _ ⟨Rws.grow _ _ _ (by first | (simp only [Rws]; done) | (simpa only [Rws] using hSW)) hv2, ?_⟩
  have hS := Rws.grow _ _ _ (show Rws [(u1.heap.size, (u8s p ++ zeros sp (Value.int .u8 0)).toArray), (S, (u8s th ++ (u8s tc ++ (u8s tk ++ (.int .u64 (tn : Int) :: u8s ts)))).toArray)] u2 from by first | (simp only [Rws]; done) | (simpa only [Rws] using hSW)) hv2
  clear hK K hSW
  (try simp only [Act.put, List.setIfInBounds_toArray, List.set_cons_zero, List.set_cons_succ])
  refine wpAnyR_all (rs := [10]) kr_ (by simp) (Rws.grow _) hS (fun u4 hu4 hSW => ?_)
  intro i hi
  obtain rfl := List.mem_singleton.1 hi
  have rC4 : row u4 (u2.heap.size) = (zeros 32 (Value.int .u8 0)).toArray := (row_below hu4 (by omega)).trans rv2
  have Zu4 := hu4.size
  have Bu4 : Below w.heap.size w u4 := Bv2.trans (hu4.mono Bv2.size)
  have hrow4 : row u4 S = (u8s th ++ (u8s tc ++ (u8s tk ++ (.int .u64 (tn : Int) :: u8s ts)))).toArray := (row_below Bu4 zS).trans hRow.out
  refine wpOp_step rfl (fun K hK => ?_)
  clear hS
  go_simp
  refine hK _ _ ⟨Rws.setRow_ne _ _ hSW (by simp; (try omega)), ?_⟩
  clear hK K hSW
  (try simp only [Act.put, List.setIfInBounds_toArray, List.set_cons_zero, List.set_cons_succ])
  refine wpAnyR_done kr_ (fun u5 hu5 => ?_) _
  have Zu5 := hu5.size
  rw [setRow_size] at Zu5
  have rC5 : row u5 (u2.heap.size) = (u8s x).toArray := by rw [row_below hu5 (by simp; omega)]; simp [go_sem, rC4, hxl]
  have Bu5 : Below w.heap.size w u5 := (Below.setRow Bu4 (show w.heap.size ≤ u2.heap.size by omega) _).trans (hu5.mono (by simp; omega))
  have hrow5 := HC.out
  have r5 : row u5 S = _ := (row_below Bu5 zS).trans hRow.out
  have zC : u2.heap.size < u5.heap.size := by omega
  have ZB5 := Bu5.size
  clear rC4 hu5 hrow4
  go_wp2_with fail
  refine (HT.out _).mono ?_
  rintro e w6 ⟨rfl, b6⟩
  have r6 := (row_below b6 (by omega)).trans r5
  have z6 := b6.size
  go_wp2_with fail
  refine (HC.out _ r6).mono ?_
  rintro e w7 ⟨rfl, r7, b7⟩
  go_wp2_with fail
  go_end0
  exact ⟨rfl, r7, (BelowBut.of (Bu5.trans (b6.mono (by omega)))).trans (b7.mono (by omega))⟩
 ·
  skip
  refine wpOp_step rfl (fun K hK => ?_)
  simp only [Rws] at hSW
  clear hS
  go_simp
  obtain ⟨v1, ev1⟩ : ∃ v, (u1.alloc (.cells (zeros 32 (Value.int .u8 0)).toArray 28)) = v := ⟨_, rfl⟩
  rw [ev1]
  have hv1 : Below u1.heap.size u1 v1 := by rw [← ev1]; exact blw_
  have zv1 : v1.heap.size = u1.heap.size + 1 := by rw [← ev1]; simp
  have rv1 : row v1 u1.heap.size = (zeros 32 (Value.int .u8 0)).toArray := by rw [← ev1]; first | (rw [row_drew, row_alloc_mark _ _ _ _ _ (by simp) (by first | (simp; done) | (simp; omega))]; done) | (rw [row_alloc_at _ _ _ rfl]; done)
  have Bv1 : Below w.heap.size w v1 := Bu1.trans (hv1.mono Bu1.size)
  have Zv1 := Bv1.size
  clear ev1
  refine hK _ _ ⟨Rws.grow _ _ _ (by first | (simp only [Rws]; done) | (simpa only [Rws] using hSW)) hv1, ?_⟩
  have hS := Rws.grow _ _ _ (show Rws [(S, (u8s th ++ (u8s tc ++ (u8s tk ++ (.int .u64 (tn : Int) :: u8s ts)))).toArray)] u1 from by first | (simp only [Rws]; done) | (simpa only [Rws] using hSW)) hv1
  clear hK K hSW
  (try simp only [Act.put, List.setIfInBounds_toArray, List.set_cons_zero, List.set_cons_succ])
  refine wpAnyR_all (rs := [5]) kr_ (by simp) (Rws.grow _) hS (fun u2 hu2 hSW => ?_)
  intro i hi
  obtain rfl := List.mem_singleton.1 hi
  have Bu2 : Below w.heap.size w u2 := Bv1.trans (hu2.mono Bv1.size)
  have Zu2 := hu2.size
  have ZB2 := Bu2.size
  refine wpOp_step rfl (fun K hK => ?_)
  simp only [Rws] at hSW
  clear hS
  go_simp
  have rD2 : row u2 u1.heap.size = (zeros 32 (Value.int .u8 0)).toArray := (row_below hu2 (by omega)).trans rv1
  obtain ⟨sp, hsp⟩ : ∃ q, spareOf u2 ⟨p.toArray⟩ 5 = q := ⟨_, rfl⟩
  rw [hsp]
  clear hsp
  obtain ⟨v2, ev2⟩ : ∃ v, ((u2.alloc (.cells (u8s p ++ zeros sp (Value.int .u8 0)).toArray 5 (32 + sp, 32 + sp + 1))).drew) = v := ⟨_, rfl⟩
  rw [ev2]
  have hv2 : Below u2.heap.size u2 v2 := by rw [← ev2]; exact blw_
  have zv2 : v2.heap.size = u2.heap.size + 1 := by rw [← ev2]; simp
  have rv2 : row v2 u2.heap.size = (u8s p ++ zeros sp (Value.int .u8 0)).toArray := by rw [← ev2]; first | (rw [row_drew, row_alloc_mark _ _ _ _ _ (by simp) (by first | (simp; done) | (simp; omega))]; done) | (rw [row_alloc_at _ _ _ rfl]; done)
  have Bv2 : Below w.heap.size w v2 := Bu2.trans (hv2.mono Bu2.size)
  have Zv2 := Bv2.size
  clear ev2
  refine hK _ _ (wpAnyR_next (S2 := Rws [(u2.heap.size, (u8s p ++ zeros sp (Value.int .u8 0)).toArray), (S, (u8s th ++ (u8s tc ++ (u8s tk ++ (.int .u64 (tn : Int) :: u8s ts)))).toArray)]) ⟨rv2, by omega, Rws.grow _ _ _ (by first | (simp only [Rws]; done) | (simpa only [Rws] using hSW)) hv2⟩ (fun _ h => h.tail) (fun hS => ?_))
  clear hK K hSW
  (try simp only [Act.put, List.setIfInBounds_toArray, List.set_cons_zero, List.set_cons_succ])
  refine qp 6 hS ?_
  refine qp 7 hS ?_
  refine qc 8 (v := ?_) hS ?_ ?_
  rotate_left
  ·
   intro w' hS'
   simp only [Rws] at hS'
   go_simp
   with_reducible refine (HSh.out _).mono ?_
   rintro e w'' ⟨rfl, hb⟩
   exact ⟨_, rfl, by rfl, hb⟩
  have rE2 : row v2 u1.heap.size = (zeros 32 (Value.int .u8 0)).toArray := (row_below hv2 (by omega)).trans rD2
  refine wpAnyR_all (rs := [10]) kr_ (by simp) (Rws.grow _) hS (fun u4 hu4 hSW => ?_)
  intro i hi
  obtain rfl := List.mem_singleton.1 hi
  have rC4 : row u4 (u1.heap.size) = (zeros 32 (Value.int .u8 0)).toArray := (row_below hu4 (by omega)).trans rE2
  have Zu4 := hu4.size
  have Bu4 : Below w.heap.size w u4 := Bv2.trans (hu4.mono Bv2.size)
  have hrow4 : row u4 S = (u8s th ++ (u8s tc ++ (u8s tk ++ (.int .u64 (tn : Int) :: u8s ts)))).toArray := (row_below Bu4 zS).trans hRow.out
  refine wpOp_step rfl (fun K hK => ?_)
  clear hS
  go_simp
  refine hK _ _ ⟨Rws.setRow_ne _ _ hSW (by simp; (try omega)), ?_⟩
  clear hK K hSW
  (try simp only [Act.put, List.setIfInBounds_toArray, List.set_cons_zero, List.set_cons_succ])
  refine wpAnyR_done kr_ (fun u5 hu5 => ?_) _
  have Zu5 := hu5.size
  rw [setRow_size] at Zu5
  have rC5 : row u5 (u1.heap.size) = (u8s x).toArray := by rw [row_below hu5 (by simp; omega)]; simp [go_sem, rC4, hxl]
  have Bu5 : Below w.heap.size w u5 := (Below.setRow Bu4 (show w.heap.size ≤ u1.heap.size by omega) _).trans (hu5.mono (by simp; omega))
  have hrow5 := HC.out
  have r5 : row u5 S = _ := (row_below Bu5 zS).trans hRow.out
  have zC : u1.heap.size < u5.heap.size := by omega
  have ZB5 := Bu5.size
  clear rC4 hu5 hrow4
  go_wp2_with fail
  refine (HT.out _).mono ?_
  rintro e w6 ⟨rfl, b6⟩
  have r6 := (row_below b6 (by omega)).trans r5
  have z6 := b6.size
  go_wp2_with fail
  refine (HC.out _ r6).mono ?_
  rintro e w7 ⟨rfl, r7, b7⟩
  go_wp2_with fail
  go_end0
  exact ⟨rfl, r7, (BelowBut.of (Bu5.trans (b6.mono (by omega)))).trans (b7.mono (by omega))⟩
end
section
open Go.RowKit
attribute [local irreducible] shaK macL keysF keyN sealL nonceL tagL maskL sharedK metT tookT chainT beginT tagT
def pubL (a : List UInt8) : List UInt8 := sharedK a (9 :: List.replicate 31 0)
theorem pubL_length (a : List UInt8) : (pubL a).length = 32 := sharedK_length _ _
def greetT (psk a : List UInt8) : TalkT := metT (beginT psk a) (pubL a)
def hailT (psk a : List UInt8) : TalkT := tookT (greetT psk a) (tagT (greetT psk a))
theorem metT_n (t : TalkT) (s : List UInt8) : (metT t s).n = 0 := by unfold metT; rfl
theorem chainT_n (t : TalkT) (s : List UInt8) : (chainT t s).n = 0 := by unfold chainT; rfl
attribute [local irreducible] pubL greetT
theorem tsealT_any (t : TalkT) (S : Nat) (w : World) (ht : t.ok) (hn : t.n ≤ 50) (hS : row w S = t.cells.toArray) :
  Calls Tryz.prog 153 #[.pointer (some ⟨S, 0, none⟩)] w fun e w' => e = .returned (.string ⟨(tagT t).toArray⟩) ∧ row w' S = (tookT t (tagT t)).cells.toArray ∧ BelowBut w.heap.size S w w' := by
 have h := tseal_any t S w ht hn (by rw [sealT_tagT, tagT_length]) hS
 rw [sealT_tagT] at h
 exact h
end
section
open Go.RowKit
def ansT0 (psk b p : List UInt8) : TalkT := metT (beginT psk b) p
def ansT1 (psk b p x : List UInt8) : TalkT := tookT (ansT0 psk b p) x
def ansT2 (psk b p x : List UInt8) : TalkT := metT (ansT1 psk b p x) (pubL b)
def ansT3 (psk b p x : List UInt8) : TalkT := chainT (ansT2 psk b p x) (sharedK b p)
def ansT4 (psk b p x : List UInt8) : TalkT := tookT (ansT3 psk b p x) (tagT (ansT3 psk b p x))
def ansL (psk b p x : List UInt8) : List UInt8 := pubL b ++ tagT (ansT3 psk b p x)
def keyA (t : TalkT) : List UInt8 := keyN (macL t.c []) [] 1
def keyB (t : TalkT) : List UInt8 := keyN (macL t.c []) [] 2
theorem keyA_length (t : TalkT) : (keyA t).length = 32 := keyN_length _ _ 0
theorem keyB_length (t : TalkT) : (keyB t).length = 32 := keyN_length _ _ 1
theorem ansT0_ok (psk b p : List UInt8) (h : b.length = 32) : (ansT0 psk b p).ok := metT_ok (beginT_ok psk b h) _
theorem ansT1_ok (psk b p x : List UInt8) (h : b.length = 32) : (ansT1 psk b p x).ok := tookT_ok (ansT0_ok psk b p h) (by rw [ansT0, metT_n]; omega) _
theorem ansT2_ok (psk b p x : List UInt8) (h : b.length = 32) : (ansT2 psk b p x).ok := metT_ok (ansT1_ok psk b p x h) _
theorem ansT3_eq (psk b p x : List UInt8) : chainT (ansT2 psk b p x) (sharedK (ansT2 psk b p x).s p) = ansT3 psk b p x := rfl
theorem ansT3_ok (psk b p x : List UInt8) (h : b.length = 32) : (ansT3 psk b p x).ok := chainT_ok (ansT2_ok psk b p x h) _
theorem ansT4_ok (psk b p x : List UInt8) (h : b.length = 32) : (ansT4 psk b p x).ok := tookT_ok (ansT3_ok psk b p x h) (by rw [ansT3, chainT_n]; omega) _
theorem ansL_length (psk b p x : List UInt8) : (ansL psk b p x).length = 48 := by rw [ansL, List.length_append, pubL_length, tagT_length]
attribute [local irreducible] shaK macL keysF keyN sealL nonceL tagL maskL sharedK metT tookT chainT beginT tagT pubL keyA keyB
theorem answer_len (psk b s : List UInt8) (w : World) (hs : s.length ≠ 48) :
  Calls Tryz.prog 131 #[.agg (u8s psk).toArray, .agg (u8s b).toArray, .string ⟨s.toArray⟩] w fun e w' => e = .returned (.tuple #[.string ⟨#[]⟩, .agg (zeros 64 (Value.int .u8 0)).toArray, .int .i64 3]) ∧ Below w.heap.size w w' := by
 have h1 : ¬ (s.length : Int) = 48 := by omega
 go_enter Tryz.func131, Tryz.ntmps131
 go_wp2_with fail
 refine bodyPost_ret (results_3 rfl resOk_tmp (resOk_row rfl ?_) resOk_tmp) rfl ?_
 ·
  simp [go_sem]
 ·
  refine ⟨by simp [go_sem], ?_⟩
  (repeat (first | exact Below.refl _ _ | refine Below.al ?_ _ | refine Below.drew ?_ | refine Below.sr ?_ _ | refine Below.sc ?_ _))
theorem answer_no (psk b p x : List UInt8) (w : World) (hp : psk.length = 32) (hb : b.length = 32) (hpl : p.length = 32) (hx : x.length = 16) (hne : tagT (ansT0 psk b p) ≠ x) :
  Calls Tryz.prog 131 #[.agg (u8s psk).toArray, .agg (u8s b).toArray, .string ⟨(p ++ x).toArray⟩] w fun e w' => e = .returned (.tuple #[.string ⟨#[]⟩, .agg (zeros 64 (Value.int .u8 0)).toArray, .int .i64 5]) ∧ Below w.heap.size w w' := by
 have HB := h_ (fun w => begin_any psk b w hp hb)
 have bok := beginT_ok psk b hb
 have HM := h_ (fun S w hr => met_any (beginT psk b) p S w bok (by omega) hr)
 have aok := ansT0_ok psk b p hb
 have an : (ansT0 psk b p).n = 0 := metT_n _ _
 have HO := h_ (fun S w hr => topen_any (ansT0 psk b p) x S w aok (by omega) hx hr)
 have he : openE (ansT0 psk b p) x = 5 := if_neg hne
 rw [he] at HO
 rw [show metT (beginT psk b) p = ansT0 psk b p from rfl] at HM
 obtain ⟨T0, hT0⟩ : ∃ T, ansT0 psk b p = T := ⟨_, rfl⟩
 obtain ⟨TB, hTB⟩ : ∃ T, beginT psk b = T := ⟨_, rfl⟩
 rw [hT0] at HM HO
 rw [hTB] at HB HM
 clear hne he hT0 hTB bok aok an
 obtain ⟨s, es⟩ : ∃ s, p ++ x = s := ⟨_, rfl⟩
 have hsl : s.length = 48 := by rw [← es, List.length_append, hpl, hx]
 have hsI : (s.length : Int) = 48 := by omega
 have h3 : List.take 32 s = p := by rw [← es, ← hpl]; simp
 have h4 : List.drop 32 s = x := by rw [← es, ← hpl]; simp
 rw [es]
 clear es
 have h5 : List.take (s.length - 32) x = x := List.take_of_length_le (by omega)
 have HSL := h_ hsl
 have HPL := h_ hpl
 clear hsl hpl hx
 go_enter Tryz.func131, Tryz.ntmps131
 obtain ⟨W, hW⟩ : ∃ x, ((w.alloc (.cells (u8s psk).toArray 28)).alloc (.cells (u8s b).toArray 28)).alloc (.cells (zeros 64 (Value.int .u8 0)).toArray 176) = x := ⟨_, rfl⟩
 have rA : row W w.heap.size = (u8s psk).toArray := by rw [← hW]; simp [go_sem]
 have rB : row W (w.heap.size + 1) = (u8s b).toArray := by rw [← hW]; simp [go_sem]
 have rR : row W (w.heap.size + 2) = (zeros 64 (Value.int .u8 0)).toArray := by rw [← hW]; simp [go_sem]
 have zW : W.heap.size = w.heap.size + 3 := by rw [← hW]; simp
 have bW : Below w.heap.size w W := by
  rw [← hW]
  (repeat (first | exact Below.refl _ _ | refine Below.al ?_ _ | refine Below.drew ?_ | refine Below.sr ?_ _ | refine Below.sc ?_ _))
 go_wp2_with fail
 clear hW
 refine (HB.out _).mono ?_
 rintro e w1 ⟨S, rfl, gS, zS, rS, b1⟩
 have z1 := b1.size
 have rR1 := (row_below b1 (by omega)).trans rR
 have bb1 : Below w.heap.size w w1 := bW.trans (b1.mono (by omega))
 clear b1
 go_wp2_with fail
 refine (HM.out _ _ rS).mono ?_
 rintro e w2 ⟨rfl, rS2, b2⟩
 have z2 := b2.size
 have rR2 := (b2.row (show w.heap.size + 2 < w1.heap.size by omega) (by omega)).trans rR1
 have bb2 := bb1.trans ((b2.mono (by omega)).below (by omega))
 go_wp2_with fail
 refine (HO.out _ _ rS2).mono ?_
 rintro e w3 ⟨rfl, rS3, b3⟩
 have z3 := b3.size
 have rR3 := (b3.row (show w.heap.size + 2 < w2.heap.size by omega) (by omega)).trans rR2
 have bb3 := bb2.trans ((b3.mono (by omega)).below (by omega))
 clear b2 b3 bb1 bb2 rS rS2 rS3 rR1 rR2
 go_wp2_with fail
 have hfin := row_setRow_same (w := w3) (g := w.heap.size + 1 + 1) (c := (zeros 64 (Value.int .u8 0)).toArray) (by rw [rR3]; simp) (by rw [rR3])
 refine bodyPost_ret (results_3 rfl resOk_tmp (resOk_row rfl ?_) resOk_tmp) rfl ?_
 ·
  rw [hfin]
  simp
 ·
  exact ⟨by rw [hfin]; rfl, Below.setRow bb3 (by omega) _⟩
theorem answer_yes (psk b p x : List UInt8) (w : World) (hp : psk.length = 32) (hb : b.length = 32) (hpl : p.length = 32) (hx : x.length = 16) (hne : tagT (ansT0 psk b p) = x) :
  Calls Tryz.prog 131 #[.agg (u8s psk).toArray, .agg (u8s b).toArray, .string ⟨(p ++ x).toArray⟩] w fun e w' => e = .returned (.tuple #[.string ⟨(ansL psk b p x).toArray⟩, .agg (u8s (keyB (ansT4 psk b p x)) ++ u8s (keyA (ansT4 psk b p x))).toArray, .int .i64 0]) ∧ Below w.heap.size w w' := by
 have HB := h_ (fun w => begin_any psk b w hp hb)
 have bok := beginT_ok psk b hb
 have HM := h_ (fun S w hr => met_any (beginT psk b) p S w bok (by omega) hr)
 have aok := ansT0_ok psk b p hb
 have an : (ansT0 psk b p).n = 0 := metT_n _ _
 have HO := h_ (fun S w hr => topen_any (ansT0 psk b p) x S w aok (by omega) hx hr)
 have he : openE (ansT0 psk b p) x = 0 := if_pos hne
 rw [he] at HO
 rw [show metT (beginT psk b) p = ansT0 psk b p from rfl] at HM
 have HPu := h_ (fun w => public_any b w hb)
 have hpul : (pubL b).length = 32 := pubL_length b
 rw [show sharedK b (9 :: List.replicate 31 0) = pubL b by unfold pubL; rfl] at HPu
 have HT := h_ (fun w => text_any (pubL b) w hpul)
 have ok1 := ansT1_ok psk b p x hb
 have HM2 := h_ (fun S w hr => met_any (ansT1 psk b p x) (pubL b) S w ok1 (by omega) hr)
 have ok2 := ansT2_ok psk b p x hb
 have HSh := h_ (fun S w hr => tshared_any (ansT2 psk b p x) p S w ok2 hpl hr)
 rw [ansT3_eq] at HSh
 have ok3 := ansT3_ok psk b p x hb
 have n3 : (ansT3 psk b p x).n = 0 := chainT_n _ _
 have HL := h_ (fun S w hr => tsealT_any (ansT3 psk b p x) S w ok3 (by omega) hr)
 have htl : (tagT (ansT3 psk b p x)).length = 16 := tagT_length _
 have ok4 := ansT4_ok psk b p x hb
 have HSp := h_ (fun S w hr => split_any (ansT4 psk b p x) S w ok4 hr)
 rw [show keyN (macL (ansT4 psk b p x).c []) [] 1 = keyA (ansT4 psk b p x) by unfold keyA; rfl, show keyN (macL (ansT4 psk b p x).c []) [] 2 = keyB (ansT4 psk b p x) by unfold keyB; rfl] at HSp
 have la := keyA_length (ansT4 psk b p x)
 have lb := keyB_length (ansT4 psk b p x)
 rw [ansL]
 rw [show metT (ansT1 psk b p x) (pubL b) = ansT2 psk b p x from rfl] at HM2
 rw [show tookT (ansT3 psk b p x) (tagT (ansT3 psk b p x)) = ansT4 psk b p x from rfl] at HL
 rw [show tookT (ansT0 psk b p) x = ansT1 psk b p x from rfl] at HO
 obtain ⟨T1, hT1⟩ : ∃ T, ansT1 psk b p x = T := ⟨_, rfl⟩
 obtain ⟨T2, hT2⟩ : ∃ T, ansT2 psk b p x = T := ⟨_, rfl⟩
 obtain ⟨T3, hT3⟩ : ∃ T, ansT3 psk b p x = T := ⟨_, rfl⟩
 obtain ⟨T4, hT4⟩ : ∃ T, ansT4 psk b p x = T := ⟨_, rfl⟩
 rw [hT1] at HO HM2
 rw [hT2] at HM2 HSh
 rw [hT3] at HSh HL htl ⊢
 rw [hT4] at HL HSp la lb ⊢
 obtain ⟨ka, hka⟩ : ∃ k, keyA T4 = k := ⟨_, rfl⟩
 obtain ⟨kb, hkb⟩ : ∃ k, keyB T4 = k := ⟨_, rfl⟩
 obtain ⟨y, hy⟩ : ∃ y, tagT T3 = y := ⟨_, rfl⟩
 obtain ⟨q, hq⟩ : ∃ q, pubL b = q := ⟨_, rfl⟩
 rw [hka] at HSp la ⊢
 rw [hkb] at HSp lb ⊢
 rw [hy] at HL htl ⊢
 rw [hq] at HPu HT HM2 hpul ⊢
 clear hka hkb hy hq hT1 hT2 hT3 hT4 ok1 ok2 ok3 ok4 n3
 obtain ⟨T0, hT0⟩ : ∃ T, ansT0 psk b p = T := ⟨_, rfl⟩
 obtain ⟨TB, hTB⟩ : ∃ T, beginT psk b = T := ⟨_, rfl⟩
 rw [hT0] at HM HO
 rw [hTB] at HB HM
 clear hne he hT0 hTB bok aok an
 obtain ⟨s, es⟩ : ∃ s, p ++ x = s := ⟨_, rfl⟩
 have hsl : s.length = 48 := by rw [← es, List.length_append, hpl, hx]
 have hsI : (s.length : Int) = 48 := by omega
 have h3 : List.take 32 s = p := by rw [← es, ← hpl]; simp
 have h4 : List.drop 32 s = x := by rw [← es, ← hpl]; simp
 rw [es]
 clear es
 have h5 : List.take (s.length - 32) x = x := List.take_of_length_le (by omega)
 have HSL := h_ hsl
 have HPL := h_ hpl
 clear hsl hpl hx
 go_enter Tryz.func131, Tryz.ntmps131
 obtain ⟨W, hW⟩ : ∃ x, ((w.alloc (.cells (u8s psk).toArray 28)).alloc (.cells (u8s b).toArray 28)).alloc (.cells (zeros 64 (Value.int .u8 0)).toArray 176) = x := ⟨_, rfl⟩
 have rA : row W w.heap.size = (u8s psk).toArray := by rw [← hW]; simp [go_sem]
 have rB : row W (w.heap.size + 1) = (u8s b).toArray := by rw [← hW]; simp [go_sem]
 have rR : row W (w.heap.size + 2) = (zeros 64 (Value.int .u8 0)).toArray := by rw [← hW]; simp [go_sem]
 have zW : W.heap.size = w.heap.size + 3 := by rw [← hW]; simp
 have bW : Below w.heap.size w W := by
  rw [← hW]
  (repeat (first | exact Below.refl _ _ | refine Below.al ?_ _ | refine Below.drew ?_ | refine Below.sr ?_ _ | refine Below.sc ?_ _))
 go_wp2_with fail
 clear hW
 refine (HB.out _).mono ?_
 rintro e w1 ⟨S, rfl, gS, zS, rS, b1⟩
 have z1 := b1.size
 have rR1 := (row_below b1 (by omega)).trans rR
 have rB1 := (row_below b1 (by omega)).trans rB
 have bb1 : Below w.heap.size w w1 := bW.trans (b1.mono (by omega))
 clear b1
 go_wp2_with fail
 refine (HM.out _ _ rS).mono ?_
 rintro e w2 ⟨rfl, rS2, b2⟩
 have z2 := b2.size
 have rR2 := (b2.row (show w.heap.size + 2 < w1.heap.size by omega) (by omega)).trans rR1
 have rB2 := (b2.row (show w.heap.size + 1 < w1.heap.size by omega) (by omega)).trans rB1
 have bb2 := bb1.trans ((b2.mono (by omega)).below (by omega))
 go_wp2_with fail
 refine (HO.out _ _ rS2).mono ?_
 rintro e w3 ⟨rfl, rS3, b3⟩
 have z3 := b3.size
 have rR3 := (b3.row (show w.heap.size + 2 < w2.heap.size by omega) (by omega)).trans rR2
 have rB3 := (b3.row (show w.heap.size + 1 < w2.heap.size by omega) (by omega)).trans rB2
 have bb3 := bb2.trans ((b3.mono (by omega)).below (by omega))
 clear b2 b3 bb1 bb2 rS rS2 rR1 rR2 rB rB1 rB2
 go_wp2_with fail
 refine (HPu.out _).mono ?_
 rintro e w4 ⟨rfl, b4⟩
 have z4 := b4.size
 have rS4 := (row_below b4 (by omega)).trans rS3
 have rR4 := (row_below b4 (by omega)).trans rR3
 have bb4 := bb3.trans (b4.mono (by omega))
 go_wp2_with fail
 refine (HT.out _).mono ?_
 rintro e w5 ⟨rfl, b5⟩
 have z5 := b5.size
 have rS5 := (row_below b5 (by omega)).trans rS4
 have rR5 := (row_below b5 (by omega)).trans rR4
 have bb5 := bb4.trans (b5.mono (by omega))
 clear rS3 rR3 rS4 rR4 b4 b5 bb3 bb4
 go_wp2_with fail
 refine (HM2.out _ _ rS5).mono ?_
 rintro e w6 ⟨rfl, rS6, b6⟩
 have z6 := b6.size
 have rR6 := (b6.row (show w.heap.size + 2 < w5.heap.size by omega) (by omega)).trans rR5
 have bb6 := bb5.trans ((b6.mono (by omega)).below (by omega))
 clear b6 rS5 rR5 bb5
 go_wp2_with fail
 refine (HSh.out _ _ rS6).mono ?_
 rintro e w7 ⟨rfl, rS7, b7⟩
 have z7 := b7.size
 have rR7 := (b7.row (show w.heap.size + 2 < w6.heap.size by omega) (by omega)).trans rR6
 have bb7 := bb6.trans ((b7.mono (by omega)).below (by omega))
 clear b7 rS6 rR6 bb6
 go_wp2_with fail
 refine (HL.out _ _ rS7).mono ?_
 rintro e w8 ⟨rfl, rS8, b8⟩
 have z8 := b8.size
 have rR8 := (b8.row (show w.heap.size + 2 < w7.heap.size by omega) (by omega)).trans rR7
 have bb8 := bb7.trans ((b8.mono (by omega)).below (by omega))
 clear b8 rS7 rR7 bb7
 go_wp2_with fail
 refine (HSp.out _ _ rS8).mono ?_
 rintro e w9 ⟨rfl, b9⟩
 have z9 := b9.size
 have rR9 := (row_below b9 (by omega)).trans rR8
 have bb9 := bb8.trans (b9.mono (by omega))
 clear b9 rS8 rR8 bb8
 obtain ⟨W2, hW2⟩ : ∃ x, (w9.alloc (.cells (u8s ka).toArray 28)).alloc (.cells (u8s kb).toArray 28) = x := ⟨_, rfl⟩
 have rA2 : row W2 w9.heap.size = (u8s ka).toArray := by rw [← hW2]; simp [go_sem]
 have rB2 : row W2 (w9.heap.size + 1) = (u8s kb).toArray := by rw [← hW2]; simp [go_sem]
 have zW2 : W2.heap.size = w9.heap.size + 2 := by rw [← hW2]; simp
 have bW2 : Below w9.heap.size w9 W2 := by
  rw [← hW2]
  (repeat (first | exact Below.refl _ _ | refine Below.al ?_ _ | refine Below.drew ?_ | refine Below.sr ?_ _ | refine Below.sc ?_ _))
 have rR10 : row W2 (w.heap.size + 1 + 1) = (zeros 64 (Value.int .u8 0)).toArray := (row_below bW2 (by omega)).trans rR9
 have bb10 := bb9.trans (bW2.mono (by omega))
 go_wp2_with fail
 clear hW2 bW2 bb9 rR9
 have rRd : row W2.drew (w.heap.size + 1 + 1) = (zeros 64 (Value.int .u8 0)).toArray := rR10
 refine rgR_ [(w9.heap.size, (u8s ka).toArray), (w9.heap.size + 1, (u8s kb).toArray)] (fun hS => ?_)
 refine qp 0 hS ?_
 refine qp 1 hS ?_
 refine qp 2 hS ?_
 refine qp 3 hS ?_
 refine qp 4 hS ?_
 refine wpAnyR_store (i := 5) (b := w.heap.size + 1 + 1) (c := (u8s kb ++ u8s ka).toArray) opt_ rfl rfl kr_ (by simp; (try omega)) hS (by rw [rRd]; simp; (try omega)) (fun w1 hr => by rw [rRd] at hr; go_simp; (try rfl)) (fun u1 hu1 ru1 hS => ?_)
 refine qp 6 hS ?_
 refine wpAnyR_done kr_ (fun wN hN => ?_) _
 have zu1 := hu1.size
 replace zu1 : W2.heap.size ≤ u1.heap.size := zu1
 have rN : row wN (w.heap.size + 1 + 1) = (u8s kb ++ u8s ka).toArray := by
  rw [row_below hN (by rw [setRow_size]; omega)]
  exact row_setRow_same (by rw [ru1, rRd]; simp) (by rw [ru1, rRd]; simp [la, lb])
 have bN : Below w.heap.size w wN := Below.trans (Below.setRow (Below.trans (Below.drew bb10) (hu1.mono (by show w.heap.size ≤ W2.heap.size; omega))) (by omega) _) (hN.mono (by rw [setRow_size]; omega))
 clear hN hu1 ru1 hS
 go_wp2_with fail
 refine bodyPost_ret (results_3 rfl resOk_tmp (resOk_row rfl ?_) resOk_tmp) rfl ?_
 ·
  rw [rN]
  simp [la, lb]
 ·
  exact ⟨by rw [rN]; rfl, bN⟩
end
section
open Go.RowKit
attribute [local irreducible] shaK macL keysF keyN sealL nonceL tagL maskL sharedK metT tookT chainT beginT tagT pubL keyA keyB
end
end Go.Proofs.YtcebllbikmgjpaaGreat
