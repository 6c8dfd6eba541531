/- Texts of this proof, merged: RlyD, RlyA, Cnf, CnfR. -/
import Derived.Test.YtfopoijikdmiaaaGreatDoorJ24
import Derived.Test.YtfopoijikdmiaaaGreatDoorJ27
import Derived.Test.YtfopoijikdmiaaaGreatDoorJ21
set_option linter.unusedSimpArgs false
set_option linter.unusedVariables false
set_option maxHeartbeats 8000000
set_option maxRecDepth 20000
namespace Go.Proofs.YtfopoijikdmiaaaGreatDoor
section
open Go.RowKit Go.Shelf
section
variable (w : World) {A : BrA} {s : BrS}
theorem rCome_any (h : BrT w A s) {N : Nat} (hN : N ≤ 900000) (g : BrG s N) (k : Nat) (hk : k < s.ports.length) (l : List UInt8) (hl : l.length ≤ 1000000) (t : TalkD) (ht : ∀ d, ethParse l = .ok d → TalkC d.dst d.src d.ty d.body t) :
  Calls Tryz.prog 82 #[.pointer (some ⟨A.B, 0, none⟩), .int .i64 (k : Int), .string ⟨l.toArray⟩] w fun e w' => (∃ u, e = .returned (.tuple #[u, .int .i64 (comeS s k l t).2.2]) ∧ OwnL w' w.heap.size 216 2 u ((comeS s k l t).2.1.map outC)) ∧ BelowS w.heap.size A.muts w w' ∧ BrT w' A (comeS s k l t).1 := by
 obtain ⟨dst, src, ty, body, vl, prio, er, hx⟩ := comeX l hl
 have hn := g.n32
 have HHS := h_ (fun w (h : BrT w A s) => rHas_any w h k hn)
 rw [decide_eq_true (by omega : (0 : Int) ≤ (k : Int)), decide_eq_true (by omega : (k : Int) < (s.ports.length : Int))] at HHS
 have HPA := h_ hx.parse
 unfold ethV at HPA
 have HXE := h_ hx.err
 have HXG := h_ hx.good
 have HTO := h_ bTo_any
 have HGR := h_ (fun w => group_any src w)
 obtain ⟨pb, po, ta, tc, epa, hpb, hrd⟩ := h.port hk
 obtain ⟨p, hp⟩ : ∃ x, s.ports[k] = x := ⟨_, rfl⟩
 rw [hp] at hrd
 have hpk : s.port k = p := by unfold BrS.port; rw [List.getD_eq_getElem?_getD, List.getElem?_eq_getElem hk]; exact hp
 obtain ⟨q, hq⟩ : ∃ x, s.states[k]'(by rw [h.lenS]; exact hk) = x := ⟨_, rfl⟩
 have hqk : s.states.getD k 0 = q := by rw [List.getD_eq_getElem?_getD, List.getElem?_eq_getElem (by rw [h.lenS]; exact hk)]; exact hq
 have HST := h_ (fun W (hW : BrT W A s) => by have := state_cell hW hk; rw [hq] at this; exact this)
 obtain ⟨iv, hiv⟩ : ∃ x, inP p.native p.tagged vl = x := ⟨_, rfl⟩
 have HIN := h_ (fun W (hW : BelowS w.heap.size A.muts w W) => vIn_any p.native ta tc p.tagged dst src ty body vl prio W (hrd W hW).2)
 rw [hiv] at HIN
 have hload : ∀ W, Below w.heap.size w W → (loadS 133 (.pointer (some ⟨pb, po + k * 4, none⟩))).run Tryz.prog W = .ok (.agg #[Value.int .i64 p.native, Value.slice ta p.tagged.length tc]) W := fun W hW => by
  have h4 := (hrd W (BelowS.of hW)).1
  exact run_loadS_at (l := [Value.int .i64 p.native, Value.slice ta p.tagged.length tc]) (fun j u hj => h4 j u (by
   match j, hj with
   | 0, hj => exact hj
   | 1, hj => exact hj)) rfl
 obtain ⟨o, ho⟩ : ∃ o, po + k * 4 = o := ⟨_, rfl⟩
 rw [ho] at hload
 have HLO := h_ hload
 have HIV := h_ hiv
 have HQK := h_ hqk
 have HPK := h_ hpk
 have HEPA := h_ epa
 obtain ⟨iv1, iv2⟩ := iv
 dsimp only at HIN
 have hkI : (k : Int) < (s.ports.length : Int) := by omega
 have hk0 : (0 : Int) ≤ (k : Int) := by omega
 have hnI : (s.ports.length : Int) ≤ 32 := by omega
 obtain ⟨⟨ca0, cb0⟩, ⟨ca1, cb1⟩, ⟨ca2, cb2⟩, ⟨ca3, cb3⟩, ⟨ca4, cb4⟩⟩ := g.cs
 have c0I : s.c0 ≤ 900000 := by omega
 have c1I : s.c1 ≤ 900000 := by omega
 have c2I : s.c2 ≤ 900000 := by omega
 have c3I : s.c3 ≤ 900000 := by omega
 have c4I : s.c4 ≤ 900000 := by omega
 have HT := h_ ht
 have HG := h_ g
 clear hx hp hq hiv hload hrd hpk hqk ht cb0 cb1 cb2 cb3 cb4 g epa
 go_enter Tryz.func82, Tryz.ntmps82
 go_wp2_with fail
 (with_reducible refine (HHS.out _ h).mono ?_)
 rintro e w1 ⟨rfl, rfl⟩
 go_wp2_with fail
 (with_reducible refine (HPA.out _).mono ?_)
 rintro e w2 ⟨rfl, b2⟩
 have hT2 := h.below b2
 have z2 := b2.size
 obtain ⟨w3, hw3⟩ : ∃ x, w2.alloc (.cells (u8v dst ++ (u8v src ++ [Value.int .i64 ty, .string ⟨body.toArray⟩, .int .i64 vl, .int .i64 prio])).toArray 193) = x := ⟨_, rfl⟩
 obtain ⟨X, hX⟩ : ∃ x, w2.heap.size = x := ⟨_, rfl⟩
 have rX : row w3 X = (u8v dst ++ (u8v src ++ [Value.int .i64 ty, .string ⟨body.toArray⟩, .int .i64 vl, .int .i64 prio])).toArray := by rw [← hw3, ← hX]; exact row_alloc_at _ _ _ rfl
 have b23 : Below w2.heap.size w2 w3 := by rw [← hw3]; exact ba_
 have z3 : w3.heap.size = X + 1 := by rw [← hw3, ← hX]; exact alloc_sizeW _ _
 have hT3 := hT2.below b23
 have B3 := b2.trans (b23.mono z2)
 have hr3 := hT3.rB
 unfold brRow at hr3
 rw [HEPA.out] at hr3
 have hst3 := HST.out w3 hT3
 have hXw : w1.heap.size ≤ X := by omega
 have hXB : X ≠ A.B := by have := h.ltB; omega
 have hXL : X ≠ A.LM := by have := h.ler.ok.lt; omega
 have hXH : X ≠ A.HM := by have := h.hush.ok.lt; omega
 rw [hX] at z2
 clear b2 b23 hT2 h
 go_wp2_with fail
 (try rw [hX])
 (try clear hw3)
 have hlB3 := hT3.ltB
 have hG : GrowP fun W => Below w1.heap.size w1 W := grow_base w1
 have hload := HLO.out
 refine rgX_ [(A.B, #[.slice (some ⟨pb, po, none⟩) s.ports.length A.pcap, .slice (some ⟨A.SB, 0, none⟩) s.ports.length s.ports.length, .pointer (some ⟨A.LT, 0, none⟩), .pointer (some ⟨A.HT, 0, none⟩), .int .i64 s.c0, .int .i64 s.c1, .int .i64 s.c2, .int .i64 s.c3, .int .i64 s.c4]), (X, (u8v dst ++ (u8v src ++ [Value.int .i64 ty, .string ⟨body.toArray⟩, .int .i64 vl, .int .i64 prio])).toArray)] (fun W => Below w1.heap.size w1 W) hG (B3) (fun hS => ?_)
 refine sp 0 hG hS ?_
 refine sp 1 hG hS ?_
 refine sp 2 hG hS ?_
 refine sp 3 hG hS ?_
 refine sp 4 hG hS ?_
 refine sp 5 hG hS ?_
 refine sp 6 hG hS ?_
 refine sp 7 hG hS ?_
 refine sp 8 hG hS ?_
 refine sc 9 (v := ?_) hG hS ?_ ?_
 rotate_left
 ·
  intro w' hS'
  obtain ⟨hS', hX'⟩ := hS'
  simp only [Rws] at hS'
  go_simp
  with_reducible refine (HIN.out _ (BelowS.of hX')).mono ?_
  rintro e w'' ⟨rfl, hb⟩
  exact ⟨_, rfl, by rfl, hb⟩
 refine sp 10 hG hS ?_
 refine sp 11 hG hS ?_
 refine sp 12 hG hS ?_
 refine sp 13 hG hS ?_
 refine sp 14 hG hS ?_
 refine wpAnyR_done kr_ (fun w4 bw4 => ?_) _
 have b34 := below_step (Below.drew (Below.refl _ _)) bw4
 have z4 := b34.size
 have hT4 := hT3.below b34
 have B4 := B3.trans (b34.mono (by omega))
 have rX4 := (row_below b34 (by omega)).trans rX
 have hr4 := hT4.rB
 unfold brRow at hr4
 have zX4 : X < w4.heap.size := by omega
 clear hS hload bw4 b34 hT3 B3 rX hr3 hst3 z3 hX HIN HLO
 by_cases he : er = 0
 case neg =>
  obtain ⟨n, hperr⟩ := HXE.out he
  have hcome : comeS s k l t = ({ s with c0 := s.c0 + 1 }, [], 3) := by unfold comeS; rw [hperr]
  have he1 : (er != 0) = true := by simpa using he
  have HC := h_ hcome
  clear hcome hperr he
  go_wp2_with fail
  go_ret2
  refine ⟨⟨.slice none 0 0, by rw [HC.out]; rfl, by rw [HC.out]; exact OwnL.nil _ _ _ _⟩, (BelowS.of B4).trans (BelowS.set w4 _ (by simp [BrA.muts])), by rw [HC.out]; exact hT4.setB (s.c0 + 1) s.c1 s.c2 s.c3 s.c4 _ rfl⟩
 subst he
 have hpok := HXG.out rfl
 obtain ⟨hp0, hp7, hbl⟩ := ethParse_prio hpok
 have htk := HT.out _ hpok
 dsimp only at hp0 hp7 hbl htk
 have hcome : comeS s k l t = comeD s k ⟨dst, src, ty, body, vl, prio⟩ t := by unfold comeS; rw [hpok]
 unfold comeD at hcome
 simp only [HPK.out, HQK.out, HIV.out] at hcome
 have HTK := h_ htk
 clear hpok htk HXE HXG HT HPA
 obtain ⟨gs, hgs⟩ : ∃ x, grp src = x := ⟨_, rfl⟩
 rw [hgs] at hcome HGR
 cases gs with
 | true =>
  simp only [if_true] at hcome
  have HC := h_ hcome
  clear hcome
  go_wp2_with fail
  (with_reducible refine (HGR.out _).mono ?_)
  rintro e w5 ⟨rfl, b5⟩
  have hT5 := hT4.below b5
  have B5 := B4.trans (b5.mono (by omega))
  have hr5 := hT5.rB
  unfold brRow at hr5
  clear hT4 hr4
  go_wp2_with fail
  go_ret2
  refine ⟨⟨.slice none 0 0, by rw [HC.out]; rfl, by rw [HC.out]; exact OwnL.nil _ _ _ _⟩, (BelowS.of B5).trans (BelowS.set w5 _ (by simp [BrA.muts])), by rw [HC.out]; exact hT5.setB (s.c0 + 1) s.c1 s.c2 s.c3 s.c4 _ rfl⟩
 | false =>
  simp only [Bool.false_eq_true, if_false] at hcome
  have HC0 := h_ hcome
  have HGS := h_ hgs
  clear hcome hgs
  go_wp2_with fail
  (with_reducible refine (HGR.out _).mono ?_)
  rintro e w5 ⟨rfl, b5⟩
  have hT5 := hT4.below b5
  have z5 := b5.size
  have B5 := B4.trans (b5.mono (by omega))
  have rX5 := (row_below b5 zX4).trans rX4
  have zX5 : X < w5.heap.size := by omega
  have hr5 := hT5.rB
  unfold brRow at hr5
  clear hT4 hr4 rX4 b5 B4 z5 zX4 z4
  go_wp2_with fail
  refine rgR_ [(X, (u8v dst ++ (u8v src ++ [Value.int .i64 ty, .string ⟨body.toArray⟩, .int .i64 vl, .int .i64 prio])).toArray)] (fun hS => ?_)
  refine qp 0 hS ?_
  refine qp 1 hS ?_
  refine qp 2 hS ?_
  refine qc 3 (v := ?_) hS ?_ ?_
  rotate_left
  ·
   intro w' hS'
   simp only [Rws] at hS'
   go_simp
   with_reducible refine (HTO.out _).mono ?_
   rintro e w'' ⟨rfl, hb⟩
   exact ⟨_, rfl, by rfl, hb⟩
  refine qp 4 hS ?_
  refine qp 5 hS ?_
  refine wpAnyR_done kr_ (fun w6 b6 => ?_) _
  replace b6 : Below (w5).heap.size (w5) w6 := below_step (Below.drew (Below.refl _ _)) b6
  have hT6 := hT5.below b6
  have z6 := b6.size
  have B6 := B5.trans (b6.mono (by omega))
  have rX6 := (row_below b6 zX5).trans rX5
  have zX6 : X < w6.heap.size := by omega
  have hr6 := hT6.rB
  unfold brRow at hr6
  clear hT5 hr5 rX5 b6 B5 z6 zX5 HTO HGR
  obtain ⟨dq, hdq⟩ : ∃ x, (dst == bpduTo) = x := ⟨_, rfl⟩
  have hC1 := HC0.out
  rw [hdq] at hC1 ⊢
  cases dq with
  | true =>
   simp only [if_true] at hC1
   have HC := h_ hC1
   clear hC1 hdq HC0
   go_wp2_with fail
   go_ret2
   refine ⟨⟨.slice none 0 0, by rw [HC.out]; rfl, by rw [HC.out]; exact OwnL.nil _ _ _ _⟩, (BelowS.of B6).trans (BelowS.set w6 _ (by simp [BrA.muts])), by rw [HC.out]; exact hT6.setB s.c0 (s.c1 + 1) s.c2 s.c3 s.c4 _ rfl⟩
  | false =>
   simp only [Bool.false_eq_true, if_false] at hC1
   have HC1 := h_ hC1
   clear hC1 hdq HC0
   by_cases hstop : q < 2 ∨ iv2 ≠ 0
   ·
    have hC2 := HC1.out
    rw [if_pos (by rcases hstop with hs | hs <;> simp [hs])] at hC2
    have HC := h_ hC2
    clear hC2 HC1
    by_cases hq2 : q < 2
    ·
     clear hstop
     go_wp2_with fail
     go_ret2
     refine ⟨⟨.slice none 0 0, by rw [HC.out]; rfl, by rw [HC.out]; exact OwnL.nil _ _ _ _⟩, (BelowS.of B6).trans (BelowS.set w6 _ (by simp [BrA.muts])), by rw [HC.out]; exact hT6.setB s.c0 s.c1 (s.c2 + 1) s.c3 s.c4 _ rfl⟩
    ·
     have hi2 : (iv2 != 0) = true := by
      rcases hstop with hs | hs
      ·
       exact absurd hs hq2
      ·
       simpa using hs
     clear hstop
     go_wp2_with fail
     go_ret2
     refine ⟨⟨.slice none 0 0, by rw [HC.out]; rfl, by rw [HC.out]; exact OwnL.nil _ _ _ _⟩, (BelowS.of B6).trans (BelowS.set w6 _ (by simp [BrA.muts])), by rw [HC.out]; exact hT6.setB s.c0 s.c1 (s.c2 + 1) s.c3 s.c4 _ rfl⟩
   ·
    have hq2 : ¬ q < 2 := fun hc => hstop (.inl hc)
    have hi0 : iv2 = 0 := Classical.byContradiction fun hc => hstop (.inr hc)
    have hC2 := HC1.out
    rw [if_neg (by simp [hq2, hi0]; try omega)] at hC2
    have HC2 := h_ hC2
    clear hC2 HC1 hstop
    subst hi0
    have hmem : memberP p.native p.tagged iv1 = true ∧ 1 ≤ iv1 ∧ iv1 ≤ 4094 := inP_ok HIV.out
    obtain ⟨hm, hv1, hv2⟩ := hmem
    have HM := h_ hm
    clear hm
    have HLE := h_ (fun W (hW : BrT W A s) => lLearn_any W iv1 src k (lims := s.ports.map (·.lim)) (by rw [List.length_map]; exact hW.ler) hW.ne.2.2.2.2.2.2.2.2.2.1 (show IntsAt W A.la (s.ports.map (·.lim)) from hW.lims.elems) HG.out.std (Nat.le_trans HG.out.stn (by omega)) hv1 hv2 HGS.out (by rw [List.length_map]; exact hk) (by rw [List.length_map]; omega))
    have hlim : (s.ports.map (·.lim))[k]'(by rw [List.length_map]; exact hk) = p.lim := by
     rw [List.getElem_map, ← HPK.out]
     unfold BrS.port
     rw [List.getD_eq_getElem?_getD, List.getElem?_eq_getElem hk]
     rfl
    rw [hlim] at HLE
    simp only [List.length_map] at HLE
    obtain ⟨st', hst'⟩ : ∃ x, hearL p.lim iv1 src k s.st = x := ⟨_, rfl⟩
    have hC3 := HC2.out
    rw [hst'] at HLE hC3
    have HC3 := h_ hC3
    have HSTE := h_ hst'
    clear hlim hst' hC3 HC2
    have hq2b : ¬ q < 2 := hq2
    have hlB6 := hT6.ltB
    go_wp2_with fail
    refine rgR_ [(A.B, #[.slice A.pa s.ports.length A.pcap, .slice (some ⟨A.SB, 0, none⟩) s.ports.length s.ports.length, .pointer (some ⟨A.LT, 0, none⟩), .pointer (some ⟨A.HT, 0, none⟩), .int .i64 s.c0, .int .i64 s.c1, .int .i64 s.c2, .int .i64 s.c3, .int .i64 s.c4]), (X, (u8v dst ++ (u8v src ++ [Value.int .i64 ty, .string ⟨body.toArray⟩, .int .i64 vl, .int .i64 prio])).toArray)] (fun hS => ?_)
    refine qp 0 hS ?_
    refine qp 1 hS ?_
    refine qp 2 hS ?_
    refine qp 3 hS ?_
    refine qp 4 hS ?_
    refine qp 5 hS ?_
    refine qp 6 hS ?_
    refine qp 7 hS ?_
    refine qp 8 hS ?_
    refine wpAnyR_all (rs := [9]) kr_ (by simp) (Rws.grow _) hS (fun u9 hu9 hSW => ?_)
    intro i hi
    obtain rfl := List.mem_singleton.1 hi
    refine wpOp_step rfl (fun K hK => ?_)
    simp only [Rws] at hSW
    clear hi hS
    go_simp
    replace hu9 : Below w6.heap.size w6 u9 := below_step (Below.drew (Below.refl _ _)) hu9
    have zu9 := hu9.size
    have hTu := hT6.below hu9
    (with_reducible refine (HLE.out _ hTu).mono ?_)
    rintro e w7 ⟨⟨ne, rfl⟩, b7, t7⟩
    have z7 := b7.size
    have l7 := hTu.lts
    have n7 := hTu.ne
    have hT7 := hTu.setL b7 t7
    have BS7 : BelowS w1.heap.size A.muts w1 w7 := (BelowS.of (B6.trans (hu9.mono B6.size))).trans ((BelowS.one b7 (by simp [BrA.muts])).mono (Nat.le_trans B6.size hu9.size))
    have rX7 : row w7 X = (u8v dst ++ (u8v src ++ [Value.int .i64 ty, .string ⟨body.toArray⟩, .int .i64 vl, .int .i64 prio])).toArray := (row_of_block (b7.block X (by omega) hXL)).trans ((row_below hu9 zX6).trans rX6)
    have rB7 := hT7.rB
    unfold brRow at rB7
    dsimp only at rB7
    refine hK _ _ ⟨⟨rB7, by omega, rX7, by omega, trivial⟩, ?_⟩
    clear hK K hSW b7 t7 hu9 hTu hT6 hr6 rX6 B6 HLE
    refine wpAnyR_done kr_ (fun w8 b8 => ?_) _
    have z8 := b8.size
    have hT8 := hT7.below b8
    have BS8 := BS7.trans (BelowS.of (b8.mono BS7.size))
    have rX8 := (row_below b8 (by omega)).trans rX7
    have rB8 := (row_below b8 (by omega)).trans rB7
    have zX8 : X < w8.heap.size := by omega
    clear b8 hT7 BS7 rX7 rB7
    by_cases hq3 : q < 3
    ·
     have hC4 := HC3.out
     rw [if_pos hq3] at hC4
     have HC := h_ hC4
     clear hC4 HC3
     go_wp2_with fail
     go_ret2
     refine ⟨⟨.slice none 0 0, by rw [HC.out]; rfl, by rw [HC.out]; exact OwnL.nil _ _ _ _⟩, BS8.trans (BelowS.set w8 _ (by simp [BrA.muts])), by rw [HC.out]; exact hT8.setB s.c0 s.c1 (s.c2 + 1) s.c3 s.c4 _ rfl⟩
    ·
     have hC4 := HC3.out
     rw [if_neg hq3] at hC4
     have HC4 := h_ hC4
     clear hC4 HC3
     have hTM : A.HT ≠ A.HM := hT8.ne.2.2.2.2.2.2.2.2.2.2.2.2.2.2
     have HHL := h_ (fun W (hW : BrT W A { s with st := st' }) => learn_both dst src ty body t.ip t.mac t.ok iv1 W hW.hush hTM HTK.out.ann)
     obtain ⟨bi', hbi'⟩ : ∃ x, learnH iv1 t.ip t.mac t.ok s.bi = x := ⟨_, rfl⟩
     have hC5 := HC4.out
     dsimp only at HHL
     rw [hbi'] at HHL hC5
     unfold frameV at HHL
     have hlB8 := hT8.ltB
     have HC5 := h_ hC5
     have HBI := h_ hbi'
     clear hC5 HC4 hbi'
     go_wp2_with fail
     refine rgR_ [(A.B, #[.slice A.pa s.ports.length A.pcap, .slice (some ⟨A.SB, 0, none⟩) s.ports.length s.ports.length, .pointer (some ⟨A.LT, 0, none⟩), .pointer (some ⟨A.HT, 0, none⟩), .int .i64 s.c0, .int .i64 s.c1, .int .i64 s.c2, .int .i64 s.c3, .int .i64 s.c4]), (X, (u8v dst ++ (u8v src ++ [Value.int .i64 ty, .string ⟨body.toArray⟩, .int .i64 vl, .int .i64 prio])).toArray)] (fun hS => ?_)
     refine qp 0 hS ?_
     refine qp 1 hS ?_
     refine qp 2 hS ?_
     refine qp 3 hS ?_
     refine qp 4 hS ?_
     refine qp 5 hS ?_
     refine qp 6 hS ?_
     refine wpAnyR_all (rs := [7]) kr_ (by simp) (Rws.grow _) hS (fun u9 hu9 hSW => ?_)
     intro i hi
     obtain rfl := List.mem_singleton.1 hi
     refine wpOp_step rfl (fun K hK => ?_)
     simp only [Rws] at hSW
     clear hi hS
     go_simp
     replace hu9 : Below w8.heap.size w8 u9 := below_step (Below.drew (Below.refl _ _)) hu9
     have zu9 := hu9.size
     have hTu := hT8.below hu9
     (with_reducible refine (HHL.out _ hTu).mono ?_)
     rintro e w9 ⟨rfl, b9, t9⟩
     have z9 := b9.size
     have l9 := hTu.lts
     have hT9 := hTu.setH b9 t9
     have BS9 : BelowS w1.heap.size A.muts w1 w9 := BS8.trans ((BelowS.of (hu9.mono BS8.size)).trans ((BelowS.one b9 (by simp [BrA.muts])).mono (Nat.le_trans BS8.size hu9.size)))
     have rX9 : row w9 X = (u8v dst ++ (u8v src ++ [Value.int .i64 ty, .string ⟨body.toArray⟩, .int .i64 vl, .int .i64 prio])).toArray := (row_of_block (b9.block X (by omega) hXH)).trans ((row_below hu9 zX8).trans rX8)
     have rB9 := hT9.rB
     unfold brRow at rB9
     dsimp only at rB9
     refine hK _ _ ⟨⟨rB9, by omega, rX9, by omega, trivial⟩, ?_⟩
     clear hK K hSW b9 t9 hu9 hTu hT8 rB8 rX8 BS8 HHL
     refine wpAnyR_done kr_ (fun w10 b10 => ?_) _
     have z10 := b10.size
     have hT10 := hT9.below b10
     have BS10 := BS9.trans (BelowS.of (b10.mono BS9.size))
     have rX10 := (row_below b10 (by omega)).trans rX9
     have rB10 := (row_below b10 (by omega)).trans rB9
     have zX10 : X < w10.heap.size := by omega
     clear b10 hT9 BS9 rX9 rB9
     have hask : ∃ (fr : List Value) (b : Bool), (∀ W, BrT W A { s with st := st', bi := bi' } → AnsC (some ⟨A.HT, 0, none⟩) iv1 dst src ty body W fr b) ∧
       ((b = false ∧ fr = zeroFr ∧ askS iv1 t bi' = none) ∨ ∃ c ans, b = true ∧ fr = frameV src c.mac ty (ans c.mac) ∧ askS iv1 t bi' = some (c, ans)) := ask_any HTK.out iv1
     obtain ⟨fr, bb, hA, hfr⟩ := hask
     have HA := h_ hA
     have hC6 := HC5.out
     rcases hfr with ⟨rfl, rfl, e3⟩ | ⟨c, ans, rfl, rfl, e3⟩
     ·
      rw [e3] at hC6
      dsimp only at hC6
      have HC := h_ hC6
      clear hC6 hA HC5 e3
      unfold AnsC zeroFr at HA
      unfold frameV at HA
      have hlB10 := hT10.ltB
      have hGX : GrowP fun W => BrT W A { s with st := st', bi := bi' } := grow_br A _
      go_wp2_with fail
      have hG := hGX
      refine rgX_ [(A.B, #[.slice A.pa s.ports.length A.pcap, .slice (some ⟨A.SB, 0, none⟩) s.ports.length s.ports.length, .pointer (some ⟨A.LT, 0, none⟩), .pointer (some ⟨A.HT, 0, none⟩), .int .i64 s.c0, .int .i64 s.c1, .int .i64 s.c2, .int .i64 s.c3, .int .i64 s.c4]), (X, (u8v dst ++ (u8v src ++ [Value.int .i64 ty, .string ⟨body.toArray⟩, .int .i64 vl, .int .i64 prio])).toArray)] (fun W => BrT W A { s with st := st', bi := bi' }) hG (hT10) (fun hS => ?_)
      refine sp 0 hG hS ?_
      refine sp 1 hG hS ?_
      refine sp 2 hG hS ?_
      refine sp 3 hG hS ?_
      refine sp 4 hG hS ?_
      refine sp 5 hG hS ?_
      refine sp 6 hG hS ?_
      refine sc 7 (v := ?_) hG hS ?_ ?_
      rotate_left
      ·
       intro w' hS'
       obtain ⟨hS', hX'⟩ := hS'
       simp only [Rws] at hS'
       go_simp
       with_reducible refine (HA.out _ hX').mono ?_
       rintro e w'' ⟨rfl, hb⟩
       exact ⟨_, rfl, by rfl, hb⟩
      refine sp 8 hG hS ?_
      refine sp 9 hG hS ?_
      refine sp 10 hG hS ?_
      refine wpAnyS_var (XS.grow hG) (i := 11) (k := 12) (zi := (u8v mac0 ++ (u8v mac0 ++ [Value.int .i64 0, Value.string ⟨#[]⟩])).toArray) (cA := (u8v mac0 ++ (u8v mac0 ++ [Value.int .i64 0, Value.string ⟨#[]⟩])).toArray) opt_ opt_ ⟨rfl, rfl, fun a w => by go_simp; (refine ⟨?_, ?_⟩ <;> rfl)⟩ kr_ kr_ rfl rfl (by simp [*]) (by simp) (fun A w1 hr => by
       simp only [Act.put, List.setIfInBounds_toArray, List.set_cons_zero, List.set_cons_succ, ptr]
       go_simp
       try rfl) hS (fun Y w11 gY zY bw11 rY hS => ?_)
      (try simp only [Act.put, List.setIfInBounds_toArray, List.set_cons_zero, List.set_cons_succ])
      simp only [ptr]
      refine sp 13 hG hS ?_
      refine wpAnyR_done kr_ (fun w12 bw12 => ?_) _
      have b11 := below_step (Below.drew (Below.refl _ _)) bw11
      have b12 := b11.trans (bw12.mono b11.size)
      have z12 := b12.size
      have hT12 := hT10.below b12
      have BS12 := BS10.trans (BelowS.of (b12.mono BS10.size))
      have rX12 := (row_below b12 zX10).trans rX10
      have rB12 := (row_below b12 (by have := hT10.ltB; omega)).trans rB10
      clear hS b11 b12 bw11 bw12 hT10 BS10 rX10 rB10 rY HA
      have HRL := h_ (fun W (hW : BrT W A { s with st := st', bi := bi', c3 := s.c3 + 1 }) => rRelayed_any W hW k hk iv1 dst src ty body vl prio hn (hear_ports HG.out HSTE.out hk) hp0 hp7)
      unfold ethV at HRL
      have hE := hT12.setB s.c0 s.c1 s.c2 (s.c3 + 1) s.c4 _ rfl
      unfold brRow at hE
      dsimp only at hE
      have HE := h_ hE
      clear hE
      have BS13 := BS12.trans (BelowS.set (B := w1.heap.size) w12 (brRow A { s with st := st', bi := bi', c3 := s.c3 + 1 }) (b := A.B) (by simp [BrA.muts]))
      unfold brRow at BS13
      dsimp only at BS13
      have HBS := h_ BS13
      clear BS13
      go_wp2_with fail
      (with_reducible refine (HRL.out _ HE.out).mono ?_)
      rintro e w14 ⟨⟨u, rfl, hown⟩, b14⟩
      have HO := h_ hown
      have hT14 := HE.out.below b14
      have BS14 := HBS.out.trans (BelowS.of (b14.mono HBS.out.size))
      have HT14 := h_ hT14
      clear hown hT14
      go_wp2_with fail
      go_ret2
      refine ⟨⟨u, by rw [HC.out]; rfl, ?_⟩, BS14, by rw [HC.out]; exact HT14.out⟩
      rw [HC.out]
      exact HO.out.lower (by have := HBS.out.size; omega)
     ·
      rw [e3] at hC6
      dsimp only at hC6
      have HC := h_ hC6
      clear hC6 hA HC5 e3
      unfold AnsC at HA
      unfold frameV at HA
      have hlB10 := hT10.ltB
      have hGX : GrowP fun W => BrT W A { s with st := st', bi := bi' } := grow_br A _
      go_wp2_with fail
      have hG := hGX
      refine rgX_ [(A.B, #[.slice A.pa s.ports.length A.pcap, .slice (some ⟨A.SB, 0, none⟩) s.ports.length s.ports.length, .pointer (some ⟨A.LT, 0, none⟩), .pointer (some ⟨A.HT, 0, none⟩), .int .i64 s.c0, .int .i64 s.c1, .int .i64 s.c2, .int .i64 s.c3, .int .i64 s.c4]), (X, (u8v dst ++ (u8v src ++ [Value.int .i64 ty, .string ⟨body.toArray⟩, .int .i64 vl, .int .i64 prio])).toArray)] (fun W => BrT W A { s with st := st', bi := bi' }) hG (hT10) (fun hS => ?_)
      refine sp 0 hG hS ?_
      refine sp 1 hG hS ?_
      refine sp 2 hG hS ?_
      refine sp 3 hG hS ?_
      refine sp 4 hG hS ?_
      refine sp 5 hG hS ?_
      refine sp 6 hG hS ?_
      refine sc 7 (v := ?_) hG hS ?_ ?_
      rotate_left
      ·
       intro w' hS'
       obtain ⟨hS', hX'⟩ := hS'
       simp only [Rws] at hS'
       go_simp
       with_reducible refine (HA.out _ hX').mono ?_
       rintro e w'' ⟨rfl, hb⟩
       exact ⟨_, rfl, by rfl, hb⟩
      refine sp 8 hG hS ?_
      refine sp 9 hG hS ?_
      refine sp 10 hG hS ?_
      refine wpAnyS_var (XS.grow hG) (i := 11) (k := 12) (zi := (u8v mac0 ++ (u8v mac0 ++ [Value.int .i64 0, Value.string ⟨#[]⟩])).toArray) (cA := (u8v src ++ (u8v c.mac ++ [Value.int .i64 ty, Value.string ⟨(ans c.mac).toArray⟩])).toArray) opt_ opt_ ⟨rfl, rfl, fun a w => by go_simp; (refine ⟨?_, ?_⟩ <;> rfl)⟩ kr_ kr_ rfl rfl (by simp [*]) (by simp) (fun A w1 hr => by
       simp only [Act.put, List.setIfInBounds_toArray, List.set_cons_zero, List.set_cons_succ, ptr]
       go_simp
       try rfl) hS (fun Y w11 gY zY bw11 rY hS => ?_)
      (try simp only [Act.put, List.setIfInBounds_toArray, List.set_cons_zero, List.set_cons_succ])
      simp only [ptr]
      refine sp 13 hG hS ?_
      refine wpAnyR_done kr_ (fun w12 bw12 => ?_) _
      have b11 := below_step (Below.drew (Below.refl _ _)) bw11
      have b12 := b11.trans (bw12.mono b11.size)
      have z12 := b12.size
      have hT12 := hT10.below b12
      have BS12 := BS10.trans (BelowS.of (b12.mono BS10.size))
      have rX12 := (row_below b12 zX10).trans rX10
      have rB12 := (row_below b12 (by have := hT10.ltB; omega)).trans rB10
      have rY12 := (row_below bw12 (by omega)).trans rY
      have gY2 : w10.heap.size ≤ Y := gY
      have hYX : Y ≠ X := by omega
      have hYB : Y ≠ A.B := by have := hT10.ltB; omega
      clear hS b11 b12 bw11 bw12 hT10 BS10 rX10 rB10 rY HA
      have hgj : s.ports[k] = p := by
       have := HPK.out
       unfold BrS.port at this
       rw [List.getD_eq_getElem?_getD, List.getElem?_eq_getElem hk] at this
       exact this
      have HPR := h_ (fun W (hW : BrT W A { s with st := st', bi := bi', c4 := s.c4 + 1 }) => rPrinted_any W hW k hk iv1 src c.mac ty (ans c.mac) prio hn (by show memberP s.ports[k].native s.ports[k].tagged iv1 = true; rw [hgj]; exact HM.out) hp0 hp7)
      dsimp only at HPR
      rw [hgj] at HPR
      unfold frameV at HPR
      clear hgj
      have hE := hT12.setB s.c0 s.c1 s.c2 s.c3 (s.c4 + 1) _ rfl
      unfold brRow at hE
      dsimp only at hE
      have HE := h_ hE
      clear hE
      have BS13 := BS12.trans (BelowS.set (B := w1.heap.size) w12 (brRow A { s with st := st', bi := bi', c4 := s.c4 + 1 }) (b := A.B) (by simp [BrA.muts]))
      unfold brRow at BS13
      dsimp only at BS13
      have HBS := h_ BS13
      clear BS13
      go_wp2_with fail
      (with_reducible refine (HPR.out _ HE.out).mono ?_)
      rintro e w14 ⟨⟨u, rfl, hown⟩, b14⟩
      have HO := h_ hown
      have hT14 := HE.out.below b14
      have BS14 := HBS.out.trans (BelowS.of (b14.mono HBS.out.size))
      have HT14 := h_ hT14
      clear hown hT14
      go_wp2_with fail
      go_ret2
      refine ⟨⟨u, by rw [HC.out]; rfl, ?_⟩, BS14, by rw [HC.out]; exact HT14.out⟩
      rw [HC.out]
      exact HO.out.lower (by have := HBS.out.size; omega)
end
end
section
open Go.RowKit Go.Shelf
section
variable {P : Program} {ops : Array Oper} {Q : Exit → Act → World → Prop} {md : Region.Mode} {S : World → Prop}
theorem wpAnyR_op1 (i : Nat) {fuel : Nat} {listed : Array Bool} {a : Act} {w : World} (hr : Region.ready md ops listed = [i])
  (h : ∀ w1, Below w.heap.size w w1 → wpOp P ops Q i (fun a' w' => S w' ∧ wpAnyR P md ops Q S fuel (listed.setIfInBounds i true) a' w') a w1) : wpAnyR P md ops Q S (fuel + 1) listed a w := by
 intro w1 h1
 refine ⟨fun h0 => by rw [hr] at h0; simp at h0, fun j hj => ?_⟩
 rw [hr] at hj
 obtain rfl := List.mem_singleton.1 hj
 exact h w1 h1
end
theorem portsOf {S : List Nat} {w : World} {B : Nat} {pa : Option Addr} {n cap : Nat} {rows : List (List Value)} {ps : List PortD} (h : OwnL w B 135 4 (.slice pa n cap) rows) (hl : ps.length ≤ 1000) (hS : ∀ s ∈ S, s < B)
  (hr : ∀ (q : Nat) (p : PortD), ps[q]? = some p → ∃ ta tc, rows[q]? = some (portV ta tc p) ∧ ElemsOff S w ta 1 (p.tagged.map fun v => [Value.int .i64 v])) : PortsOff S w pa ps := by
 obtain ⟨a', c', e, he⟩ := h.off S (fun s hs => .inl (hS s hs))
 cases e
 refine ⟨by unfold maxLen; omega, fun q p hq => ?_⟩
 obtain ⟨ta, tc, e1, e2⟩ := hr q p hq
 obtain ⟨b, off, e3, hb, hn, hra⟩ := he.2 q _ e1
 exact ⟨b, off, ta, tc, e3, hb, hn, hra, e2⟩
end
section
open Go.RowKit Go.Shelf
structure PortX where
 p : PortD
 link : Bool
 rate : Int
 greets : Bool
 psk : Vector UInt8 32
def portXV (ta : Option Addr) (cap : Nat) (x : PortX) : List Value := Value.int .i64 x.p.native :: Value.slice ta x.p.tagged.length cap :: Value.int .i64 x.p.hor :: Value.int .i64 x.p.lim :: Value.bool x.link :: Value.int .i64 x.rate :: Value.bool x.greets :: u8v x.psk
def rightX (x : PortX) : Bool := if x.link then decide (1 ≤ x.rate) && decide (x.rate ≤ 1000000000) else decide (x.rate = 0) && !x.greets && (x.psk == Vector.replicate 32 0)
theorem cRight_any (ta : Option Addr) (cap : Nat) (x : PortX) (w : World) :
  Calls Tryz.prog 152 #[.agg (portXV ta cap x).toArray] w fun e w' => e = .returned (.bool (rightX x)) ∧ Below w.heap.size w w' := by
 obtain ⟨q, hq⟩ : ∃ q, rightX x = q := ⟨_, rfl⟩
 rw [hq]
 obtain ⟨pd, link, rate, greets, psk⟩ := x
 unfold rightX at hq
 unfold portXV
 dsimp only at hq ⊢
 have HB := h_ hq
 clear hq
 go_enter Tryz.func152, Tryz.ntmps152
 cases link with
 | true =>
  by_cases h1 : 1 ≤ rate
  ·
   by_cases h2 : rate ≤ 1000000000
   ·
    go_wp2_with fail
    go_ret
    exact ⟨by rw [show q = true by rw [← HB.out]; simp; omega]; rfl, blw_⟩
   ·
    go_wp2_with fail
    go_ret
    exact ⟨by rw [show q = false by rw [← HB.out]; simp; omega]; rfl, blw_⟩
  ·
   go_wp2_with fail
   go_ret
   exact ⟨by rw [show q = false by rw [← HB.out]; simp; omega]; rfl, blw_⟩
 | false =>
  by_cases h1 : rate = 0
  ·
   subst h1
   cases greets with
   | true =>
    go_wp2_with fail
    go_ret
    exact ⟨by rw [show q = false by rw [← HB.out]; rfl]; rfl, blw_⟩
   | false =>
    go_wp2_with fail
    go_ret
    exact ⟨by rw [← HB.out]; simp, blw_⟩
  ·
   have h1' : (rate == 0) = false := by simpa using h1
   go_wp2_with fail
   go_ret
   exact ⟨by rw [show q = false by rw [← HB.out]; simp; omega]; rfl, blw_⟩
end
section
open Go.RowKit Go.Shelf
def PXOff (S : List Nat) (w : World) (pa : Option Addr) (ps : List PortX) : Prop :=
 ps.length ≤ maxLen ∧ ∀ (i : Nat) (p : PortX), ps[i]? = some p → ∃ b off ta cap, pa = some ⟨b, off, none⟩ ∧ b < w.heap.size ∧ b ∉ S ∧
  (∀ W, blk W b = blk w b → W.rangeAt b (off + i * 39) (portXV ta cap p)) ∧ ElemsOff S w ta 1 (p.p.tagged.map fun v => [Value.int .i64 v])
theorem PXOff.kept {S : List Nat} {w w' : World} {pa : Option Addr} {ps : List PortX} (h : PXOff S w pa ps) (hb : BelowS w.heap.size S w w') : PXOff S w' pa ps := by
 refine ⟨h.1, fun i p hp => ?_⟩
 obtain ⟨b, off, ta, cap, e, hl, hn, hr, ht⟩ := h.2 i p hp
 exact ⟨b, off, ta, cap, e, Nat.lt_of_lt_of_le hl hb.size, hn, fun W hW => hr W (hW.trans (hb.block b hl hn)), ht.kept hb⟩
theorem PXOff.below {S : List Nat} {w w' : World} {pa : Option Addr} {ps : List PortX} (h : PXOff S w pa ps) (hb : Below w.heap.size w w') : PXOff S w' pa ps := h.kept (BelowS.of hb)
theorem PXOff.get {S : List Nat} {w : World} {pa : Option Addr} {ps : List PortX} (h : PXOff S w pa ps) {k : Nat} (hk : k < ps.length) : ∃ b off ta cap, pa = some ⟨b, off, none⟩ ∧ b < w.heap.size ∧
  (∀ W, BelowS w.heap.size S w W → W.rangeAt b (off + k * 39) (portXV ta cap ps[k]) ∧ ElemsOff S W ta 1 (ps[k].p.tagged.map fun v => [Value.int .i64 v])) := by
 obtain ⟨b, off, ta, cap, e, hl, hn, hr, ht⟩ := h.2 k ps[k] (List.getElem?_eq_getElem hk)
 exact ⟨b, off, ta, cap, e, hl, fun W hW => ⟨hr W (hW.block b hl hn), ht.kept hW⟩⟩
theorem px_load {W : World} {b o : Nat} {ta : Option Addr} {cap : Nat} {x : PortX} (h : W.rangeAt b o (portXV ta cap x)) : (loadS 137 (.pointer (some ⟨b, o, none⟩))).run Tryz.prog W = .ok (.agg (portXV ta cap x).toArray) W := run_loadS_at h (by simp [portXV])
def confV (id : Vector UInt8 8) (ma he de ageing : Int) (pa : Option Addr) (n cap : Nat) : List Value := u8v id ++ [Value.int .i64 ma, Value.int .i64 he, Value.int .i64 de, Value.int .i64 ageing, Value.slice pa n cap]
def rightC (ma he de ageing : Int) (ps : List PortX) : Bool := ps.all rightX && newOkB ageing (ps.map (·.p)) && rightT ma he de
theorem okSp_one (ma he de : Int) : okSp [1] ma he de = rightT ma he de := by
 unfold okSp
 simp [badCost]
theorem confRight_any (id : Vector UInt8 8) (ma he de ageing : Int) (pa : Option Addr) (cap : Nat) (ps : List PortX) (w : World) (h : PXOff [] w pa ps) (hn : ps.length ≤ 1000) :
  Calls Tryz.prog 99 #[.agg (confV id ma he de ageing pa ps.length cap).toArray] w fun e w' => e = .returned (.bool (rightC ma he de ageing ps)) ∧ Below w.heap.size w w' := by
 obtain ⟨q, hq⟩ : ∃ q, rightC ma he de ageing ps = q := ⟨_, rfl⟩
 rw [hq]
 have HQ := h_ hq
 clear hq
 have hnI : (ps.length : Int) ≤ 1000 := by omega
 unfold confV
 go_enter Tryz.func99, Tryz.ntmps99
 obtain ⟨w1, hw1⟩ : ∃ x, w.alloc (.cells (u8v id ++ [Value.int .i64 ma, Value.int .i64 he, Value.int .i64 de, Value.int .i64 ageing, Value.slice pa ps.length cap]).toArray 106) = x := ⟨_, rfl⟩
 have b1 : Below w.heap.size w w1 := by rw [← hw1]; exact ba_
 have z1 : w1.heap.size = w.heap.size + 1 := by rw [← hw1, alloc_sizeW]
 have r1 : row w1 w.heap.size = (u8v id ++ [Value.int .i64 ma, Value.int .i64 he, Value.int .i64 de, Value.int .i64 ageing, Value.slice pa ps.length cap]).toArray := by rw [← hw1]; exact row_alloc_at _ _ _ rfl
 go_wp2_with fail
 (try clear hw1)
 have k01 : w.heap.size < w1.heap.size := by omega
 clear z1
 go_loopw [3, 13] (fun u i wr => ∃ (k : Nat) (ppa : Option Addr) (ppc : Nat) (rows : List (List Value)), k ≤ ps.length ∧ i = .int .i64 k ∧ u = .slice ppa k ppc ∧ rows.length = k ∧ OwnL wr w1.heap.size 135 4 (.slice ppa k ppc) rows ∧
  (∀ (q : Nat) (r : PortX), q < k → ps[q]? = some r → rightX r = true ∧ ∃ ta tc, rows[q]? = some (portV ta tc r.p) ∧ ElemsOff [] w ta 1 (r.p.tagged.map fun v => [Value.int .i64 v])) ∧ Below w1.heap.size w1 wr) (fun _ i _ => ps.length - (intOf i).toNat)
 case atStart => exact ⟨0, none, 0, [], by omega, rfl, rfl, rfl, OwnL.nil _ _ _ _, (fun q r hq _ => by omega), Below.refl _ _⟩
 case round =>
  obtain ⟨k, ppa, ppc, rows, hk, rfl, rfl, hrl, hown, hrows, cb⟩ := hrel
  have zb := cb.size
  have cbw : Below w.heap.size w wr := b1.trans (cb.mono (by omega))
  by_cases hlt : k < ps.length
  ·
   have hltI : (k : Int) < (ps.length : Int) := by omega
   obtain ⟨pb, po, ta, tc, rfl, hpb, hrd⟩ := h.get hlt
   obtain ⟨r, hr⟩ : ∃ x, ps[k] = x := ⟨_, rfl⟩
   rw [hr] at hrd
   have hld := px_load (hrd wr (BelowS.of cbw)).1
   have hit := (hrd w (BelowS.of (Below.refl _ _))).2
   obtain ⟨o, ho⟩ : ∃ o, po + k * 39 = o := ⟨_, rfl⟩
   rw [ho] at hld
   have HIT := h_ hit
   have HR := h_ hr
   have HRW := h_ hrows
   have HOW := h_ hown
   have HCR := h_ (fun w => cRight_any ta tc r w)
   clear hrd hit hr hrows hown
   unfold portXV at hld HCR
   obtain ⟨w2, hw2⟩ : ∃ x, wr.alloc (.cells (Value.int .i64 r.p.native :: Value.slice ta r.p.tagged.length tc :: Value.int .i64 r.p.hor :: Value.int .i64 r.p.lim :: Value.bool r.link :: Value.int .i64 r.rate :: Value.bool r.greets :: u8v r.psk).toArray 137) = x := ⟨_, rfl⟩
   have b2 : Below wr.heap.size wr w2 := by rw [← hw2]; exact ba_
   have z2 : w2.heap.size = wr.heap.size + 1 := by rw [← hw2, alloc_sizeW]
   have r2 : row w2 wr.heap.size = (Value.int .i64 r.p.native :: Value.slice ta r.p.tagged.length tc :: Value.int .i64 r.p.hor :: Value.int .i64 r.p.lim :: Value.bool r.link :: Value.int .i64 r.rate :: Value.bool r.greets :: u8v r.psk).toArray := by rw [← hw2]; exact row_alloc_at _ _ _ rfl
   have k2 : wr.heap.size < w2.heap.size := by omega
   clear z2
   go_wp2_with fail
   (try clear hw2)
   (with_reducible refine (HCR.out _).mono ?_)
   rintro e w3 ⟨rfl, b3⟩
   have z3 := b3.size
   have r3 := (row_below b3 k2).trans r2
   have b23 : Below wr.heap.size wr w3 := b2.trans (b3.mono (by omega))
   have cb3 := cb.trans (b23.mono zb)
   have k3 : wr.heap.size < w3.heap.size := by omega
   have k13 : w1.heap.size ≤ w3.heap.size := by omega
   have HO3 := h_ (HOW.out.below b23)
   have B3 : Below w.heap.size w w3 := b1.trans (cb3.mono (by omega))
   clear HCR hld b2 b3 r2
   cases hrx : rightX r with
   | false =>
    have hqf : q = false := by
     rw [← HQ.out]
     unfold rightC
     rw [show ps.all rightX = false from List.all_eq_false.2 ⟨r, HR.out ▸ List.getElem_mem hlt, by rw [hrx]; decide⟩]
     rfl
    go_wp2_with fail
    go_ret
    exact ⟨by rw [hqf]; rfl, B3⟩
   | true =>
    have hle10 : rows.length ≤ 10000 := by omega
    have HL := h_ hle10
    clear hle10
    go_wp2_with (at_builtin; refine wpList_appendL rfl rfl Tryz.underlying175 portInfo (by decide) (by decide) w1.heap.size _ _ rfl HO3.out [Value.int .i64 r.p.native, Value.slice ta r.p.tagged.length tc, Value.int .i64 r.p.hor, Value.int .i64 r.p.lim] rfl rfl rfl HL.out k13 ?_)
    intro v4 w4 hown4 b4 hk4
    obtain ⟨ppa4, ppc4, hv4, _⟩ := hown4.elems
    simp only [List.length_append, List.length_singleton, hrl] at hv4
    subst hv4
    have hrows4 : ∀ (q : Nat) (r' : PortX), q < k + 1 → ps[q]? = some r' → rightX r' = true ∧ ∃ ta' tc', (rows ++ [[Value.int .i64 r.p.native, Value.slice ta r.p.tagged.length tc, Value.int .i64 r.p.hor, Value.int .i64 r.p.lim]])[q]? = some (portV ta' tc' r'.p) ∧ ElemsOff [] w ta' 1 (r'.p.tagged.map fun v => [Value.int .i64 v]) := by
     intro q r' hq hr'
     by_cases hqk : q < k
     ·
      obtain ⟨e0, ta', tc', e1, e2⟩ := HRW.out q r' hqk hr'
      exact ⟨e0, ta', tc', by rw [List.getElem?_append_left (by omega)]; exact e1, e2⟩
     ·
      have hqe : q = k := by omega
      subst hqe
      rw [List.getElem?_eq_getElem hlt, HR.out] at hr'
      cases hr'
      exact ⟨hrx, ta, tc, by rw [List.getElem?_append_right (by omega), hrl, Nat.sub_self]; rfl, HIT.out⟩
    have cb4 := cb3.trans b4
    have H1 := h_ hrows4
    have H2 := h_ hown4
    clear hrows4 hown4 hk4 HO3 HOW HRW
    go_wp2_with fail
    go_roundw
    case rel => exact ⟨k + 1, ppa4, ppc4, _, by omega, by simp, rfl, by simp [hrl], H2.out, H1.out, cb4⟩
    case measure => simp [intOf]; omega
  ·
   obtain rfl : k = ps.length := by omega
   have hltI : ¬ (ps.length : Int) < (ps.length : Int) := by omega
   have hall : ps.all rightX = true := List.all_eq_true.2 fun r hr => by
    obtain ⟨i, hi, e⟩ := List.getElem_of_mem hr
    exact (hrows i r hi (by rw [List.getElem?_eq_getElem hi, e])).1
   have hpo : PortsOff [] wr ppa (ps.map (·.p)) := portsOf hown (by rw [List.length_map]; exact hn) (fun x hx => by cases hx) (by
    intro q p hq
    rw [List.getElem?_map] at hq
    cases hr : ps[q]? with
    | none => rw [hr] at hq; cases hq
    | some r =>
     rw [hr] at hq
     simp only [Option.map_some, Option.some.injEq] at hq
     subst hq
     obtain ⟨_, ta, tc, e1, e2⟩ := hrows q r (List.getElem?_eq_some_iff.1 hr).1 hr
     exact ⟨ta, tc, e1, e2.below cbw⟩)
   have hN := rNew_any ageing ppa ppc (ps.map (·.p)) wr hpo (by rw [List.length_map]; exact hn)
   rw [List.length_map] at hN
   have rC := (row_below cb k01).trans r1
   have HN := h_ hN
   have kC : w.heap.size < wr.heap.size := by omega
   clear hN hpo hown hrows
   go_wp2_with fail
   (with_reducible refine HN.out.mono ?_)
   have hqv : ∀ b, newOkB ageing (ps.map (·.p)) = b → q = (b && rightT ma he de) := fun b hb => by
    rw [← HQ.out]
    unfold rightC
    rw [hall, hb, Bool.true_and]
   have HV := h_ hqv
   clear hqv hall
   rintro e w4 (⟨hno, rfl, b4⟩ | ⟨hno, A, rfl, hnb⟩)
   ·
    have hq2 := HV.out _ hno
    have z4 := (b4).size
    have rC4 := (row_below b4 kC).trans rC
    have B4 : Below w.heap.size w w4 := cbw.trans ((b4).mono (by omega))
    obtain ⟨w5, hw5⟩ : ∃ x, w4.alloc (.cells #[Value.int .i64 1] 3) = x := ⟨_, rfl⟩
    have b5 : Below w4.heap.size w4 w5 := by rw [← hw5]; exact ba_
    have r5 : row w5 w4.heap.size = #[Value.int .i64 1] := by rw [← hw5]; exact row_alloc_at _ _ _ rfl
    have hI5 : IntsAt w5 (some ⟨w4.heap.size, 0, none⟩) [1] := elems_one (x := [Value.int .i64 1]) r5 (by decide)
    have B5 : Below w.heap.size w w5 := B4.trans (b5.mono (by omega))
    have kC4 : w.heap.size < w4.heap.size := by omega
    have rC5 := (row_below b5 kC4).trans rC4
    clear b4 b5 r5 B4 rC z4
    cases hrt : rightT ma he de with
    | true =>
     have hs0 := spNew_ok id (some ⟨w4.heap.size, 0, none⟩) 1 [1] ma he de w5 hI5 (by rw [okSp_one]; exact hrt)
     rw [List.length_singleton] at hs0
     have HS := h_ hs0
     clear hs0
     rw [hrt] at hq2
     go_wp2_with fail
     (try rw [hw5])
     (try clear hw5)
     (with_reducible refine HS.out.mono ?_)
     rintro e w6 ⟨S, s, rfl, _, _, _, _, _, _, b6⟩
     have B6 := B5.trans (b6.mono B5.size)
     go_wp2_with fail
     go_ret
     exact ⟨by rw [hq2]; rfl, B6⟩
    | false =>
     have hs0 := spNew_bad id (some ⟨w4.heap.size, 0, none⟩) 1 [1] ma he de w5 hI5 (by rw [okSp_one]; exact hrt)
     rw [List.length_singleton] at hs0
     have HS := h_ hs0
     clear hs0
     rw [hrt] at hq2
     go_wp2_with fail
     (try rw [hw5])
     (try clear hw5)
     (with_reducible refine HS.out.mono ?_)
     rintro e w6 ⟨rfl, b6⟩
     have B6 := B5.trans (b6.mono B5.size)
     go_wp2_with fail
     go_ret
     exact ⟨by rw [hq2]; rfl, B6⟩
   ·
    have b4 := hnb.below
    clear hnb
    have hq2 := HV.out _ hno
    have z4 := (b4).size
    have rC4 := (row_below b4 kC).trans rC
    have B4 : Below w.heap.size w w4 := cbw.trans ((b4).mono (by omega))
    obtain ⟨w5, hw5⟩ : ∃ x, w4.alloc (.cells #[Value.int .i64 1] 3) = x := ⟨_, rfl⟩
    have b5 : Below w4.heap.size w4 w5 := by rw [← hw5]; exact ba_
    have r5 : row w5 w4.heap.size = #[Value.int .i64 1] := by rw [← hw5]; exact row_alloc_at _ _ _ rfl
    have hI5 : IntsAt w5 (some ⟨w4.heap.size, 0, none⟩) [1] := elems_one (x := [Value.int .i64 1]) r5 (by decide)
    have B5 : Below w.heap.size w w5 := B4.trans (b5.mono (by omega))
    have kC4 : w.heap.size < w4.heap.size := by omega
    have rC5 := (row_below b5 kC4).trans rC4
    clear b4 b5 r5 B4 rC z4
    cases hrt : rightT ma he de with
    | true =>
     have hs0 := spNew_ok id (some ⟨w4.heap.size, 0, none⟩) 1 [1] ma he de w5 hI5 (by rw [okSp_one]; exact hrt)
     rw [List.length_singleton] at hs0
     have HS := h_ hs0
     clear hs0
     rw [hrt] at hq2
     go_wp2_with fail
     (try rw [hw5])
     (try clear hw5)
     (with_reducible refine HS.out.mono ?_)
     rintro e w6 ⟨S, s, rfl, _, _, _, _, _, _, b6⟩
     have B6 := B5.trans (b6.mono B5.size)
     go_wp2_with fail
     go_ret
     exact ⟨by rw [hq2]; rfl, B6⟩
    | false =>
     have hs0 := spNew_bad id (some ⟨w4.heap.size, 0, none⟩) 1 [1] ma he de w5 hI5 (by rw [okSp_one]; exact hrt)
     rw [List.length_singleton] at hs0
     have HS := h_ hs0
     clear hs0
     rw [hrt] at hq2
     go_wp2_with fail
     (try rw [hw5])
     (try clear hw5)
     (with_reducible refine HS.out.mono ?_)
     rintro e w6 ⟨rfl, b6⟩
     have B6 := B5.trans (b6.mono B5.size)
     go_wp2_with fail
     go_ret
     exact ⟨by rw [hq2]; rfl, B6⟩
end
end Go.Proofs.YtfopoijikdmiaaaGreatDoor
