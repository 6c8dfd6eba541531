/- Texts of this proof, merged: RlyA, RlyB, RlyE, RlyF, RlyWC. -/
import Derived.Test.YtckckabedgpbiaaJ50
import Derived.Test.YtckckabedgpbiaaJ51
import Derived.Test.YtckckabedgpbiaaArgsJ
set_option linter.unusedSimpArgs false
set_option linter.unusedVariables false
set_option maxRecDepth 4000
namespace Go.Proofs.Ytckckabedgpbiaa
section
open Go.RowKit Go.Shelf
section
variable {P : Program} {ops : Array Oper} {Q : Exit → Act → World → Prop} {md : Region.Mode} {S : World → Prop}
theorem wpAnyR_op1 (i : Nat) {fuel : Nat} {listed : Array Bool} {a : Act} {w : World} (hr : Region.ready md ops listed = [i])
  (h : ∀ w1, Below w.heap.size w w1 → wpOp P ops Q i (fun a' w' => S w' ∧ wpAnyR P md ops Q S fuel (listed.setIfInBounds i true) a' w') a w1) : wpAnyR P md ops Q S (fuel + 1) listed a w := by
 intro w1 h1
 refine ⟨fun h0 => by rw [hr] at h0; simp at h0, fun j hj => ?_⟩
 rw [hr] at hj
 obtain rfl := List.mem_singleton.1 hj
 exact h w1 h1
end
theorem portsOf {w : World} {B : Nat} {pa : Option Addr} {n cap : Nat} {rows : List (List Value)} {ps : List PortD} (h : OwnL w B 74 4 (.slice pa n cap) rows) (hl : ps.length ≤ 1000)
  (hr : ∀ (q : Nat) (p : PortD), ps[q]? = some p → ∃ ta tc, rows[q]? = some (portV ta tc p) ∧ IntsAt w ta p.tagged) : PortsOff [] w pa ps := by
 obtain ⟨a', c', e, he⟩ := h.elems
 cases e
 refine ⟨by unfold maxLen; omega, fun q p hq => ?_⟩
 obtain ⟨ta, tc, e1, e2⟩ := hr q p hq
 obtain ⟨b, off, e3, hb, hra⟩ := he.2 q _ e1
 refine ⟨b, off, ta, tc, e3, hb, by simp, hra, e2.1, fun i x hx => ?_⟩
 obtain ⟨b', off', e4, hb', hr'⟩ := e2.2 i x hx
 exact ⟨b', off', e4, hb', by simp, hr'⟩
set_option maxRecDepth 20000 in
set_option maxHeartbeats 2000000 in
theorem of22_any (pa : Option Addr) (cap : Nat) (rs : List RPortD) (w : World) (h : RPortsAt w pa rs) (hn : rs.length ≤ 1000) :
  Calls Try.prog 29 #[.slice pa rs.length cap] w fun e w' => (∃ u, e = .returned u ∧ ∃ pa' cap', u = .slice pa' rs.length cap' ∧ PortsOff [] w' pa' (rs.map (·.p))) ∧ Below w.heap.size w w' := by
 have hnI : (rs.length : Int) ≤ 1000 := by omega
 go_enter Try.func29, Try.ntmps29
 go_wp2_with fail
 go_loopw [3, 4] (fun u i wr => ∃ (k : Nat) (ppa : Option Addr) (ppc : Nat) (rows : List (List Value)), k ≤ rs.length ∧ i = .int .i64 k ∧ u = .slice ppa k ppc ∧ rows.length = k ∧ OwnL wr w.heap.size 74 4 (.slice ppa k ppc) rows ∧
  (∀ (q : Nat) (r : RPortD), q < k → rs[q]? = some r → ∃ ta tc, rows[q]? = some (portV ta tc r.p) ∧ IntsAt w ta r.p.tagged) ∧ Below w.heap.size w wr) (fun _ i _ => rs.length - (intOf i).toNat)
 case atStart => exact ⟨0, none, 0, [], by omega, rfl, rfl, rfl, OwnL.nil _ _ _ _, (fun q r hq _ => by omega), Below.refl _ _⟩
 case round =>
  obtain ⟨k, ppa, ppc, rows, hk, rfl, rfl, hrl, hown, hrows, cb⟩ := hrel
  have zb := cb.size
  by_cases hlt : k < rs.length
  ·
   have hltI : (k : Int) < (rs.length : Int) := by omega
   obtain ⟨pb, po, ta, tc, rfl, hpb, hrd⟩ := h.get hlt
   obtain ⟨r, hr⟩ : ∃ x, rs[k] = x := ⟨_, rfl⟩
   rw [hr] at hrd
   have hit : IntsAt w ta r.p.tagged := (hrd w (Below.refl _ _)).2
   have g0 : ∀ W, Below w.heap.size w W → W.cell? ⟨pb, po + k * 5, none⟩ = some (.int .i64 r.p.native) := fun W hW => (hrd W hW).1 0 _ rfl
   have g1 : ∀ W, Below w.heap.size w W → W.cell? ⟨pb, po + k * 5 + 1, none⟩ = some (.slice ta r.p.tagged.length tc) := fun W hW => (hrd W hW).1 1 _ rfl
   have g2 : ∀ W, Below w.heap.size w W → W.cell? ⟨pb, po + k * 5 + 2, none⟩ = some (.int .i64 r.p.hor) := fun W hW => (hrd W hW).1 2 _ rfl
   have g3 : ∀ W, Below w.heap.size w W → W.cell? ⟨pb, po + k * 5 + 3, none⟩ = some (.int .i64 r.p.lim) := fun W hW => (hrd W hW).1 3 _ rfl
   obtain ⟨o, ho⟩ : ∃ o, po + k * 5 = o := ⟨_, rfl⟩
   rw [ho] at g0 g1 g2 g3
   have HIT := Lib.hid hit
   have HR := Lib.hid hr
   have HRW := Lib.hid hrows
   have HOW := Lib.hid hown
   clear hrd hit hr hrows hown
   go_wp2_with fail
   have hG : GrowP fun W => Below w.heap.size w W := grow_base w
   refine wp_region_beginX [] (fun W => Below w.heap.size w W) hG rfl (by simp only [Rws]; (repeat (first | exact trivial | refine ⟨(by first | assumption | (simp [go_sem, *]; done)), (by first | omega | (simp; done) | (simp; omega)), ?_⟩))) (cb) (fun hS => ?_)
   refine sp 0 hG hS ?_
   refine sp 1 hG hS ?_
   refine sp 2 hG hS ?_
   refine sp 3 hG hS ?_
   refine sp 4 hG hS ?_
   refine sp 5 hG hS ?_
   refine sp 6 hG hS ?_
   refine sp 7 hG hS ?_
   refine sp 8 hG hS ?_
   refine sp 9 hG hS ?_
   refine sp 10 hG hS ?_
   refine sp 11 hG hS ?_
   refine sp 12 hG hS ?_
   refine sp 13 hG hS ?_
   refine sp 14 hG hS ?_
   refine sp 15 hG hS ?_
   refine sp 16 hG hS ?_
   refine sp 17 hG hS ?_
   refine sp 18 hG hS ?_
   refine sp 19 hG hS ?_
   refine sp 20 hG hS ?_
   refine sp 21 hG hS ?_
   refine sp 22 hG hS ?_
   refine wpAnyR_op1 23 (by kernel_rfl) (fun u6 hu6 => ?_)
   refine wpOp_step rfl (fun K hK => ?_)
   clear hS
   go_simp
   replace hu6 : Below wr.heap.size wr u6 := below_step (Below.drew (Below.refl _ _)) hu6
   have zu6 := hu6.size
   have cb6 := cb.trans (hu6.mono zb)
   refine hK _ _ ⟨⟨trivial, Below.alloc cb6 (by omega) _⟩, ?_⟩
   clear hK K
   refine wpAnyR_op1 24 (by kernel_rfl) (fun u8 hu8 => ?_)
   have zu8 := hu8.size
   rw [alloc_sizeW] at zu8
   have b38 : Below wr.heap.size wr u8 := (Below.alloc hu6 (by omega) _).trans (hu8.mono (by rw [alloc_sizeW]; omega))
   have cb8 := cb.trans (b38.mono zb)
   have rN8 : row u8 u6.heap.size = #[Value.int .i64 r.p.native, Value.slice ta r.p.tagged.length tc, Value.int .i64 r.p.hor, Value.int .i64 r.p.lim] := by rw [row_below hu8 (by rw [alloc_sizeW]; omega)]; exact row_alloc_at _ _ _ rfl
   refine wpOp_wp (by simp only [List.getElem?_toArray, List.getElem?_cons_succ, List.getElem?_cons_zero]; rfl) rfl ?_
   refine wp_appendL (t := 64) rfl Try.underlying64 portInfo (by decide) (by decide) w.heap.size _ rows rfl (HOW.out.below b38) u6.heap.size 1 [Value.int .i64 r.p.native, Value.slice ta r.p.tagged.length tc, Value.int .i64 r.p.hor, Value.int .i64 r.p.lim] rfl rN8 rfl rfl (by omega) (by omega) ?_
   intro v' u9 hown9 hb9 _
   obtain ⟨ppa2, ppc2, hve2, _⟩ := hown9.elems
   rw [List.length_append, List.length_singleton, hrl] at hve2
   subst hve2
   have cb9 := cb8.trans hb9
   have HO9 := Lib.hid hown9
   clear hown9
   have hS : XS [] (fun W => Below w.heap.size w W) u9 := ⟨trivial, cb9⟩
   refine ⟨hS, ?_⟩
   (try simp only [Act.put, List.setIfInBounds_toArray, List.set_cons_zero, List.set_cons_succ])
   refine sp 25 hG hS ?_
   refine wpAnyR_done (by kernel_rfl) (fun w10 bw10 => ?_) _
   have z9 := cb9.size
   have cb10 := cb9.trans (bw10.mono z9)
   have HO10 := Lib.hid (HO9.out.below bw10)
   have hrows2 : ∀ (q : Nat) (r' : RPortD), q < k + 1 → rs[q]? = some r' → ∃ ta' tc', (rows ++ [[Value.int .i64 r.p.native, Value.slice ta r.p.tagged.length tc, Value.int .i64 r.p.hor, Value.int .i64 r.p.lim]])[q]? = some (portV ta' tc' r'.p) ∧ IntsAt w ta' r'.p.tagged := by
    intro q r' hq hr'
    by_cases hqk : q < k
    ·
     obtain ⟨ta', tc', e1, e2⟩ := HRW.out q r' hqk hr'
     exact ⟨ta', tc', by rw [List.getElem?_append_left (by omega)]; exact e1, e2⟩
    ·
     have hqe : q = k := by omega
     subst hqe
     rw [List.getElem?_eq_getElem hlt, HR.out] at hr'
     cases hr'
     exact ⟨ta, tc, by rw [List.getElem?_append_right (by omega), hrl, Nat.sub_self]; rfl, HIT.out⟩
   have HRW2 := Lib.hid hrows2
   clear hrows2 hS g0 g1 g2 g3 hu6 hu8 b38 rN8 hb9 bw10 HO9
   go_wp2_with fail
   go_roundw
   case rel => exact ⟨k + 1, ppa2, ppc2, _, by omega, by simp, rfl, by simp [hrl], HO10.out, HRW2.out, cb10⟩
   case measure => simp [intOf]; omega
  ·
   obtain rfl : k = rs.length := by omega
   have hltI : ¬ (rs.length : Int) < (rs.length : Int) := by omega
   have HOW := Lib.hid hown
   have HRW := Lib.hid hrows
   clear hown hrows
   go_wp2_with fail
   go_ret
   refine ⟨⟨_, rfl, ppa, ⟨ppc, rfl⟩, portsOf HOW.out (by rw [List.length_map]; exact hn) ?_⟩, cb⟩
   intro q p hq
   rw [List.getElem?_map] at hq
   cases hr : rs[q]? with
   | none => rw [hr] at hq; cases hq
   | some r =>
    rw [hr] at hq
    simp only [Option.map_some, Option.some.injEq] at hq
    subst hq
    obtain ⟨ta, tc, e1, e2⟩ := HRW.out q r (List.getElem?_eq_some_iff.1 hr).1 hr
    exact ⟨ta, tc, e1, e2.below cb⟩
end
section
open Go.RowKit Go.Shelf
structure Act22 where
 d : Nat
 port : Int
 n : Int
 s : List UInt8
def act22C (x : Act22) : List Value := [Value.int .u8 (x.d : Int), Value.int .i64 x.port, Value.int .i64 x.n, Value.string ⟨x.s.toArray⟩]
def Acts22 (w : World) (a : Option Addr) (l : List Act22) : Prop := ElemsAt w a 4 (l.map act22C)
theorem Acts22.below {w w' : World} {a : Option Addr} {l : List Act22} (h : Acts22 w a l) (hb : Below w.heap.size w w') : Acts22 w' a l := ElemsAt.below h hb
theorem Acts22.get {w : World} {a : Option Addr} {l : List Act22} (h : Acts22 w a l) {k : Nat} (hk : k < l.length) : ∃ b off, a = some ⟨b, off, none⟩ ∧ b < w.heap.size ∧ ∀ W, Below w.heap.size w W → W.rangeAt b (off + k * 4) (act22C l[k]) := by
 obtain ⟨b, off, e, hb, hr⟩ := h.2 k (act22C l[k]) (by rw [List.getElem?_map, List.getElem?_eq_getElem hk]; rfl)
 exact ⟨b, off, e, hb, fun W hW => hr W (blk_below hW hb)⟩
def fewP (rs : List RPortD) (acts : List Act22) (w : World) (e : Ending) (w' : World) : Prop := (∃ b, e = .returned (.bool b) ∧ (b = true → rs.length ≤ 40 ∧ acts.length ≤ 60 ∧ ∀ a ∈ acts, a.s.length ≤ 2000)) ∧ w' = w
set_option maxRecDepth 20000 in
set_option maxHeartbeats 1000000 in
theorem few22_any (pa : Option Addr) (cap : Nat) (rs : List RPortD) (aa : Option Addr) (acap : Nat) (acts : List Act22) (w : World) (h : RPortsAt w pa rs) (ha : Acts22 w aa acts) (hs : ∀ a ∈ acts, a.s.length ≤ maxLen) :
  Calls Try.prog 28 #[.slice pa rs.length cap, .slice aa acts.length acap] w fun e w' => fewP rs acts w e w' := by
 have hm := h.1
 have hm2 : (rs.length : Int) ≤ 9223372036854775807 := by unfold maxLen at hm; omega
 have am := ha.1
 rw [List.length_map] at am
 have am2 : (acts.length : Int) ≤ 9223372036854775807 := by unfold maxLen at am; omega
 go_enter Try.func28, Try.ntmps28
 go_wp2_with fail
 go_loopw [5] (fun i wr => ∃ k : Nat, k ≤ rs.length ∧ i = .int .i64 k ∧ wr = w) (fun i _ => rs.length - (intOf i).toNat)
 case atStart => exact ⟨0, by omega, rfl, rfl⟩
 case round =>
  obtain ⟨k, hk, rfl, rfl⟩ := hrel
  by_cases hlt : k < rs.length ∧ k ≤ 40
  ·
   obtain ⟨hlt, h40⟩ := hlt
   have hltI : (k : Int) < (rs.length : Int) := by omega
   have h40I : (k : Int) ≤ 40 := by omega
   obtain ⟨pb, po, ta, tc, rfl, hpb, hrd⟩ := h.get hlt
   obtain ⟨r, hr⟩ : ∃ x, rs[k] = x := ⟨_, rfl⟩
   rw [hr] at hrd
   have htm := (hrd wr (Below.refl _ _)).2.len
   have htm2 : (r.p.tagged.length : Int) ≤ 9223372036854775807 := by unfold maxLen at htm; omega
   have g1 : wr.cell? ⟨pb, po + k * 5 + 1, none⟩ = some (.slice ta r.p.tagged.length tc) := (hrd wr (Below.refl _ _)).1 1 _ rfl
   obtain ⟨o, ho⟩ : ∃ o, po + k * 5 = o := ⟨_, rfl⟩
   rw [ho] at g1
   clear hrd hr
   by_cases hbig : 100 < r.p.tagged.length
   ·
    have hbigI : (100 : Int) < (r.p.tagged.length : Int) := by omega
    go_wp2_with fail
    go_ret
    exact (show fewP _ _ _ _ _ from ⟨⟨false, rfl, fun h => by cases h⟩, rfl⟩)
   ·
    have hbigI : ¬ (100 : Int) < (r.p.tagged.length : Int) := by omega
    go_wp2_with fail
    go_roundw
    case rel => exact ⟨k + 1, by omega, by simp, by first | rfl | trivial⟩
    case measure => simp [intOf]; omega
  ·
   have hout : ¬ (k : Int) < (rs.length : Int) ∨ ((k : Int) < (rs.length : Int) ∧ ¬ (k : Int) ≤ 40) := by
    by_cases h1 : k < rs.length
    ·
     exact .inr ⟨by omega, by omega⟩
    ·
     exact .inl (by omega)
   clear hlt
   rcases hout with h1 | ⟨h1, h2⟩
   all_goals
    go_wp2_with fail
    go_loopw [6] (fun i wq => ∃ q : Nat, q ≤ acts.length ∧ i = .int .i64 q ∧ wq = wr ∧ ∀ (j : Nat) (hj : j < acts.length), j < q → acts[j].s.length ≤ 2000) (fun i _ => acts.length - (intOf i).toNat)
    case atStart => exact ⟨0, by omega, rfl, rfl, fun j _ hj => by omega⟩
    case round =>
     obtain ⟨q, hq, rfl, rfl, hall⟩ := hrel
     have HA := Lib.hid hall
     clear hall
     by_cases hlt : q < acts.length ∧ q ≤ 60
     ·
      obtain ⟨hlt, h60⟩ := hlt
      have hltI : (q : Int) < (acts.length : Int) := by omega
      have h60I : (q : Int) ≤ 60 := by omega
      obtain ⟨ab, ao, rfl, hab, har⟩ := ha.get hlt
      obtain ⟨x, hx⟩ : ∃ x, acts[q] = x := ⟨_, rfl⟩
      rw [hx] at har
      have hsm : x.s.length ≤ maxLen := hs x (by rw [← hx]; exact List.getElem_mem hlt)
      have hsm2 : (x.s.length : Int) ≤ 9223372036854775807 := by unfold maxLen at hsm; omega
      have g1 : wr.cell? ⟨ab, ao + q * 4 + 3, none⟩ = some (.string ⟨x.s.toArray⟩) := har wr (Below.refl _ _) 3 _ rfl
      obtain ⟨o, ho⟩ : ∃ o, ao + q * 4 = o := ⟨_, rfl⟩
      rw [ho] at g1
      have HX := Lib.hid hx
      clear har hx
      by_cases hbig : 2000 < x.s.length
      ·
       have hbigI : (2000 : Int) < (x.s.length : Int) := by omega
       go_wp2_with fail
       go_ret
       exact (show fewP _ _ _ _ _ from ⟨⟨false, rfl, fun h => by cases h⟩, rfl⟩)
      ·
       have hbigI : ¬ (2000 : Int) < (x.s.length : Int) := by omega
       go_wp2_with fail
       go_roundw
       case rel =>
        refine ⟨q + 1, by omega, by simp, by first | rfl | trivial, fun j hj hjq => ?_⟩
        rcases Nat.lt_or_ge j q with h3 | h3
        ·
         exact HA.out j hj h3
        ·
         obtain rfl : j = q := by omega
         rw [HX.out]
         omega
       case measure => simp [intOf]; omega
     ·
      have hout : ¬ (q : Int) < (acts.length : Int) ∨ ((q : Int) < (acts.length : Int) ∧ ¬ (q : Int) ≤ 60) := by
       by_cases h1 : q < acts.length
       ·
        exact .inr ⟨by omega, by omega⟩
       ·
        exact .inl (by omega)
      have hfin : acts.length ≤ 60 → ∀ a ∈ acts, a.s.length ≤ 2000 := fun h6 a haa => by
       obtain ⟨j, hj, rfl⟩ := List.getElem_of_mem haa
       exact HA.out j hj (by omega)
      have HF := Lib.hid hfin
      clear hlt hfin
      rcases hout with h3 | ⟨h3, h4⟩
      all_goals
       by_cases c1 : rs.length ≤ 40
       ·
        have c1I : (rs.length : Int) ≤ 40 := by omega
        by_cases c2 : acts.length ≤ 60
        ·
         have c2I : (acts.length : Int) ≤ 60 := by omega
         go_wp2_with fail
         go_ret
         exact (show fewP _ _ _ _ _ from ⟨⟨true, rfl, fun _ => ⟨c1, c2, HF.out c2⟩⟩, rfl⟩)
        ·
         have c2I : ¬ (acts.length : Int) ≤ 60 := by omega
         go_wp2_with fail
         go_ret
         exact (show fewP _ _ _ _ _ from ⟨⟨false, rfl, fun h => by cases h⟩, rfl⟩)
       ·
        have c1I : ¬ (rs.length : Int) ≤ 40 := by omega
        go_wp2_with fail
        go_ret
        exact (show fewP _ _ _ _ _ from ⟨⟨false, rfl, fun h => by cases h⟩, rfl⟩)
/-! ### the document's example -/
def pA : PortD := ⟨1, [], 0, 5⟩
def lineA : List UInt8 := ethS m2 m4 2048 [] (-1) 0
def brA : BrS := stateS (stateS (newS 10 [pA, pA]) 0 3) 1 3
theorem lineA_parse : ethParse lineA = .ok ⟨m2, m4, 2048, [], -1, 0⟩ := ethParse_print m2 m4 2048 [] (-1) 0 (by decide)
theorem comeA (t : TalkD) (ht : t.ask = none) : (comeS brA 0 lineA t).2 = ([(1, lineA)], 0) := by
 unfold comeS
 rw [lineA_parse]
 obtain ⟨ip, mac, ok, ask⟩ := t
 dsimp only at ht
 subst ht
 rfl
theorem talk_any (dst src : Vector UInt8 6) (ty : Int) (body : List UInt8) (hb : body.length ≤ 10000) : ∃ t, TalkC dst src ty body t ∧ (ty ≠ 2054 ∧ ty ≠ 34525 → t.ask = none) := by
 obtain ⟨ip, mac, ok, hA⟩ := ann_both dst src ty body hb
 rcases asks_any dst src ty body hb with hno | ⟨ipq, ans, hs⟩
 ·
  exact ⟨⟨ip, mac, ok, none⟩, ⟨hA.prog, fun _ => hno, fun _ _ h => by cases h⟩, fun _ => rfl⟩
 ·
  refine ⟨⟨ip, mac, ok, some (ipq, ans)⟩, ⟨hA.prog, (fun h => by cases h), fun a b h => by cases h; exact hs⟩, fun h => ?_⟩
  rcases hs.typ with e | e
  ·
   exact absurd e h.1
  ·
   exact absurd e h.2
end
section
open Go.RowKit Go.Shelf
theorem newG (ageing : Int) (ps : List PortD) (h : newOkB ageing ps = true) : BrG (newS ageing ps) 0 ∧ 0 < ps.length ∧ (∀ p ∈ ps, okPort p = true) ∧ (∀ p ∈ ps, 0 ≤ p.lim ∧ p.lim ≤ 65535) := by
 unfold newOkB newOkL at h
 simp only [Bool.and_eq_true, decide_eq_true_eq, List.length_map, Bool.not_eq_true', List.any_map] at h
 obtain ⟨⟨h1, ⟨⟨⟨h2, h3⟩, h4⟩, h5⟩⟩, h6⟩ := h
 refine ⟨⟨h4, List.Pairwise.nil, (fun b hb => by cases hb), Nat.le_refl _, (fun b hb => by cases hb), List.Pairwise.nil, (fun b hb => by cases hb), by simp [newS], by simp [newS], h2, h3⟩, by omega, fun p hp => List.all_eq_true.1 h1 p hp, fun p hp => ?_⟩
 have := List.any_eq_false.1 h5 p hp
 simp only [Function.comp, badLim, Bool.or_eq_true, decide_eq_true_eq, not_or] at this
 omega
theorem portsA {w : World} {g : Nat} (hr : row w g = #[Value.int .i64 1, Value.slice none 0 0, Value.int .i64 0, Value.int .i64 5, Value.int .i64 1, Value.slice none 0 0, Value.int .i64 0, Value.int .i64 5]) (hg : g < w.heap.size) : PortsOff [] w (some ⟨g, 0, none⟩) [pA, pA] := by
 refine ⟨by simp [maxLen], fun i p hp => ?_⟩
 have hi : i < 2 := (List.getElem?_eq_some_iff.1 hp).1
 have hpA : p = pA := by
  match i, hp with
  | 0, hp => exact (Option.some.inj hp).symm
  | 1, hp => exact (Option.some.inj hp).symm
  | n + 2, hp => simp at hp
 subst hpA
 refine ⟨g, 0, none, 0, rfl, hg, by simp, fun W hW j u hj => ?_, ElemsOff.nil _ _ _ _⟩
 have hjl : j < 4 := (List.getElem?_eq_some_iff.1 hj).1
 have hrW : row W g = _ := (row_of_block hW).trans hr
 rw [cell_of_row' (by rw [hrW]; simp; omega), hrW]
 match i, hi, j, hjl, hj with
 | 0, _, 0, _, hj => exact hj
 | 0, _, 1, _, hj => exact hj
 | 0, _, 2, _, hj => exact hj
 | 0, _, 3, _, hj => exact hj
 | 1, _, 0, _, hj => exact hj
 | 1, _, 1, _, hj => exact hj
 | 1, _, 2, _, hj => exact hj
 | 1, _, 3, _, hj => exact hj
set_option maxRecDepth 20000 in
set_option maxHeartbeats 2000000 in
theorem awake22_any (w : World) : Calls Try.prog 27 #[] w fun e w' => e = .returned (.bool true) ∧ Below w.heap.size w w' := by
 go_enter Try.func27, Try.ntmps27
 go_wp2_with fail
 refine (rNew_any 10 (some ⟨w.heap.size + 1, 0, none⟩) 2 [pA, pA] _ (portsA ((row_alloc_at _ _ _ (by simp)).trans rfl) (by simp)) (by decide)).mono ?_
 rintro e w1 (⟨h0, _⟩ | ⟨hok, A, rfl, hnb⟩)
 ·
  exact absurd h0 (by decide)
 have z1 := hnb.below.size
 simp only [alloc_sizeW] at z1
 have b1 : Below w.heap.size w w1 := Below.trans (Below.alloc (Below.alloc (Below.refl _ _) (Nat.le_refl _) _) (by rw [alloc_sizeW]; omega) _) (hnb.below.mono (by rw [alloc_sizeW, alloc_sizeW]; omega))
 obtain ⟨g1, _⟩ := newG 10 [pA, pA] hok
 have hlo := hnb.lo
 simp only [alloc_sizeW] at hlo
 have H1 : Calls Try.prog 31 #[.pointer (some ⟨A.B, 0, none⟩), .int .i64 0, .int .i64 3] w1 fun e w' => e = .returned (.int .i64 0) ∧ BelowS w1.heap.size A.muts w1 w' ∧ BrT w' A (stateS (newS 10 [pA, pA]) 0 3) := rState_ok w1 hnb.br 0 3 (by decide) (by decide) (by decide) (by decide) g1.std (by decide)
 have H2 : ∀ W, BrT W A (stateS (newS 10 [pA, pA]) 0 3) → Calls Try.prog 31 #[.pointer (some ⟨A.B, 0, none⟩), .int .i64 1, .int .i64 3] W fun e w' => e = .returned (.int .i64 0) ∧ BelowS W.heap.size A.muts W w' ∧ BrT w' A brA := fun W hW => rState_ok W hW 1 3 (by decide) (by decide) (by decide) (by decide) List.Pairwise.nil (by decide)
 obtain ⟨t, ht, htn⟩ := talk_any m2 m4 2048 [] (by simp)
 have hcA := comeA t (htn (by decide))
 have gA : BrG brA 0 := ⟨by decide, List.Pairwise.nil, (fun b hb => by cases hb), by decide, (fun b hb => by cases hb), List.Pairwise.nil, (fun b hb => by cases hb), by decide, by decide, by decide⟩
 have H3 : ∀ W, BrT W A brA → Calls Try.prog 33 #[.pointer (some ⟨A.B, 0, none⟩), .int .i64 0, .string ⟨lineA.toArray⟩] W fun e w' => (∃ u, e = .returned (.tuple #[u, .int .i64 0]) ∧ OwnL w' W.heap.size 84 2 u [outC (1, lineA)]) ∧ BelowS W.heap.size A.muts W w' ∧ ∃ s, BrT w' A s := fun W hW => by
  have := rCome_any W hW (Nat.zero_le _) gA 0 (by decide) lineA (by decide) t (fun d hd => by rw [lineA_parse] at hd; cases hd; exact ht)
  rw [hcA] at this
  exact this.mono fun e w' ⟨h1, h2, h3⟩ => ⟨h1, h2, _, h3⟩
 have H4 := fun W => ethPrint_any m2 m4 2048 [] (-1) 0 W (by decide)
 rw [show ethS m2 m4 2048 [] (-1) 0 = lineA from rfl] at H4
 obtain ⟨ln, hln⟩ : ∃ x, lineA = x := ⟨_, rfl⟩
 rw [hln] at H3 H4
 have HX1 := Lib.hid H1
 have HX2 := Lib.hid H2
 have HX3 := Lib.hid H3
 have HX4 := Lib.hid H4
 clear H1 H2 H3 H4 hln hcA htn ht gA g1 hok
 go_wp2_with fail
 (with_reducible refine HX1.out.mono ?_)
 rintro e w2 ⟨rfl, b2, t2⟩
 go_wp2_with fail
 (with_reducible refine (HX2.out _ t2).mono ?_)
 rintro e w3 ⟨rfl, b3, t3⟩
 unfold ethV at HX4
 go_wp2_with fail
 (with_reducible refine (HX4.out _).mono ?_)
 rintro e w4 ⟨rfl, b4⟩
 have t4 := t3.below b4
 go_wp2_with fail
 (with_reducible refine (HX3.out _ t4).mono ?_)
 rintro e w5 ⟨⟨u, rfl, hown⟩, b5, _⟩
 obtain ⟨a, c, rfl, hel⟩ := hown.elems
 obtain ⟨ob, oo, rfl, hob, hra⟩ := hel.2 0 _ rfl
 have k0 : w5.cell? ⟨ob, oo, none⟩ = some (.int .i64 1) := hra w5 rfl 0 _ rfl
 have k1 : w5.cell? ⟨ob, oo + 1, none⟩ = some (.string ⟨ln.toArray⟩) := hra w5 rfl 1 _ rfl
 have hB : Below w.heap.size w w5 := by
  have hmu : ∀ x ∈ A.muts, w.heap.size ≤ x := by
   intro x hx
   have := hlo x (by simp only [BrA.muts, List.mem_cons, List.not_mem_nil, or_false] at hx ⊢; omega)
   omega
  have q2 := b2.below (B' := w.heap.size) b1.size hmu
  have q3 := b3.below (B' := w.heap.size) (Nat.le_trans b1.size b2.size) hmu
  have s3 : w.heap.size ≤ w3.heap.size := Nat.le_trans b1.size (Nat.le_trans b2.size b3.size)
  have q5 := b5.below (B' := w.heap.size) (Nat.le_trans s3 b4.size) hmu
  exact (((b1.trans q2).trans q3).trans (b4.mono s3)).trans q5
 clear hown hel hra hob
 go_wp2_with fail
 go_ret
 exact ⟨rfl, hB⟩
end
section
open Go.RowKit Go.Shelf
def sJ (ageing : Int) (ps : List PortD) (f : Nat → Int) (j : Nat) : BrS := { newS ageing ps with states := (List.range ps.length).map fun i => if i < j then f i else 0 }
theorem sJ_zero (ageing : Int) (ps : List PortD) (f : Nat → Int) : sJ ageing ps f 0 = newS ageing ps := by
 have : (List.range ps.length).map (fun i => if i < 0 then f i else 0) = List.replicate ps.length 0 := by
  apply List.ext_getElem
  ·
   simp
  ·
   intro i h1 h2
   simp
 unfold sJ
 rw [this]
 rfl
theorem sJ_step (ageing : Int) (ps : List PortD) (f : Nat → Int) {j : Nat} (hj : j < ps.length) : stateS (sJ ageing ps f j) j (f j) = sJ ageing ps f (j + 1) := by
 unfold stateS sJ newS
 simp only [BrS.mk.injEq, true_and, and_true]
 refine ⟨?_, by split <;> rfl⟩
 apply List.ext_getElem
 ·
  simp
 ·
  intro i h1 h2
  simp only [List.length_map, List.length_range] at h2
  rw [List.getElem_set]
  simp only [List.getElem_map, List.getElem_range]
  by_cases e : j = i
  ·
   subst e; simp
  ·
   rw [if_neg e]
   by_cases h3 : i < j
   ·
    rw [if_pos h3, if_pos (by omega)]
   ·
    rw [if_neg h3, if_neg (by omega)]
theorem sJ_good (ageing : Int) (ps : List PortD) (f : Nat → Int) (j : Nat) (h : newOkB ageing ps = true) : BrG (sJ ageing ps f j) 0 := by
 have g := (newG ageing ps h).1
 exact ⟨g.n32, List.Pairwise.nil, (fun b hb => by cases hb), Nat.le_refl _, (fun b hb => by cases hb), List.Pairwise.nil, (fun b hb => by cases hb), g.bin, g.cs, g.age⟩
theorem stateS_good {s : BrS} {N : Nat} (g : BrG s N) (k : Nat) (x : Int) : BrG (stateS s k x) N := by
 have hsub : ∀ b ∈ (stateS s k x).st, b ∈ s.st := by
  intro b hb
  unfold stateS at hb
  dsimp only at hb
  by_cases hx : x = 0
  ·
   rw [if_pos hx] at hb
   exact (List.mem_filter.1 hb).1
  ·
   rw [if_neg hx] at hb
   exact hb
 refine ⟨g.n32, ?_, fun b hb => g.stp b (hsub b hb), ?_, fun b hb => g.sta b (hsub b hb), g.bid, g.bia, g.bin, g.cs, g.age⟩
 ·
  unfold stateS
  dsimp only
  by_cases hx : x = 0
  ·
   rw [if_pos hx]; exact g.std.filter _
  ·
   rw [if_neg hx]; exact g.std
 ·
  unfold stateS
  dsimp only
  by_cases hx : x = 0
  ·
   rw [if_pos hx]; exact Nat.le_trans (List.length_filter_le _ _) g.stn
  ·
   rw [if_neg hx]; exact g.stn
theorem rat_mod (n k : Nat) (hk : 0 < k) : ((n : Int)).tmod (k : Int) = ((n % k : Nat) : Int) := by
 rw [Int.tmod_eq_emod_of_nonneg (by omega)]
 omega
theorem Acts22.nil (w : World) (a : Option Addr) : Acts22 w a [] := by
 unfold Acts22
 exact ElemsAt.nil _ _ _
theorem few22_nil (pa : Option Addr) (cap : Nat) (rs : List RPortD) (w : World) (h : RPortsAt w pa rs) :
  Calls Try.prog 28 #[.slice pa rs.length cap, .slice none 0 0] w fun e w' => (∃ b, e = .returned (.bool b) ∧ (b = true → rs.length ≤ 40)) ∧ w' = w := by
 have := few22_any pa cap rs none 0 ([] : List Act22) w h (Acts22.nil _ _) (fun a ha => absurd ha List.not_mem_nil)
 exact this.mono fun e w' ⟨⟨b, h1, h2⟩, h3⟩ => ⟨⟨b, h1, fun hb => (h2 hb).1⟩, h3⟩
def m27 : Vector UInt8 6 := #v[2, 7, 0, 0, 0, 0]
theorem lo_muts {w : World} {A : BrA} (h : ∀ b ∈ [A.B, A.SB, A.LT, A.LM, A.HT, A.HM], w.heap.size ≤ b) : ∀ x ∈ A.muts, w.heap.size ≤ x := by
 intro x hx
 refine h x ?_
 simp only [BrA.muts, List.mem_cons, List.not_mem_nil, or_false] at hx ⊢
 omega
end
section
open Go.RowKit Go.Shelf
theorem comeCtl (s : BrS) (k : Nat) (body : List UInt8) (hb : body.length ≤ 1500) (t : TalkD) : comeS s k (ethS bpduTo m27 0 body (-1) 0) t = ({ s with c1 := s.c1 + 1 }, [], 0) := by
 unfold comeS
 rw [ethParse_print bpduTo m27 0 body (-1) 0 (by simp [rightB]; omega)]
 dsimp only
 unfold comeD
 have h1 : grp m27 = false := by decide
 have h2 : (bpduTo == bpduTo) = true := by decide
 dsimp only
 rw [h1, h2]
 rfl
set_option maxRecDepth 20000 in
set_option maxHeartbeats 4000000 in
theorem relayControl_any (pa : Option Addr) (cap : Nat) (rs : List RPortD) (at_ : Nat) (body : List UInt8) (st : Nat) (w : World) (h : RPortsAt w pa rs) (hat : at_ < 256) (hst : st < 256) (hbm : body.length ≤ maxLen) :
  Calls Try.prog 9 #[.slice pa rs.length cap, .int .u8 (at_ : Int), .string ⟨body.toArray⟩, .int .u8 (st : Int)] w fun e w' => e = .returned (.bool true) ∧ Below w.heap.size w w' := by
 have hm := h.1
 have hm2 : (rs.length : Int) ≤ 9223372036854775807 := by unfold maxLen at hm; omega
 have hbm2 : (body.length : Int) ≤ 9223372036854775807 := by unfold maxLen at hbm; omega
 go_enter Try.func9, Try.ntmps9
 go_wp2_with fail
 (with_reducible refine (awake22_any _).mono ?_)
 rintro e w1 ⟨rfl, b1⟩
 have h1 := h.below b1
 have z1 := b1.size
 go_wp2_with fail
 (with_reducible refine (few22_nil pa cap rs _ h1).mono ?_)
 rintro e w2 hfew
 obtain ⟨⟨fb, rfl, hfb⟩, rfl⟩ := hfew
 cases fb with
 | false =>
  go_wp2_with fail
  (with_reducible refine (awake22_any _).mono ?_)
  rintro e w3 ⟨rfl, b3⟩
  go_wp2_with fail
  go_ret
  exact ⟨rfl, b1.trans (b3.mono z1)⟩
 | true =>
 have h40 := hfb rfl
 clear hfb
 by_cases h0 : rs.length = 0
 ·
  have h00 : (rs.length : Int) = 0 := by omega
  go_wp2_with fail
  (with_reducible refine (awake22_any _).mono ?_)
  rintro e w3 ⟨rfl, b3⟩
  go_wp2_with fail
  go_ret
  exact ⟨rfl, b1.trans (b3.mono z1)⟩
 have h01 : ((rs.length : Int) == 0) = false := by simp; exact fun e => h0 (by rw [e]; rfl)
 have hpos : 0 < rs.length := Nat.pos_of_ne_zero h0
 clear h0
 by_cases hlb : 1500 < body.length
 ·
  have hlbI : (1500 : Int) < (body.length : Int) := by omega
  go_wp2_with fail
  (with_reducible refine (awake22_any _).mono ?_)
  rintro e w3 ⟨rfl, b3⟩
  go_wp2_with fail
  go_ret
  exact ⟨rfl, b1.trans (b3.mono z1)⟩
 have hlbI : ¬ (1500 : Int) < (body.length : Int) := by omega
 have hlb2 : body.length ≤ 1500 := by omega
 clear hlb
 go_wp2_with fail
 (with_reducible refine (of22_any pa cap rs _ h1 (by omega)).mono ?_)
 rintro e w3 ⟨⟨u, rfl, pa', cap', rfl, hpo⟩, b3⟩
 have z3 := b3.size
 have B3 := b1.trans (b3.mono z1)
 have hN := rNew_any 20 pa' cap' (rs.map (·.p)) w3 hpo (by rw [List.length_map]; omega)
 rw [List.length_map] at hN
 have HN := Lib.hid hN
 clear hN
 go_wp2_with fail
 (with_reducible refine HN.out.mono ?_)
 rintro e w4 (⟨_, rfl, b4⟩ | ⟨hok, A, rfl, hnb⟩)
 ·
  go_wp2_with fail
  go_ret
  exact ⟨rfl, B3.trans (b4.mono B3.size)⟩
 have B4 := B3.trans (hnb.below.mono B3.size)
 have hmu := lo_muts hnb.lo
 have hmw : ∀ x ∈ A.muts, w.heap.size ≤ x := fun x hx => Nat.le_trans B3.size (hmu x hx)
 have hbr := hnb.br
 obtain ⟨ps, hps⟩ : ∃ x, rs.map (·.p) = x := ⟨_, rfl⟩
 have hpl : ps.length = rs.length := by rw [← hps, List.length_map]
 rw [hps] at hbr hok
 have hn32 := (newG 20 ps hok).1.n32
 have hn32' : ps.length ≤ 32 := hn32
 have hplI : (rs.length : Int) ≤ 32 := by omega
 have HBR := Lib.hid hbr
 have HOK := Lib.hid hok
 have HMW := Lib.hid hmw
 clear hbr hok hmw hnb hmu HN hps hn32
 go_wp2_with fail
 go_loopw [12] (fun i wr => ∃ j : Nat, j ≤ rs.length ∧ i = .int .i64 j ∧ BrT wr A (sJ 20 ps (fun _ => 3) j) ∧ Below w.heap.size w wr) (fun i _ => rs.length - (intOf i).toNat)
 case atStart => exact ⟨0, by omega, rfl, by rw [sJ_zero]; exact HBR.out, B4⟩
 case round =>
  clear HBR
  obtain ⟨j, hj, rfl, hT, cb⟩ := hrel
  by_cases hlt : j < rs.length
  ·
   have hltI : (j : Int) < (rs.length : Int) := by omega
   have hS := rState_ok wr hT j 3 hn32' (by show j < ps.length; omega) (by decide) (by decide) (sJ_good 20 ps _ j HOK.out).std (by show (0 : Nat) ≤ 1000000; omega)
   rw [sJ_step 20 ps (fun _ => 3) (by omega : j < ps.length)] at hS
   have HS := Lib.hid hS
   clear hS hT
   go_wp2_with fail
   (with_reducible refine HS.out.mono ?_)
   rintro e w5 ⟨rfl, b5, t5⟩
   have HT := Lib.hid t5
   have cb5 := cb.trans (b5.below cb.size HMW.out)
   clear t5 HS
   go_wp2_with fail
   go_roundw
   case rel => exact ⟨j + 1, by omega, by simp, HT.out, cb5⟩
   case measure => simp [intOf]; omega
  ·
   obtain rfl : j = rs.length := by omega
   have hltI : ¬ (rs.length : Int) < (rs.length : Int) := by omega
   obtain ⟨s1, hs1⟩ : ∃ x, sJ 20 ps (fun _ => 3) rs.length = x := ⟨_, rfl⟩
   have g1 : BrG s1 0 := by rw [← hs1]; exact sJ_good 20 ps _ _ HOK.out
   have hs1p : s1.ports.length = rs.length := by rw [← hs1]; exact hpl
   have hs1s : s1.st = [] ∧ s1.c0 = 0 ∧ s1.c1 = 0 ∧ s1.c2 = 0 ∧ s1.c3 = 0 ∧ s1.c4 = 0 := by rw [← hs1]; exact ⟨rfl, rfl, rfl, rfl, rfl, rfl⟩
   rw [hs1] at hT
   clear hs1
   have hkm := rat_mod at_ rs.length hpos
   have hsm := rat_mod st 4 (by decide)
   obtain ⟨k, hk⟩ : ∃ x, at_ % rs.length = x := ⟨_, rfl⟩
   have hkl : k < rs.length := by rw [← hk]; exact Nat.mod_lt _ hpos
   obtain ⟨y, hy⟩ : ∃ x, st % 4 = x := ⟨_, rfl⟩
   have hyl : y < 4 := by rw [← hy]; exact Nat.mod_lt _ (by decide)
   rw [hk] at hkm
   rw [hy] at hsm
   have hsm4 : (st : Int).tmod 4 = (y : Int) := hsm
   clear hk hy hsm
   have hS := rState_ok wr hT k (y : Int) g1.n32 (by omega) (by omega) (by omega) g1.std (by rw [hs1s.1]; simp)
   have HS := Lib.hid hS
   have g2 := stateS_good g1 k (y : Int)
   obtain ⟨s2, hs2⟩ : ∃ x, stateS s1 k (y : Int) = x := ⟨_, rfl⟩
   have hs2p : s2.ports.length = rs.length := by rw [← hs2]; exact hs1p
   have hs2s : s2.st = [] ∧ s2.c0 = 0 ∧ s2.c1 = 0 ∧ s2.c2 = 0 ∧ s2.c3 = 0 ∧ s2.c4 = 0 := by
    rw [← hs2]
    unfold stateS
    dsimp only
    refine ⟨?_, hs1s.2⟩
    rw [hs1s.1]
    split <;> rfl
   rw [hs2] at HS g2
   clear hs2 hS hT
   have HTO := Lib.hid bTo_any
   have hpr : rightB 0 (-1) 0 body.length = true := by simp [rightB]; omega
   have HPR := Lib.hid (fun W => ethPrint_any bpduTo m27 0 body (-1) 0 W hpr)
   unfold ethV at HPR
   obtain ⟨t, ht, _⟩ := talk_any bpduTo m27 0 body (by omega)
   have hC := fun W (hW : BrT W A s2) => rCome_any W hW (Nat.zero_le _) g2 k (by omega) (ethS bpduTo m27 0 body (-1) 0) (by have := (ethS_small bpduTo m27 0 body (-1) 0 hpr).1; omega) t (fun d hd => by rw [ethParse_print bpduTo m27 0 body (-1) 0 hpr] at hd; cases hd; exact ht)
   rw [comeCtl s2 k body hlb2 t] at hC
   have HC := Lib.hid hC
   obtain ⟨ln, hln⟩ : ∃ x, ethS bpduTo m27 0 body (-1) 0 = x := ⟨_, rfl⟩
   rw [hln] at HPR HC
   clear hC ht hpr hln
   go_wp2_with fail
   (with_reducible refine HS.out.mono ?_)
   rintro e w5 ⟨rfl, b5, t5⟩
   have cb5 := cb.trans (b5.below cb.size HMW.out)
   have HT5 := Lib.hid t5
   clear t5 HS b5
   go_wp2_with fail
   (with_reducible refine (HTO.out _).mono ?_)
   rintro e w6 ⟨rfl, b6⟩
   have cb6 := cb5.trans (b6.mono cb5.size)
   have HT6 := Lib.hid (HT5.out.below b6)
   clear HT5 b6
   go_wp2_with fail
   rw [show u8v bpduTo ++ (List.take 1 (u8v m2) ++ Value.int .u8 7 :: (List.drop 2 (u8v m2) ++ [Value.int .i64 0, Value.string ⟨body.toArray⟩, Value.int .i64 (-1), Value.int .i64 0])) = u8v bpduTo ++ (u8v m27 ++ [Value.int .i64 0, Value.string ⟨body.toArray⟩, Value.int .i64 (-1), Value.int .i64 0]) from rfl]
   (with_reducible refine (HPR.out _).mono ?_)
   rintro e w7 ⟨rfl, b7⟩
   have cb7 := cb6.trans (b7.mono cb6.size)
   have HT7 := Lib.hid (HT6.out.below b7)
   clear HT6 b7
   go_wp2_with fail
   (with_reducible refine (HC.out _ HT7.out).mono ?_)
   rintro e w8 ⟨⟨u8_, rfl, hown⟩, b8, t8⟩
   have cb8 := cb7.trans (b8.below cb7.size HMW.out)
   obtain ⟨ua, uc, rfl, _⟩ := hown.elems
   have hs2c1 := hs2s.2.2.1
   have HT8 := Lib.hid t8
   clear t8 b8 HT7 hown
   go_wp2_with fail
   go_loopw [18] (fun i wr => ∃ j : Nat, j ≤ 30 ∧ i = .int .i64 j ∧ BrT wr A { s2 with c1 := s2.c1 + 1 } ∧ Below w.heap.size w wr) (fun i _ => 30 - (intOf i).toNat)
   case atStart => exact ⟨1, by omega, rfl, HT8.out, cb8⟩
   case round =>
    clear HT8
    obtain ⟨j, hj, rfl, hT, cb9⟩ := hrel
    by_cases hlt : j < 30
    ·
     have hltI : (j : Int) < 30 := by omega
     have hF := rFind_any wr hT (j : Int) m27
     have hno : findL (j : Int) m27 ({ s2 with c1 := s2.c1 + 1 } : BrS).st = none := by
      show findL (j : Int) m27 s2.st = none
      rw [hs2s.1]
      rfl
     rw [hno] at hF
     have HF := Lib.hid hF
     have HT := Lib.hid hT
     clear hF hno hT
     go_wp2_with fail
     rw [show List.take 1 (u8v m2) ++ Value.int .u8 7 :: List.drop 2 (u8v m2) = u8v m27 from rfl]
     (with_reducible refine HF.out.mono ?_)
     rintro e w9 ⟨rfl, b9⟩
     have HT9 := Lib.hid (HT.out.below b9)
     have cb10 := cb9.trans (b9.mono cb9.size)
     clear HT b9 HF
     go_wp2_with fail
     go_roundw
     case rel =>
      refine ⟨_, _, _, _, _, _, _, _, _, _, _, _, _, _, _, _, ⟨j + 1, ?_, ?_, HT9.out, cb10⟩, rfl⟩
      ·
       omega
      ·
       simp
     case measure => simp [intOf]; omega
    ·
     obtain rfl : j = 30 := by omega
     rw [show ((30 : Nat) : Int) = 30 from rfl]
     have hK := rCounts_any wr hT
     dsimp only at hK
     rw [hs2s.2.1, hs2s.2.2.1, hs2s.2.2.2.1, hs2s.2.2.2.2.1, hs2s.2.2.2.2.2] at hK
     have HK := Lib.hid hK
     clear hK hT hs2s hs1s hs2c1
     go_wp2_with fail
     (with_reducible refine HK.out.mono ?_)
     rintro e w9 ⟨rfl, b9⟩
     have cb10 := cb9.trans (b9.mono cb9.size)
     have y1 : (zeros 1 (Value.int .i64 0))[0]'(by simp) = .int .i64 0 := rfl
     have y2 : (zeros 3 (Value.int .i64 0))[0]'(by simp) = .int .i64 0 := rfl
     have y3 : (zeros 3 (Value.int .i64 0))[1]'(by simp) = .int .i64 0 := rfl
     have y4 : (zeros 3 (Value.int .i64 0))[2]'(by simp) = .int .i64 0 := rfl
     go_wp2_with fail
     go_ret
     exact ⟨rfl, cb10⟩
end
end Go.Proofs.Ytckckabedgpbiaa
