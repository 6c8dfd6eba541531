/- Texts of this proof, merged: RlyA, RlyB, RlyE, RlyF, RlyG, RlyWA. -/
import Derived.Test.YtckckabedgpbiaaJ50
import Derived.Test.YtckckabedgpbiaaJ51
import Derived.Test.YtckckabedgpbiaaArgsJ
import Derived.Test.YtckckabedgpbiaaJ49
set_option linter.unusedSimpArgs false
set_option linter.unusedVariables false
set_option maxRecDepth 4000
namespace Go.Proofs.Ytckckabedgpbiaa
section
open Go.RowKit Go.Shelf
section
variable {P : Program} {ops : Array Oper} {Q : Exit → Act → World → Prop} {md : Region.Mode} {S : World → Prop}
theorem wpAnyR_op1 (i : Nat) {fuel : Nat} {listed : Array Bool} {a : Act} {w : World} (hr : Region.ready md ops listed = [i])
  (h : ∀ w1, Below w.heap.size w w1 → wpOp P ops Q i (fun a' w' => S w' ∧ wpAnyR P md ops Q S fuel (listed.setIfInBounds i true) a' w') a w1) : wpAnyR P md ops Q S (fuel + 1) listed a w := by
 intro w1 h1
 refine ⟨fun h0 => by rw [hr] at h0; simp at h0, fun j hj => ?_⟩
 rw [hr] at hj
 obtain rfl := List.mem_singleton.1 hj
 exact h w1 h1
end
theorem portsOf {S : List Nat} {w : World} {B : Nat} {pa : Option Addr} {n cap : Nat} {rows : List (List Value)} {ps : List PortD} (h : OwnL w B 74 4 (.slice pa n cap) rows) (hl : ps.length ≤ 1000) (hS : ∀ s ∈ S, s < B)
  (hr : ∀ (q : Nat) (p : PortD), ps[q]? = some p → ∃ ta tc, rows[q]? = some (portV ta tc p) ∧ ElemsOff S w ta 1 (p.tagged.map fun v => [Value.int .i64 v])) : PortsOff S w pa ps := by
 obtain ⟨a', c', e, he⟩ := h.off S (fun s hs => .inl (hS s hs))
 cases e
 refine ⟨by unfold maxLen; omega, fun q p hq => ?_⟩
 obtain ⟨ta, tc, e1, e2⟩ := hr q p hq
 obtain ⟨b, off, e3, hb, hn, hra⟩ := he.2 q _ e1
 exact ⟨b, off, ta, tc, e3, hb, hn, hra, e2⟩
def RPortsOff (S : List Nat) (w : World) (pa : Option Addr) (rs : List RPortD) : Prop :=
 rs.length ≤ maxLen ∧ ∀ (i : Nat) (r : RPortD), rs[i]? = some r → ∃ b off ta cap, pa = some ⟨b, off, none⟩ ∧ b < w.heap.size ∧
  (∀ W, blk W b = blk w b → W.rangeAt b (off + i * 5) (rportV ta cap r)) ∧ ElemsOff S w ta 1 (r.p.tagged.map fun v => [Value.int .i64 v])
theorem RPortsAt.off {w : World} {pa : Option Addr} {rs : List RPortD} (h : RPortsAt w pa rs) (S : List Nat) (hS : ∀ x ∈ S, w.heap.size ≤ x) : RPortsOff S w pa rs := by
 refine ⟨h.1, fun i r hr => ?_⟩
 obtain ⟨b, off, ta, cap, e, hl, hra, ht⟩ := h.2 i r hr
 refine ⟨b, off, ta, cap, e, hl, hra, ht.1, fun q x hx => ?_⟩
 obtain ⟨b', off', e4, hb', hr'⟩ := ht.2 q x hx
 exact ⟨b', off', e4, hb', fun hm => by have := hS b' hm; omega, hr'⟩
theorem RPortsOff.at {S : List Nat} {w : World} {pa : Option Addr} {rs : List RPortD} (h : RPortsOff S w pa rs) : RPortsAt w pa rs := by
 refine ⟨h.1, fun i r hr => ?_⟩
 obtain ⟨b, off, ta, cap, e, hl, hra, ht⟩ := h.2 i r hr
 exact ⟨b, off, ta, cap, e, hl, hra, ht.elems⟩
theorem RPortsOff.below {S : List Nat} {w w' : World} {pa : Option Addr} {rs : List RPortD} (h : RPortsOff S w pa rs) (hb : Below w.heap.size w w') : RPortsOff S w' pa rs := by
 refine ⟨h.1, fun i r hr => ?_⟩
 obtain ⟨b, off, ta, cap, e, hl, hra, ht⟩ := h.2 i r hr
 exact ⟨b, off, ta, cap, e, Nat.lt_of_lt_of_le hl hb.size, fun W hW => hra W (hW.trans (blk_below hb hl)), ht.below hb⟩
theorem RPortsOff.get {S : List Nat} {w : World} {pa : Option Addr} {rs : List RPortD} (h : RPortsOff S w pa rs) {k : Nat} (hk : k < rs.length) : ∃ b off ta cap, pa = some ⟨b, off, none⟩ ∧ b < w.heap.size ∧
  (∀ W, Below w.heap.size w W → W.rangeAt b (off + k * 5) (rportV ta cap rs[k]) ∧ ElemsOff S W ta 1 (rs[k].p.tagged.map fun v => [Value.int .i64 v])) := by
 obtain ⟨b, off, ta, cap, e, hl, hr, ht⟩ := h.2 k rs[k] (List.getElem?_eq_getElem hk)
 exact ⟨b, off, ta, cap, e, hl, fun W hW => ⟨hr W (blk_below hW hl), ht.below hW⟩⟩
set_option maxRecDepth 20000 in
set_option maxHeartbeats 2000000 in
theorem of22X_any (S : List Nat) (pa : Option Addr) (cap : Nat) (rs : List RPortD) (w : World) (h : RPortsOff S w pa rs) (hSl : ∀ s ∈ S, s < w.heap.size) (hn : rs.length ≤ 1000) :
  Calls Try.prog 29 #[.slice pa rs.length cap] w fun e w' => (∃ u, e = .returned u ∧ ∃ pa' cap', u = .slice pa' rs.length cap' ∧ PortsOff S w' pa' (rs.map (·.p))) ∧ Below w.heap.size w w' := by
 have hnI : (rs.length : Int) ≤ 1000 := by omega
 go_enter Try.func29, Try.ntmps29
 go_wp2_with fail
 go_loopw [3, 4] (fun u i wr => ∃ (k : Nat) (ppa : Option Addr) (ppc : Nat) (rows : List (List Value)), k ≤ rs.length ∧ i = .int .i64 k ∧ u = .slice ppa k ppc ∧ rows.length = k ∧ OwnL wr w.heap.size 74 4 (.slice ppa k ppc) rows ∧
  (∀ (q : Nat) (r : RPortD), q < k → rs[q]? = some r → ∃ ta tc, rows[q]? = some (portV ta tc r.p) ∧ ElemsOff S w ta 1 (r.p.tagged.map fun v => [Value.int .i64 v])) ∧ Below w.heap.size w wr) (fun _ i _ => rs.length - (intOf i).toNat)
 case atStart => exact ⟨0, none, 0, [], by omega, rfl, rfl, rfl, OwnL.nil _ _ _ _, (fun q r hq _ => by omega), Below.refl _ _⟩
 case round =>
  obtain ⟨k, ppa, ppc, rows, hk, rfl, rfl, hrl, hown, hrows, cb⟩ := hrel
  have zb := cb.size
  by_cases hlt : k < rs.length
  ·
   have hltI : (k : Int) < (rs.length : Int) := by omega
   obtain ⟨pb, po, ta, tc, rfl, hpb, hrd⟩ := h.get hlt
   obtain ⟨r, hr⟩ : ∃ x, rs[k] = x := ⟨_, rfl⟩
   rw [hr] at hrd
   have hit : ElemsOff S w ta 1 (r.p.tagged.map fun v => [Value.int .i64 v]) := (hrd w (Below.refl _ _)).2
   have g0 : ∀ W, Below w.heap.size w W → W.cell? ⟨pb, po + k * 5, none⟩ = some (.int .i64 r.p.native) := fun W hW => (hrd W hW).1 0 _ rfl
   have g1 : ∀ W, Below w.heap.size w W → W.cell? ⟨pb, po + k * 5 + 1, none⟩ = some (.slice ta r.p.tagged.length tc) := fun W hW => (hrd W hW).1 1 _ rfl
   have g2 : ∀ W, Below w.heap.size w W → W.cell? ⟨pb, po + k * 5 + 2, none⟩ = some (.int .i64 r.p.hor) := fun W hW => (hrd W hW).1 2 _ rfl
   have g3 : ∀ W, Below w.heap.size w W → W.cell? ⟨pb, po + k * 5 + 3, none⟩ = some (.int .i64 r.p.lim) := fun W hW => (hrd W hW).1 3 _ rfl
   obtain ⟨o, ho⟩ : ∃ o, po + k * 5 = o := ⟨_, rfl⟩
   rw [ho] at g0 g1 g2 g3
   have HIT := Lib.hid hit
   have HR := Lib.hid hr
   have HRW := Lib.hid hrows
   have HOW := Lib.hid hown
   clear hrd hit hr hrows hown
   go_wp2_with fail
   have hG : GrowP fun W => Below w.heap.size w W := grow_base w
   refine wp_region_beginX [] (fun W => Below w.heap.size w W) hG rfl (by simp only [Rws]; (repeat (first | exact trivial | refine ⟨(by first | assumption | (simp [go_sem, *]; done)), (by first | omega | (simp; done) | (simp; omega)), ?_⟩))) (cb) (fun hS => ?_)
   refine sp 0 hG hS ?_
   refine sp 1 hG hS ?_
   refine sp 2 hG hS ?_
   refine sp 3 hG hS ?_
   refine sp 4 hG hS ?_
   refine sp 5 hG hS ?_
   refine sp 6 hG hS ?_
   refine sp 7 hG hS ?_
   refine sp 8 hG hS ?_
   refine sp 9 hG hS ?_
   refine sp 10 hG hS ?_
   refine sp 11 hG hS ?_
   refine sp 12 hG hS ?_
   refine sp 13 hG hS ?_
   refine sp 14 hG hS ?_
   refine sp 15 hG hS ?_
   refine sp 16 hG hS ?_
   refine sp 17 hG hS ?_
   refine sp 18 hG hS ?_
   refine sp 19 hG hS ?_
   refine sp 20 hG hS ?_
   refine sp 21 hG hS ?_
   refine sp 22 hG hS ?_
   refine wpAnyR_op1 23 (by kernel_rfl) (fun u6 hu6 => ?_)
   refine wpOp_step rfl (fun K hK => ?_)
   clear hS
   go_simp
   replace hu6 : Below wr.heap.size wr u6 := below_step (Below.drew (Below.refl _ _)) hu6
   have zu6 := hu6.size
   have cb6 := cb.trans (hu6.mono zb)
   refine hK _ _ ⟨⟨trivial, Below.alloc cb6 (by omega) _⟩, ?_⟩
   clear hK K
   refine wpAnyR_op1 24 (by kernel_rfl) (fun u8 hu8 => ?_)
   have zu8 := hu8.size
   rw [alloc_sizeW] at zu8
   have b38 : Below wr.heap.size wr u8 := (Below.alloc hu6 (by omega) _).trans (hu8.mono (by rw [alloc_sizeW]; omega))
   have cb8 := cb.trans (b38.mono zb)
   have rN8 : row u8 u6.heap.size = #[Value.int .i64 r.p.native, Value.slice ta r.p.tagged.length tc, Value.int .i64 r.p.hor, Value.int .i64 r.p.lim] := by rw [row_below hu8 (by rw [alloc_sizeW]; omega)]; exact row_alloc_at _ _ _ rfl
   refine wpOp_wp (by simp only [List.getElem?_toArray, List.getElem?_cons_succ, List.getElem?_cons_zero]; rfl) rfl ?_
   refine wp_appendL (t := 64) rfl Try.underlying64 portInfo (by decide) (by decide) w.heap.size _ rows rfl (HOW.out.below b38) u6.heap.size 1 [Value.int .i64 r.p.native, Value.slice ta r.p.tagged.length tc, Value.int .i64 r.p.hor, Value.int .i64 r.p.lim] rfl rN8 rfl rfl (by omega) (by omega) ?_
   intro v' u9 hown9 hb9 _
   obtain ⟨ppa2, ppc2, hve2, _⟩ := hown9.elems
   rw [List.length_append, List.length_singleton, hrl] at hve2
   subst hve2
   have cb9 := cb8.trans hb9
   have HO9 := Lib.hid hown9
   clear hown9
   have hS : XS [] (fun W => Below w.heap.size w W) u9 := ⟨trivial, cb9⟩
   refine ⟨hS, ?_⟩
   (try simp only [Act.put, List.setIfInBounds_toArray, List.set_cons_zero, List.set_cons_succ])
   refine sp 25 hG hS ?_
   refine wpAnyR_done (by kernel_rfl) (fun w10 bw10 => ?_) _
   have z9 := cb9.size
   have cb10 := cb9.trans (bw10.mono z9)
   have HO10 := Lib.hid (HO9.out.below bw10)
   have hrows2 : ∀ (q : Nat) (r' : RPortD), q < k + 1 → rs[q]? = some r' → ∃ ta' tc', (rows ++ [[Value.int .i64 r.p.native, Value.slice ta r.p.tagged.length tc, Value.int .i64 r.p.hor, Value.int .i64 r.p.lim]])[q]? = some (portV ta' tc' r'.p) ∧ ElemsOff S w ta' 1 (r'.p.tagged.map fun v => [Value.int .i64 v]) := by
    intro q r' hq hr'
    by_cases hqk : q < k
    ·
     obtain ⟨ta', tc', e1, e2⟩ := HRW.out q r' hqk hr'
     exact ⟨ta', tc', by rw [List.getElem?_append_left (by omega)]; exact e1, e2⟩
    ·
     have hqe : q = k := by omega
     subst hqe
     rw [List.getElem?_eq_getElem hlt, HR.out] at hr'
     cases hr'
     exact ⟨ta, tc, by rw [List.getElem?_append_right (by omega), hrl, Nat.sub_self]; rfl, HIT.out⟩
   have HRW2 := Lib.hid hrows2
   clear hrows2 hS g0 g1 g2 g3 hu6 hu8 b38 rN8 hb9 bw10 HO9
   go_wp2_with fail
   go_roundw
   case rel => exact ⟨k + 1, ppa2, ppc2, _, by omega, by simp, rfl, by simp [hrl], HO10.out, HRW2.out, cb10⟩
   case measure => simp [intOf]; omega
  ·
   obtain rfl : k = rs.length := by omega
   have hltI : ¬ (rs.length : Int) < (rs.length : Int) := by omega
   have HOW := Lib.hid hown
   have HRW := Lib.hid hrows
   clear hown hrows
   go_wp2_with fail
   go_ret
   refine ⟨⟨_, rfl, ppa, ⟨ppc, rfl⟩, portsOf HOW.out (by rw [List.length_map]; exact hn) hSl ?_⟩, cb⟩
   intro q p hq
   rw [List.getElem?_map] at hq
   cases hr : rs[q]? with
   | none => rw [hr] at hq; cases hq
   | some r =>
    rw [hr] at hq
    simp only [Option.map_some, Option.some.injEq] at hq
    subst hq
    obtain ⟨ta, tc, e1, e2⟩ := HRW.out q r (List.getElem?_eq_some_iff.1 hr).1 hr
    exact ⟨ta, tc, e1, e2.below cb⟩
end
section
open Go.RowKit Go.Shelf
structure Act22 where
 d : Nat
 port : Int
 n : Int
 s : List UInt8
def act22C (x : Act22) : List Value := [Value.int .u8 (x.d : Int), Value.int .i64 x.port, Value.int .i64 x.n, Value.string ⟨x.s.toArray⟩]
def Acts22 (w : World) (a : Option Addr) (l : List Act22) : Prop := ElemsAt w a 4 (l.map act22C)
theorem Acts22.below {w w' : World} {a : Option Addr} {l : List Act22} (h : Acts22 w a l) (hb : Below w.heap.size w w') : Acts22 w' a l := ElemsAt.below h hb
theorem Acts22.get {w : World} {a : Option Addr} {l : List Act22} (h : Acts22 w a l) {k : Nat} (hk : k < l.length) : ∃ b off, a = some ⟨b, off, none⟩ ∧ b < w.heap.size ∧ ∀ W, Below w.heap.size w W → W.rangeAt b (off + k * 4) (act22C l[k]) := by
 obtain ⟨b, off, e, hb, hr⟩ := h.2 k (act22C l[k]) (by rw [List.getElem?_map, List.getElem?_eq_getElem hk]; rfl)
 exact ⟨b, off, e, hb, fun W hW => hr W (blk_below hW hb)⟩
def fewP (rs : List RPortD) (acts : List Act22) (w : World) (e : Ending) (w' : World) : Prop := (∃ b, e = .returned (.bool b) ∧ (b = true → rs.length ≤ 40 ∧ acts.length ≤ 60 ∧ ∀ a ∈ acts, a.s.length ≤ 2000)) ∧ w' = w
set_option maxRecDepth 20000 in
set_option maxHeartbeats 1000000 in
theorem few22_any (pa : Option Addr) (cap : Nat) (rs : List RPortD) (aa : Option Addr) (acap : Nat) (acts : List Act22) (w : World) (h : RPortsAt w pa rs) (ha : Acts22 w aa acts) (hs : ∀ a ∈ acts, a.s.length ≤ maxLen) :
  Calls Try.prog 28 #[.slice pa rs.length cap, .slice aa acts.length acap] w fun e w' => fewP rs acts w e w' := by
 have hm := h.1
 have hm2 : (rs.length : Int) ≤ 9223372036854775807 := by unfold maxLen at hm; omega
 have am := ha.1
 rw [List.length_map] at am
 have am2 : (acts.length : Int) ≤ 9223372036854775807 := by unfold maxLen at am; omega
 go_enter Try.func28, Try.ntmps28
 go_wp2_with fail
 go_loopw [5] (fun i wr => ∃ k : Nat, k ≤ rs.length ∧ i = .int .i64 k ∧ wr = w) (fun i _ => rs.length - (intOf i).toNat)
 case atStart => exact ⟨0, by omega, rfl, rfl⟩
 case round =>
  obtain ⟨k, hk, rfl, rfl⟩ := hrel
  by_cases hlt : k < rs.length ∧ k ≤ 40
  ·
   obtain ⟨hlt, h40⟩ := hlt
   have hltI : (k : Int) < (rs.length : Int) := by omega
   have h40I : (k : Int) ≤ 40 := by omega
   obtain ⟨pb, po, ta, tc, rfl, hpb, hrd⟩ := h.get hlt
   obtain ⟨r, hr⟩ : ∃ x, rs[k] = x := ⟨_, rfl⟩
   rw [hr] at hrd
   have htm := (hrd wr (Below.refl _ _)).2.len
   have htm2 : (r.p.tagged.length : Int) ≤ 9223372036854775807 := by unfold maxLen at htm; omega
   have g1 : wr.cell? ⟨pb, po + k * 5 + 1, none⟩ = some (.slice ta r.p.tagged.length tc) := (hrd wr (Below.refl _ _)).1 1 _ rfl
   obtain ⟨o, ho⟩ : ∃ o, po + k * 5 = o := ⟨_, rfl⟩
   rw [ho] at g1
   clear hrd hr
   by_cases hbig : 100 < r.p.tagged.length
   ·
    have hbigI : (100 : Int) < (r.p.tagged.length : Int) := by omega
    go_wp2_with fail
    go_ret
    exact (show fewP _ _ _ _ _ from ⟨⟨false, rfl, fun h => by cases h⟩, rfl⟩)
   ·
    have hbigI : ¬ (100 : Int) < (r.p.tagged.length : Int) := by omega
    go_wp2_with fail
    go_roundw
    case rel => exact ⟨k + 1, by omega, by simp, by first | rfl | trivial⟩
    case measure => simp [intOf]; omega
  ·
   have hout : ¬ (k : Int) < (rs.length : Int) ∨ ((k : Int) < (rs.length : Int) ∧ ¬ (k : Int) ≤ 40) := by
    by_cases h1 : k < rs.length
    ·
     exact .inr ⟨by omega, by omega⟩
    ·
     exact .inl (by omega)
   clear hlt
   rcases hout with h1 | ⟨h1, h2⟩
   all_goals
    go_wp2_with fail
    go_loopw [6] (fun i wq => ∃ q : Nat, q ≤ acts.length ∧ i = .int .i64 q ∧ wq = wr ∧ ∀ (j : Nat) (hj : j < acts.length), j < q → acts[j].s.length ≤ 2000) (fun i _ => acts.length - (intOf i).toNat)
    case atStart => exact ⟨0, by omega, rfl, rfl, fun j _ hj => by omega⟩
    case round =>
     obtain ⟨q, hq, rfl, rfl, hall⟩ := hrel
     have HA := Lib.hid hall
     clear hall
     by_cases hlt : q < acts.length ∧ q ≤ 60
     ·
      obtain ⟨hlt, h60⟩ := hlt
      have hltI : (q : Int) < (acts.length : Int) := by omega
      have h60I : (q : Int) ≤ 60 := by omega
      obtain ⟨ab, ao, rfl, hab, har⟩ := ha.get hlt
      obtain ⟨x, hx⟩ : ∃ x, acts[q] = x := ⟨_, rfl⟩
      rw [hx] at har
      have hsm : x.s.length ≤ maxLen := hs x (by rw [← hx]; exact List.getElem_mem hlt)
      have hsm2 : (x.s.length : Int) ≤ 9223372036854775807 := by unfold maxLen at hsm; omega
      have g1 : wr.cell? ⟨ab, ao + q * 4 + 3, none⟩ = some (.string ⟨x.s.toArray⟩) := har wr (Below.refl _ _) 3 _ rfl
      obtain ⟨o, ho⟩ : ∃ o, ao + q * 4 = o := ⟨_, rfl⟩
      rw [ho] at g1
      have HX := Lib.hid hx
      clear har hx
      by_cases hbig : 2000 < x.s.length
      ·
       have hbigI : (2000 : Int) < (x.s.length : Int) := by omega
       go_wp2_with fail
       go_ret
       exact (show fewP _ _ _ _ _ from ⟨⟨false, rfl, fun h => by cases h⟩, rfl⟩)
      ·
       have hbigI : ¬ (2000 : Int) < (x.s.length : Int) := by omega
       go_wp2_with fail
       go_roundw
       case rel =>
        refine ⟨q + 1, by omega, by simp, by first | rfl | trivial, fun j hj hjq => ?_⟩
        rcases Nat.lt_or_ge j q with h3 | h3
        ·
         exact HA.out j hj h3
        ·
         obtain rfl : j = q := by omega
         rw [HX.out]
         omega
       case measure => simp [intOf]; omega
     ·
      have hout : ¬ (q : Int) < (acts.length : Int) ∨ ((q : Int) < (acts.length : Int) ∧ ¬ (q : Int) ≤ 60) := by
       by_cases h1 : q < acts.length
       ·
        exact .inr ⟨by omega, by omega⟩
       ·
        exact .inl (by omega)
      have hfin : acts.length ≤ 60 → ∀ a ∈ acts, a.s.length ≤ 2000 := fun h6 a haa => by
       obtain ⟨j, hj, rfl⟩ := List.getElem_of_mem haa
       exact HA.out j hj (by omega)
      have HF := Lib.hid hfin
      clear hlt hfin
      rcases hout with h3 | ⟨h3, h4⟩
      all_goals
       by_cases c1 : rs.length ≤ 40
       ·
        have c1I : (rs.length : Int) ≤ 40 := by omega
        by_cases c2 : acts.length ≤ 60
        ·
         have c2I : (acts.length : Int) ≤ 60 := by omega
         go_wp2_with fail
         go_ret
         exact (show fewP _ _ _ _ _ from ⟨⟨true, rfl, fun _ => ⟨c1, c2, HF.out c2⟩⟩, rfl⟩)
        ·
         have c2I : ¬ (acts.length : Int) ≤ 60 := by omega
         go_wp2_with fail
         go_ret
         exact (show fewP _ _ _ _ _ from ⟨⟨false, rfl, fun h => by cases h⟩, rfl⟩)
       ·
        have c1I : ¬ (rs.length : Int) ≤ 40 := by omega
        go_wp2_with fail
        go_ret
        exact (show fewP _ _ _ _ _ from ⟨⟨false, rfl, fun h => by cases h⟩, rfl⟩)
/-! ### the document's example -/
def pA : PortD := ⟨1, [], 0, 5⟩
def lineA : List UInt8 := ethS m2 m4 2048 [] (-1) 0
def brA : BrS := stateS (stateS (newS 10 [pA, pA]) 0 3) 1 3
theorem lineA_parse : ethParse lineA = .ok ⟨m2, m4, 2048, [], -1, 0⟩ := ethParse_print m2 m4 2048 [] (-1) 0 (by decide)
theorem comeA (t : TalkD) (ht : t.ask = none) : (comeS brA 0 lineA t).2 = ([(1, lineA)], 0) := by
 unfold comeS
 rw [lineA_parse]
 obtain ⟨ip, mac, ok, ask⟩ := t
 dsimp only at ht
 subst ht
 rfl
theorem talk_any (dst src : Vector UInt8 6) (ty : Int) (body : List UInt8) (hb : body.length ≤ 10000) : ∃ t, TalkC dst src ty body t ∧ (ty ≠ 2054 ∧ ty ≠ 34525 → t.ask = none) := by
 obtain ⟨ip, mac, ok, hA⟩ := ann_both dst src ty body hb
 rcases asks_any dst src ty body hb with hno | ⟨ipq, ans, hs⟩
 ·
  exact ⟨⟨ip, mac, ok, none⟩, ⟨hA.prog, fun _ => hno, fun _ _ h => by cases h⟩, fun _ => rfl⟩
 ·
  refine ⟨⟨ip, mac, ok, some (ipq, ans)⟩, ⟨hA.prog, (fun h => by cases h), fun a b h => by cases h; exact hs⟩, fun h => ?_⟩
  rcases hs.typ with e | e
  ·
   exact absurd e h.1
  ·
   exact absurd e h.2
end
section
open Go.RowKit Go.Shelf
theorem newG (ageing : Int) (ps : List PortD) (h : newOkB ageing ps = true) : BrG (newS ageing ps) 0 ∧ 0 < ps.length ∧ (∀ p ∈ ps, okPort p = true) ∧ (∀ p ∈ ps, 0 ≤ p.lim ∧ p.lim ≤ 65535) := by
 unfold newOkB newOkL at h
 simp only [Bool.and_eq_true, decide_eq_true_eq, List.length_map, Bool.not_eq_true', List.any_map] at h
 obtain ⟨⟨h1, ⟨⟨⟨h2, h3⟩, h4⟩, h5⟩⟩, h6⟩ := h
 refine ⟨⟨h4, List.Pairwise.nil, (fun b hb => by cases hb), Nat.le_refl _, (fun b hb => by cases hb), List.Pairwise.nil, (fun b hb => by cases hb), by simp [newS], by simp [newS], h2, h3⟩, by omega, fun p hp => List.all_eq_true.1 h1 p hp, fun p hp => ?_⟩
 have := List.any_eq_false.1 h5 p hp
 simp only [Function.comp, badLim, Bool.or_eq_true, decide_eq_true_eq, not_or] at this
 omega
theorem portsA {w : World} {g : Nat} (hr : row w g = #[Value.int .i64 1, Value.slice none 0 0, Value.int .i64 0, Value.int .i64 5, Value.int .i64 1, Value.slice none 0 0, Value.int .i64 0, Value.int .i64 5]) (hg : g < w.heap.size) : PortsOff [] w (some ⟨g, 0, none⟩) [pA, pA] := by
 refine ⟨by simp [maxLen], fun i p hp => ?_⟩
 have hi : i < 2 := (List.getElem?_eq_some_iff.1 hp).1
 have hpA : p = pA := by
  match i, hp with
  | 0, hp => exact (Option.some.inj hp).symm
  | 1, hp => exact (Option.some.inj hp).symm
  | n + 2, hp => simp at hp
 subst hpA
 refine ⟨g, 0, none, 0, rfl, hg, by simp, fun W hW j u hj => ?_, ElemsOff.nil _ _ _ _⟩
 have hjl : j < 4 := (List.getElem?_eq_some_iff.1 hj).1
 have hrW : row W g = _ := (row_of_block hW).trans hr
 rw [cell_of_row' (by rw [hrW]; simp; omega), hrW]
 match i, hi, j, hjl, hj with
 | 0, _, 0, _, hj => exact hj
 | 0, _, 1, _, hj => exact hj
 | 0, _, 2, _, hj => exact hj
 | 0, _, 3, _, hj => exact hj
 | 1, _, 0, _, hj => exact hj
 | 1, _, 1, _, hj => exact hj
 | 1, _, 2, _, hj => exact hj
 | 1, _, 3, _, hj => exact hj
set_option maxRecDepth 20000 in
set_option maxHeartbeats 2000000 in
theorem awake22_any (w : World) : Calls Try.prog 27 #[] w fun e w' => e = .returned (.bool true) ∧ Below w.heap.size w w' := by
 go_enter Try.func27, Try.ntmps27
 go_wp2_with fail
 refine (rNew_any 10 (some ⟨w.heap.size + 1, 0, none⟩) 2 [pA, pA] _ (portsA ((row_alloc_at _ _ _ (by simp)).trans rfl) (by simp)) (by decide)).mono ?_
 rintro e w1 (⟨h0, _⟩ | ⟨hok, A, rfl, hnb⟩)
 ·
  exact absurd h0 (by decide)
 have z1 := hnb.below.size
 simp only [alloc_sizeW] at z1
 have b1 : Below w.heap.size w w1 := Below.trans (Below.alloc (Below.alloc (Below.refl _ _) (Nat.le_refl _) _) (by rw [alloc_sizeW]; omega) _) (hnb.below.mono (by rw [alloc_sizeW, alloc_sizeW]; omega))
 obtain ⟨g1, _⟩ := newG 10 [pA, pA] hok
 have hlo := hnb.lo
 simp only [alloc_sizeW] at hlo
 have H1 : Calls Try.prog 31 #[.pointer (some ⟨A.B, 0, none⟩), .int .i64 0, .int .i64 3] w1 fun e w' => e = .returned (.int .i64 0) ∧ BelowS w1.heap.size A.muts w1 w' ∧ BrT w' A (stateS (newS 10 [pA, pA]) 0 3) := rState_ok w1 hnb.br 0 3 (by decide) (by decide) (by decide) (by decide) g1.std (by decide)
 have H2 : ∀ W, BrT W A (stateS (newS 10 [pA, pA]) 0 3) → Calls Try.prog 31 #[.pointer (some ⟨A.B, 0, none⟩), .int .i64 1, .int .i64 3] W fun e w' => e = .returned (.int .i64 0) ∧ BelowS W.heap.size A.muts W w' ∧ BrT w' A brA := fun W hW => rState_ok W hW 1 3 (by decide) (by decide) (by decide) (by decide) List.Pairwise.nil (by decide)
 obtain ⟨t, ht, htn⟩ := talk_any m2 m4 2048 [] (by simp)
 have hcA := comeA t (htn (by decide))
 have gA : BrG brA 0 := ⟨by decide, List.Pairwise.nil, (fun b hb => by cases hb), by decide, (fun b hb => by cases hb), List.Pairwise.nil, (fun b hb => by cases hb), by decide, by decide, by decide⟩
 have H3 : ∀ W, BrT W A brA → Calls Try.prog 33 #[.pointer (some ⟨A.B, 0, none⟩), .int .i64 0, .string ⟨lineA.toArray⟩] W fun e w' => (∃ u, e = .returned (.tuple #[u, .int .i64 0]) ∧ OwnL w' W.heap.size 84 2 u [outC (1, lineA)]) ∧ BelowS W.heap.size A.muts W w' ∧ ∃ s, BrT w' A s := fun W hW => by
  have := rCome_any W hW (Nat.zero_le _) gA 0 (by decide) lineA (by decide) t (fun d hd => by rw [lineA_parse] at hd; cases hd; exact ht)
  rw [hcA] at this
  exact this.mono fun e w' ⟨h1, h2, h3⟩ => ⟨h1, h2, _, h3⟩
 have H4 := fun W => ethPrint_any m2 m4 2048 [] (-1) 0 W (by decide)
 rw [show ethS m2 m4 2048 [] (-1) 0 = lineA from rfl] at H4
 obtain ⟨ln, hln⟩ : ∃ x, lineA = x := ⟨_, rfl⟩
 rw [hln] at H3 H4
 have HX1 := Lib.hid H1
 have HX2 := Lib.hid H2
 have HX3 := Lib.hid H3
 have HX4 := Lib.hid H4
 clear H1 H2 H3 H4 hln hcA htn ht gA g1 hok
 go_wp2_with fail
 (with_reducible refine HX1.out.mono ?_)
 rintro e w2 ⟨rfl, b2, t2⟩
 go_wp2_with fail
 (with_reducible refine (HX2.out _ t2).mono ?_)
 rintro e w3 ⟨rfl, b3, t3⟩
 unfold ethV at HX4
 go_wp2_with fail
 (with_reducible refine (HX4.out _).mono ?_)
 rintro e w4 ⟨rfl, b4⟩
 have t4 := t3.below b4
 go_wp2_with fail
 (with_reducible refine (HX3.out _ t4).mono ?_)
 rintro e w5 ⟨⟨u, rfl, hown⟩, b5, _⟩
 obtain ⟨a, c, rfl, hel⟩ := hown.elems
 obtain ⟨ob, oo, rfl, hob, hra⟩ := hel.2 0 _ rfl
 have k0 : w5.cell? ⟨ob, oo, none⟩ = some (.int .i64 1) := hra w5 rfl 0 _ rfl
 have k1 : w5.cell? ⟨ob, oo + 1, none⟩ = some (.string ⟨ln.toArray⟩) := hra w5 rfl 1 _ rfl
 have hB : Below w.heap.size w w5 := by
  have hmu : ∀ x ∈ A.muts, w.heap.size ≤ x := by
   intro x hx
   have := hlo x (by simp only [BrA.muts, List.mem_cons, List.not_mem_nil, or_false] at hx ⊢; omega)
   omega
  have q2 := b2.below (B' := w.heap.size) b1.size hmu
  have q3 := b3.below (B' := w.heap.size) (Nat.le_trans b1.size b2.size) hmu
  have s3 : w.heap.size ≤ w3.heap.size := Nat.le_trans b1.size (Nat.le_trans b2.size b3.size)
  have q5 := b5.below (B' := w.heap.size) (Nat.le_trans s3 b4.size) hmu
  exact (((b1.trans q2).trans q3).trans (b4.mono s3)).trans q5
 clear hown hel hra hob
 go_wp2_with fail
 go_ret
 exact ⟨rfl, hB⟩
end
section
open Go.RowKit Go.Shelf
def sJ (ageing : Int) (ps : List PortD) (f : Nat → Int) (j : Nat) : BrS := { newS ageing ps with states := (List.range ps.length).map fun i => if i < j then f i else 0 }
theorem sJ_zero (ageing : Int) (ps : List PortD) (f : Nat → Int) : sJ ageing ps f 0 = newS ageing ps := by
 have : (List.range ps.length).map (fun i => if i < 0 then f i else 0) = List.replicate ps.length 0 := by
  apply List.ext_getElem
  ·
   simp
  ·
   intro i h1 h2
   simp
 unfold sJ
 rw [this]
 rfl
theorem sJ_step (ageing : Int) (ps : List PortD) (f : Nat → Int) {j : Nat} (hj : j < ps.length) : stateS (sJ ageing ps f j) j (f j) = sJ ageing ps f (j + 1) := by
 unfold stateS sJ newS
 simp only [BrS.mk.injEq, true_and, and_true]
 refine ⟨?_, by split <;> rfl⟩
 apply List.ext_getElem
 ·
  simp
 ·
  intro i h1 h2
  simp only [List.length_map, List.length_range] at h2
  rw [List.getElem_set]
  simp only [List.getElem_map, List.getElem_range]
  by_cases e : j = i
  ·
   subst e; simp
  ·
   rw [if_neg e]
   by_cases h3 : i < j
   ·
    rw [if_pos h3, if_pos (by omega)]
   ·
    rw [if_neg h3, if_neg (by omega)]
theorem sJ_good (ageing : Int) (ps : List PortD) (f : Nat → Int) (j : Nat) (h : newOkB ageing ps = true) : BrG (sJ ageing ps f j) 0 := by
 have g := (newG ageing ps h).1
 exact ⟨g.n32, List.Pairwise.nil, (fun b hb => by cases hb), Nat.le_refl _, (fun b hb => by cases hb), List.Pairwise.nil, (fun b hb => by cases hb), g.bin, g.cs, g.age⟩
theorem rat_mod (n k : Nat) (hk : 0 < k) : ((n : Int)).tmod (k : Int) = ((n % k : Nat) : Int) := by
 rw [Int.tmod_eq_emod_of_nonneg (by omega)]
 omega
theorem Acts22.nil (w : World) (a : Option Addr) : Acts22 w a [] := by
 unfold Acts22
 exact ElemsAt.nil _ _ _
theorem few22_nil (pa : Option Addr) (cap : Nat) (rs : List RPortD) (w : World) (h : RPortsAt w pa rs) :
  Calls Try.prog 28 #[.slice pa rs.length cap, .slice none 0 0] w fun e w' => (∃ b, e = .returned (.bool b) ∧ (b = true → rs.length ≤ 40)) ∧ w' = w := by
 have := few22_any pa cap rs none 0 ([] : List Act22) w h (Acts22.nil _ _) (fun a ha => absurd ha List.not_mem_nil)
 exact this.mono fun e w' ⟨⟨b, h1, h2⟩, h3⟩ => ⟨⟨b, h1, fun hb => (h2 hb).1⟩, h3⟩
theorem lo_muts {w : World} {A : BrA} (h : ∀ b ∈ [A.B, A.SB, A.LT, A.LM, A.HT, A.HM], w.heap.size ≤ b) : ∀ x ∈ A.muts, w.heap.size ≤ x := by
 intro x hx
 refine h x ?_
 simp only [BrA.muts, List.mem_cons, List.not_mem_nil, or_false] at hx ⊢
 omega
end
section
open Go.RowKit Go.Shelf
def evenM (src : Vector UInt8 6) : Vector UInt8 6 := src.set 0 (src[0] &&& 254)
theorem evenM_grp (src : Vector UInt8 6) : grp (evenM src) = false := by
 have h : ∀ b : Fin 256, ((UInt8.ofNat b.val &&& 254).toNat % 2 == 1) = false := by decide +kernel
 have := h ⟨src[0].toNat, src[0].toNat_lt⟩
 simp only [UInt8.ofNat_toNat] at this
 unfold grp evenM
 rw [Vector.getElem_set_self]
 exact this
theorem and_254 (b : UInt8) : bits .and .u8 (b.toNat : Int) 254 = ((b &&& 254).toNat : Int) := by
 have h : ∀ n : Fin 256, bits .and .u8 (n.val : Int) 254 = ((UInt8.ofNat n.val &&& 254).toNat : Int) := by decide +kernel
 have := h ⟨b.toNat, b.toNat_lt⟩
 simpa using this
theorem flat_at {f : Nat → List (Nat × List UInt8)} (hf : ∀ i, f i = [] ∨ ∃ x, f i = [(i, x)]) {n i : Nat} (hi : i < n) (hne : f i ≠ []) : ∃ x, ((List.range n).flatMap f)[((List.range i).flatMap f).length]? = some (i, x) := by
 obtain ⟨x, hx⟩ : ∃ x, f i = [(i, x)] := by
  rcases hf i with h | h
  ·
   exact absurd h hne
  ·
   exact h
 obtain ⟨m, hm⟩ : ∃ m, n = i + 1 + m := ⟨n - (i + 1), by omega⟩
 refine ⟨x, ?_⟩
 rw [hm, List.range_add, List.flatMap_append, List.range_succ, List.flatMap_append]
 have : List.flatMap f [i] = [(i, x)] := by simp [hx]
 rw [this, List.append_assoc, List.getElem?_append_right (Nat.le_refl _), Nat.sub_self]
 rfl
theorem printed_one {p : PortD} {k : Nat} {v : Int} {dst src : Vector UInt8 6} {body : List UInt8} {prio : Int} (hb : body.length ≤ 1500) (hm : memberP p.native p.tagged v = true) (hp0 : 0 ≤ prio) (hp7 : prio ≤ 7) : ∃ x, printedS p k v dst src 2048 body prio = [(k, x)] := by
 unfold printedS
 have hv := member_range hm
 have hr : rightB 2048 (outP p.native v prio).1 (outP p.native v prio).2 body.length = true := by
  unfold outP
  by_cases e : v = p.native
  ·
   rw [if_pos e]
   simp [rightB]
   omega
  ·
   rw [if_neg e]
   simp [rightB]
   omega
 rw [if_pos hr]
 exact ⟨_, rfl⟩
def allF (bs : List Nat) (k : Nat) (i : Nat) : Int := if i < bs.length ∧ i ≠ k then ((bs.getD i 0 % 4 : Nat) : Int) else 3
theorem comeAll (s : BrS) (k : Nat) (src : Vector UInt8 6) (hsrc : grp src = false) (hst : s.states.getD k 0 = 3) (hok : okPort (s.port k) = true) (t : TalkD) (ht : t.ask = none) :
  (comeS s k (ethS allOnes src 2048 [] (-1) 0) t).2 = if (s.port k).native = 0 then ([], 7) else ((List.range s.ports.length).flatMap fun i => if mayB s k i (s.port k).native (s.port k).hor then printedS (s.ports.getD i ⟨0, [], 0, 0⟩) i (s.port k).native allOnes src 2048 [] 0 else [], 0) := by
 unfold comeS
 rw [ethParse_print allOnes src 2048 [] (-1) 0 (by decide)]
 dsimp only
 unfold comeD
 have h1 : (allOnes == bpduTo) = false := by decide
 have hin : inP (s.port k).native (s.port k).tagged (-1) = if (s.port k).native = 0 then (0, 12) else ((s.port k).native, 0) := by
  unfold inP
  dsimp only
  rw [if_pos (Or.inl rfl)]
  have hr : rightP (s.port k).native (s.port k).tagged = true := by
   unfold okPort at hok
   simp only [Bool.and_eq_true] at hok
   exact hok.1.1
  unfold memberP
  rw [hr]
  by_cases h0 : (s.port k).native = 0
  ·
   rw [h0]; rfl
  ·
   simp [h0]
 dsimp only
 rw [hsrc, h1, hin, hst]
 by_cases h0 : (s.port k).native = 0
 ·
  rw [if_pos h0, if_pos h0]
  rfl
 ·
  rw [if_neg h0, if_neg h0]
  have ha : ∀ v bi, askS v t bi = none := fun v bi => by unfold askS; rw [ht]
  simp only [ha, Bool.false_eq_true, if_false]
  have hx : (decide ((3 : Int) < 2) || ((0 : Int) != 0)) = false := by decide
  have hy : ¬ (3 : Int) < 3 := by decide
  simp only [hx, Bool.false_eq_true, if_false, if_neg hy]
  unfold relayedS
  refine Prod.ext ?_ rfl
  show List.flatMap _ _ = List.flatMap _ _
  congr 1
  funext i
  unfold relF goesTo
  have hg : grp allOnes = true := by decide
  rw [hg, Bool.true_or, Bool.and_true]
  rfl
theorem evenM_cells (mac : Vector UInt8 6) : (u8v mac).set 0 (Value.int .u8 ((mac[0] &&& 254).toNat : Int)) = u8v (evenM mac) := by
 simp only [u8v, u8s, evenM, Vector.toList_set, List.map_set]
theorem allF_range (bs : List Nat) (k i : Nat) : 0 ≤ allF bs k i ∧ allF bs k i ≤ 3 := by
 unfold allF
 split <;> omega
def stC (f : Nat → Int) (n j : Nat) : Array Value := ints ((List.range n).map fun i => if i < j then f i else 0)
@[simp, go_sem] theorem stC_size (f : Nat → Int) (n j : Nat) : (stC f n j).size = n := by simp [stC, ints]
theorem stC_get (f : Nat → Int) {n j i : Nat} (hi : i < j) (hj : j ≤ n) : (stC f n j)[i]? = some (.int .i64 (f i)) := by
 unfold stC ints
 rw [List.getElem?_toArray, List.getElem?_map, List.getElem?_map, List.getElem?_range (by omega)]
 simp [hi]
theorem stC_step (f : Nat → Int) {n j : Nat} (hj : j < n) : (stC f n j).setIfInBounds j (.int .i64 (f j)) = stC f n (j + 1) := by
 unfold stC ints
 rw [List.setIfInBounds_toArray]
 congr 1
 apply List.ext_getElem
 ·
  simp
 ·
  intro i h1 h2
  simp only [List.length_map, List.length_range] at h2
  rw [List.getElem_set]
  simp only [List.getElem_map, List.getElem_range]
  by_cases e : j = i
  ·
   subst e; simp
  ·
   rw [if_neg e]
   by_cases h3 : i < j
   ·
    rw [if_pos h3, if_pos (by omega)]
   ·
    rw [if_neg h3, if_neg (by omega)]
theorem stC_zero (f : Nat → Int) (n : Nat) : stC f n 0 = (zeros n (.int .i64 0)).toArray := by
 unfold stC ints zeros
 congr 1
 apply List.ext_getElem
 ·
  simp
 ·
  intro i h1 h2
  simp
theorem PortsOff.nil {S : List Nat} {w : World} {pa : Option Addr} {ps : List PortD} (h : PortsOff S w pa ps) : PortsOff [] w pa ps := by
 refine ⟨h.1, fun i p hp => ?_⟩
 obtain ⟨b, off, ta, cap, e, hl, hn, hr, ht⟩ := h.2 i p hp
 refine ⟨b, off, ta, cap, e, hl, List.not_mem_nil, hr, ht.1, fun q x hx => ?_⟩
 obtain ⟨b', off', e', hl', _, hr'⟩ := ht.2 q x hx
 exact ⟨b', off', e', hl', List.not_mem_nil, hr'⟩
theorem PortsOff.getS {S : List Nat} {w : World} {pa : Option Addr} {ps : List PortD} (h : PortsOff S w pa ps) {k : Nat} (hk : k < ps.length) : ∃ b off ta cap, pa = some ⟨b, off, none⟩ ∧ b < w.heap.size ∧
  (∀ W, BelowS w.heap.size S w W → W.rangeAt b (off + k * 4) (portV ta cap ps[k]) ∧ IntsAt W ta ps[k].tagged) := by
 obtain ⟨b, off, ta, cap, e, hl, hn, hr, ht⟩ := h.2 k ps[k] (List.getElem?_eq_getElem hk)
 exact ⟨b, off, ta, cap, e, hl, fun W hW => ⟨hr W (hW.block b hl hn), (ht.kept hW).elems⟩⟩
theorem rNewX2_any (ageing : Int) (pa : Option Addr) (pcap : Nat) (ps : List PortD) (w : World) (xs : List Nat) (hxs : ∀ x ∈ xs, x < w.heap.size) (h : PortsOff [] w pa ps) (hn : ps.length ≤ 1000) :
  Calls Try.prog 30 #[.slice pa ps.length pcap, .int .i64 ageing] w fun e w' =>
   (newOkB ageing ps = false ∧ e = .returned (.tuple #[.pointer none, .int .i64 1]) ∧ Below w.heap.size w w') ∨
   (newOkB ageing ps = true ∧ ∃ A, e = .returned (.tuple #[.pointer (some ⟨A.B, 0, none⟩), .int .i64 0]) ∧ NewB w w' A ageing ps ∧ A.ex = w'.heap.size :: xs ∧ ∀ x ∈ [A.B, A.SB, A.LT, A.LM, A.HT, A.HM], x < w'.heap.size) :=
 (rNewX_any ageing pa pcap ps w xs hxs h hn).mono fun e w' h => h.imp id fun ⟨h1, A, h2, h3, h4⟩ => ⟨h1, { A with ex := w'.heap.size :: A.ex }, h2, ⟨h3.below, h3.br.more _ (Nat.le_refl _), h3.lo⟩, by rw [h4], by
  obtain ⟨l1, l2, l3, l4, l5, l6⟩ := h3.br.lts
  intro x hx
  simp only [List.mem_cons, List.not_mem_nil, or_false] at hx
  rcases hx with rfl | rfl | rfl | rfl | rfl | rfl <;> assumption⟩
theorem rStateJ_any {ageing : Int} {ps : List PortD} {f : Nat → Int} {j : Nat} {A : BrA} (W : World) (hok : newOkB ageing ps = true) (hj : j < ps.length) (h0 : 0 ≤ f j) (h3 : f j ≤ 3) (hW : BrT W A (sJ ageing ps f j)) :
  Calls Try.prog 31 #[.pointer (some ⟨A.B, 0, none⟩), .int .i64 (j : Int), .int .i64 (f j)] W fun e w' => e = .returned (.int .i64 0) ∧ BelowS W.heap.size A.muts W w' ∧ BrT w' A (sJ ageing ps f (j + 1)) := by
 have h := rState_ok W hW j (f j) (newG ageing ps hok).1.n32 hj h0 h3 (sJ_good ageing ps _ j hok).std (Nat.zero_le _)
 rw [sJ_step ageing ps f hj] at h
 exact h
theorem mayB_at {s : BrS} {k j : Nat} {v hz q : Int} (hj : j < s.ports.length) (hst : s.states.getD j 0 = q) : mayB s k j v hz = ((k != j) && (q == 3) && memberP s.ports[j].native s.ports[j].tagged v && (hz == 0 || s.ports[j].hor != hz)) := by
 unfold mayB
 simp only [hst, List.getD_eq_getElem?_getD, List.getElem?_eq_getElem hj, Option.getD_some]
theorem allF_one {s : BrS} {k : Nat} {v hz : Int} {src : Vector UInt8 6} {c : Prop} [Decidable c] (i : Nat) :
  (if c ∧ mayB s k i v hz = true then printedS (s.ports.getD i ⟨0, [], 0, 0⟩) i v allOnes src 2048 [] 0 else []) = [] ∨ ∃ x, (if c ∧ mayB s k i v hz = true then printedS (s.ports.getD i ⟨0, [], 0, 0⟩) i v allOnes src 2048 [] 0 else []) = [(i, x)] := by
 by_cases h : c ∧ mayB s k i v hz = true
 ·
  rw [if_pos h]
  right
  have hm := h.2
  unfold mayB at hm
  simp only [Bool.and_eq_true] at hm
  exact printed_one (by simp) hm.1.2 (by decide) (by decide)
 ·
  left
  rw [if_neg h]
theorem flat_len (F : Nat → List (Nat × List UInt8)) (j : Nat) : ((List.range (j + 1)).flatMap F).length = ((List.range j).flatMap F).length + (F j).length := by
 rw [List.range_succ, List.flatMap_append, List.length_append]
 simp
end
section
open Go.RowKit Go.Shelf
set_option maxRecDepth 20000 in
set_option maxHeartbeats 8000000 in
theorem relayAll_any (pa : Option Addr) (cap : Nat) (rs : List RPortD) (at_ : Nat) (src : Vector UInt8 6) (ba : Option Addr) (bcap : Nat) (bs : List Nat) (w : World) (h : RPortsAt w pa rs) (hat : at_ < 256) (hbs : ElemsAt w ba 1 (bs.map fun b : Nat => [Value.int .u8 (b : Int)])) (hbb : ∀ b ∈ bs, b < 256) :
  Calls Try.prog 8 #[.slice pa rs.length cap, .int .u8 (at_ : Int), .agg (u8v src).toArray, .slice ba bs.length bcap] w fun e w' => e = .returned (.bool true) ∧ Below w.heap.size w w' := by
 have hm := h.1
 have hm2 : (rs.length : Int) ≤ 9223372036854775807 := by unfold maxLen at hm; omega
 have bm := hbs.1
 rw [List.length_map] at bm
 have bm2 : (bs.length : Int) ≤ 9223372036854775807 := by unfold maxLen at bm; omega
 go_enter Try.func8, Try.ntmps8
 obtain ⟨w0, hw0⟩ : ∃ x, w.alloc (.cells (u8v src).toArray 30) = x := ⟨_, rfl⟩
 have b0 : Below w.heap.size w w0 := by rw [← hw0]; exact Below.alloc (Below.refl _ _) (Nat.le_refl _) _
 have z0 : w0.heap.size = w.heap.size + 1 := by rw [← hw0]; exact alloc_sizeW _ _
 have rM0 : row w0 w.heap.size = (u8v src).toArray := by rw [← hw0]; exact row_alloc_at _ _ _ rfl
 have h0_ := (h.off [w.heap.size] (by intro x hx; rw [List.mem_singleton.1 hx]; omega)).below b0
 go_wp2_with fail
 (try rw [hw0])
 (try clear hw0)
 (with_reducible refine (awake22_any _).mono ?_)
 rintro e w1 ⟨rfl, b1⟩
 have h1 := h0_.below b1
 have z1 := b1.size
 have B1 := b0.trans (b1.mono (by omega))
 have zB1 := B1.size
 go_wp2_with fail
 (with_reducible refine (few22_nil pa cap rs _ h1.at).mono ?_)
 rintro e w2 hfew
 obtain ⟨⟨fb, rfl, hfb⟩, rfl⟩ := hfew
 cases fb with
 | false =>
  go_wp2_with fail
  (with_reducible refine (awake22_any _).mono ?_)
  rintro e w3 ⟨rfl, b3⟩
  go_wp2_with fail
  go_ret
  exact ⟨rfl, B1.trans (b3.mono zB1)⟩
 | true =>
 have h40 := hfb rfl
 clear hfb
 by_cases h0 : rs.length = 0
 ·
  have h00 : (rs.length : Int) = 0 := by omega
  go_wp2_with fail
  (with_reducible refine (awake22_any _).mono ?_)
  rintro e w3 ⟨rfl, b3⟩
  go_wp2_with fail
  go_ret
  exact ⟨rfl, B1.trans (b3.mono zB1)⟩
 have h01 : ((rs.length : Int) == 0) = false := by simp; exact fun e => h0 (by rw [e]; rfl)
 have hpos : 0 < rs.length := Nat.pos_of_ne_zero h0
 clear h0
 by_cases hlb : 100 < bs.length
 ·
  have hlbI : (100 : Int) < (bs.length : Int) := by omega
  go_wp2_with fail
  (with_reducible refine (awake22_any _).mono ?_)
  rintro e w3 ⟨rfl, b3⟩
  go_wp2_with fail
  go_ret
  exact ⟨rfl, B1.trans (b3.mono zB1)⟩
 have hlbI : ¬ (100 : Int) < (bs.length : Int) := by omega
 clear hlb
 go_wp2_with fail
 (with_reducible refine (of22X_any [w.heap.size] pa cap rs _ h1 (by intro s hs; rw [List.mem_singleton.1 hs]; omega) (by omega)).mono ?_)
 rintro e w3 ⟨⟨u, rfl, pa', cap', rfl, hpo⟩, b3⟩
 have z3 := b3.size
 have B3 := B1.trans (b3.mono zB1)
 have rM3 : row w3 w.heap.size = (u8v src).toArray := (row_below (b1.trans (b3.mono (by omega))) (by omega)).trans rM0
 have hN := rNewX2_any 20 pa' cap' (rs.map (·.p)) w3 [w.heap.size] (by intro s hs; rw [List.mem_singleton.1 hs]; omega) hpo.nil (by rw [List.length_map]; omega)
 rw [List.length_map] at hN
 have HN := Lib.hid hN
 clear hN
 go_wp2_with fail
 (with_reducible refine HN.out.mono ?_)
 rintro e w4 (⟨_, rfl, b4⟩ | ⟨hok, A, rfl, hnb, hex, hAlt⟩)
 ·
  go_wp2_with fail
  go_ret
  exact ⟨rfl, B3.trans (b4.mono B3.size)⟩
 have hmu := lo_muts hnb.lo
 have hlo := hnb.lo
 have hbr := hnb.br
 obtain ⟨ps, hps⟩ : ∃ x, rs.map (·.p) = x := ⟨_, rfl⟩
 have hpl : ps.length = rs.length := by rw [← hps, List.length_map]
 rw [hps] at hbr hok hpo
 have hgd := newG 20 ps hok
 have hn32' : ps.length ≤ 32 := hgd.1.n32
 have hplI : (rs.length : Int) ≤ 32 := by omega
 have hkm := rat_mod at_ rs.length hpos
 obtain ⟨k, hk⟩ : ∃ x, at_ % rs.length = x := ⟨_, rfl⟩
 have hkl : k < rs.length := by rw [← hk]; exact Nat.mod_lt _ hpos
 rw [hk] at hkm
 obtain ⟨pb, po, hpa, hpb⟩ : ∃ pb po, pa' = some ⟨pb, po, none⟩ ∧ pb < w3.heap.size := by
  obtain ⟨b, off, _, _, e, hl, _⟩ := hpo.getS (k := k) (by omega)
  exact ⟨b, off, e, hl⟩
 subst hpa
 have hpg : ∀ i (hi : i < ps.length), ∃ ta tc, ∀ W, BelowS w3.heap.size [w.heap.size] w3 W → W.rangeAt pb (po + i * 4) (portV ta tc ps[i]) ∧ IntsAt W ta ps[i].tagged := by
  intro i hi
  obtain ⟨b, off, ta, tc, e, _, hr⟩ := hpo.getS hi
  cases e
  exact ⟨ta, tc, hr⟩
 have hb3 := hbs.below B3
 have B4 : Below w3.heap.size w3 w4 := hnb.below
 have z4 := B4.size
 have zB3 := B3.size
 obtain ⟨w5, hmk, o5, b5⟩ := make_own (P := Try.prog) (w := w4) (t := 69) inferInstance .i64 .i64 rs.length (by omega)
 have hbr5 := hbr.below b5
 obtain ⟨ST, hST⟩ : ∃ x, w4.heap.size = x := ⟨_, rfl⟩
 rw [hST] at hmk o5 hex hAlt z4
 have rS5 := o5.full.1
 have lS5 := o5.full.2.1
 have z5 := b5.size
 have c5 : Below w3.heap.size w3 w5 := B4.trans (b5.mono (by omega))
 have hSTm : ST ∉ A.muts := by
  intro hm
  have := hAlt ST (by simp only [BrA.muts, List.mem_cons, List.not_mem_nil, or_false] at hm ⊢; omega)
  omega
 have HBR := Lib.hid hbr5
 have HOK := Lib.hid hok
 have HPG := Lib.hid hpg
 have HGD := Lib.hid hgd
 have HMU := Lib.hid hmu
 have HLO := Lib.hid hlo
 have HB3 := Lib.hid hb3
 have HEX := Lib.hid hex
 have HAL := Lib.hid hAlt
 have HSM := Lib.hid hSTm
 have HBB := Lib.hid hbb
 clear hbb
 clear hbr hok hnb hmu hlo HN hps hk hgd hpo o5 b5 hpg hb3 hbs hex hAlt hbr5 hST B4 hSTm
 go_wp2_with fail
 go_loopw [14] (fun i wr => ∃ j : Nat, j ≤ rs.length ∧ i = .int .i64 j ∧ BrT wr A (sJ 20 ps (allF bs k) j) ∧ row wr ST = stC (allF bs k) rs.length j ∧ Below w3.heap.size w3 wr ∧ ST < wr.heap.size) (fun i _ => rs.length - (intOf i).toNat)
 case atStart => exact ⟨0, by omega, rfl, by rw [sJ_zero]; exact HBR.out, by rw [stC_zero]; exact rS5, c5, lS5⟩
 case round =>
  clear HBR rS5 lS5 c5 hmk
  obtain ⟨j, hj, rfl, hT, rS, cb, lS⟩ := hrel
  have zc := cb.size
  have hsz : 0 < (row wr ST).size := by rw [rS, stC_size]; exact hpos
  by_cases hlt : j < rs.length
  ·
   have hltI : (j : Int) < (rs.length : Int) := by omega
   have hS := fun W => rStateJ_any (A := A) (j := j) (f := allF bs k) W HOK.out (by omega) (allF_range bs k j).1 (allF_range bs k j).2
   have hoth : ∀ W, BrT W A (sJ 20 ps (allF bs k) j) → ∀ c, BrT (W.setRow ST c) A (sJ 20 ps (allF bs k) j) := fun W hW c => hW.other (by rw [HEX.out]; exact List.mem_cons_self) (fun b hb => Nat.ne_of_lt (HAL.out b hb)) c
   obtain ⟨fj, hfj⟩ : ∃ x, allF bs k j = x := ⟨_, rfl⟩
   have hst := stC_step (allF bs k) hlt
   rw [hfj] at hS hst
   have HS := Lib.hid hS
   have HOT := Lib.hid hoth
   have HFJ := Lib.hid hfj
   have HST := Lib.hid hst
   have HT := Lib.hid hT
   have hszj : j < (row wr ST).size := by rw [rS, stC_size]; exact hlt
   clear hS hoth hT hfj hst
   have hsc := fun v => setCell_row (w := wr) (b := ST) (i := j) v hsz
   rw [rS] at hsc
   by_cases hij : j < bs.length
   ·
    have hijI : (j : Int) < (bs.length : Int) := by omega
    obtain ⟨bb, bo, hbe, hbl, hbr⟩ := HB3.out.2 j _ (by rw [List.getElem?_map, List.getElem?_eq_getElem hij]; rfl)
    subst hbe
    have hbn : bb ≠ ST := by omega
    have hbc : ∀ c, (wr.setRow ST c).cell? ⟨bb, bo + j, none⟩ = some (.int .u8 (bs[j] : Int)) := fun c => by
     have := hbr (wr.setRow ST c) (blk_below (cb.trans ((BelowS.set (B := w3.heap.size) (S := [ST]) wr c (by simp)).below (Nat.le_refl _) (by intro x hx; rw [List.mem_singleton.1 hx]; omega))) hbl) 0 _ rfl
     simp only [Nat.mul_one, Nat.add_zero] at this
     exact this
    obtain ⟨by_, hby⟩ : ∃ x, bs[j] = x := ⟨_, rfl⟩
    rw [hby] at hbc
    have hbyl : by_ < 256 := by rw [← hby]; exact HBB.out _ (List.getElem_mem hij)
    have hmo := rat_mod by_ 4 (by decide)
    obtain ⟨yy, hyy⟩ : ∃ y, by_ % 4 = y := ⟨_, rfl⟩
    rw [hyy] at hmo
    have hmo4 : (by_ : Int).tmod 4 = (yy : Int) := hmo
    have HYY := Lib.hid hyy
    clear hyy hmo
    by_cases hjk : j = k
    ·
     have hf3 : fj = 3 := by rw [← HFJ.out]; unfold allF; rw [if_neg (fun h => h.2 hjk)]
     subst hf3
     subst hjk
     go_wp2_with fail
     (with_reducible refine (HS.out _ ?_).mono ?_)
     ·
      exact HOT.out _ HT.out _
     rintro e w5 ⟨rfl, b5, t5⟩
     have z5 := b5.size
     try simp at z5
     have r5 : row w5 ST = stC (allF bs j) rs.length (j + 1) := by
      rw [b5.row (by simpa using lS) HSM.out, row_setRow_same hsz (by rw [rS]; simp)]
      first
      | exact HST.out
      | (rw [Array.setIfInBounds_setIfInBounds]; exact HST.out)
     have c5 : Below w3.heap.size w3 w5 := cb.trans (((BelowS.set (B := w3.heap.size) (S := [ST]) wr _ (by simp)).below (Nat.le_refl _) (by intro x hx; rw [List.mem_singleton.1 hx]; omega)).trans (b5.below (by simpa using zc) HMU.out))
     have T5 := Lib.hid t5
     clear t5 b5 HS HT HOT HST hsc
     go_wp2_with fail
     go_roundw
     case rel => exact ⟨j + 1, by omega, by simp, T5.out, r5, c5, by omega⟩
     case measure => simp [intOf]; omega
    ·
     have hjkI : ((j : Int) != (k : Int)) = true := by simp; omega
     have hf3 : fj = (yy : Int) := by rw [← HYY.out]; rw [← HFJ.out]; unfold allF; rw [if_pos ⟨hij, hjk⟩, List.getD_eq_getElem?_getD, List.getElem?_eq_getElem hij]; simp [hby]
     subst hf3
     clear HFJ
     go_wp2_with fail
     (with_reducible refine (HS.out _ ?_).mono ?_)
     ·
      exact HOT.out _ HT.out _
     rintro e w5 ⟨rfl, b5, t5⟩
     have z5 := b5.size
     try simp at z5
     have r5 : row w5 ST = stC (allF bs k) rs.length (j + 1) := by
      rw [b5.row (by simpa using lS) HSM.out, row_setRow_same hsz (by rw [rS]; simp)]
      first
      | exact HST.out
      | (rw [Array.setIfInBounds_setIfInBounds]; exact HST.out)
     have c5 : Below w3.heap.size w3 w5 := cb.trans (((BelowS.set (B := w3.heap.size) (S := [ST]) wr _ (by simp)).below (Nat.le_refl _) (by intro x hx; rw [List.mem_singleton.1 hx]; omega)).trans (b5.below (by simpa using zc) HMU.out))
     have T5 := Lib.hid t5
     clear t5 b5 HS HT HOT HST hsc
     go_wp2_with fail
     go_roundw
     case rel => exact ⟨j + 1, by omega, by simp, T5.out, r5, c5, by omega⟩
     case measure => simp [intOf]; omega
   ·
    have hijI : ¬ (j : Int) < (bs.length : Int) := by omega
    have hf3 : fj = 3 := by rw [← HFJ.out]; unfold allF; rw [if_neg (fun h => hij h.1)]
    subst hf3
    clear HFJ
    go_wp2_with fail
    (with_reducible refine (HS.out _ ?_).mono ?_)
    ·
     exact HOT.out _ HT.out _
    rintro e w5 ⟨rfl, b5, t5⟩
    have z5 := b5.size
    try simp at z5
    have r5 : row w5 ST = stC (allF bs k) rs.length (j + 1) := by
     rw [b5.row (by simpa using lS) HSM.out, row_setRow_same hsz (by rw [rS]; simp)]
     first
     | exact HST.out
     | (rw [Array.setIfInBounds_setIfInBounds]; exact HST.out)
    have c5 : Below w3.heap.size w3 w5 := cb.trans (((BelowS.set (B := w3.heap.size) (S := [ST]) wr _ (by simp)).below (Nat.le_refl _) (by intro x hx; rw [List.mem_singleton.1 hx]; omega)).trans (b5.below (by simpa using zc) HMU.out))
    have T5 := Lib.hid t5
    clear t5 b5 HS HT HOT HST hsc
    go_wp2_with fail
    go_roundw
    case rel => exact ⟨j + 1, by omega, by simp, T5.out, r5, c5, by omega⟩
    case measure => simp [intOf]; omega
  ·
   obtain rfl : j = rs.length := by omega
   have hltI : ¬ (rs.length : Int) < (rs.length : Int) := by omega
   obtain ⟨s1, hs1⟩ : ∃ x, sJ 20 ps (allF bs k) rs.length = x := ⟨_, rfl⟩
   have g1 : BrG s1 0 := by rw [← hs1]; exact sJ_good 20 ps _ _ HOK.out
   have hs1p : s1.ports = ps := by rw [← hs1]; rfl
   have hs1s : ∀ i, i < rs.length → s1.states.getD i 0 = allF bs k i := by
    intro i hi
    rw [← hs1]
    show ((List.range ps.length).map fun i => if i < rs.length then allF bs k i else 0).getD i 0 = _
    rw [hpl, List.getD_eq_getElem?_getD, List.getElem?_map, List.getElem?_range hi]
    simp [hi]
   rw [hs1] at hT
   clear hs1
   have hkp : k < ps.length := by omega
   obtain ⟨ta, tc, hrk⟩ := HPG.out k hkp
   obtain ⟨p, hp⟩ : ∃ x, ps[k] = x := ⟨_, rfl⟩
   rw [hp] at hrk
   have hpk : s1.port k = p := by unfold BrS.port; rw [hs1p, List.getD_eq_getElem?_getD, List.getElem?_eq_getElem hkp]; exact hp
   have hok1 : okPort p = true := by
    have := HOK.out
    unfold newOkB at this
    simp only [Bool.and_eq_true] at this
    rw [← hp]
    exact List.all_eq_true.1 this.1.1 _ (List.getElem_mem hkp)
   have hcv := (hrk wr (BelowS.of cb)).1 0 _ rfl
   rw [Nat.add_zero] at hcv
   have rMw : row wr w.heap.size = (u8v src).toArray := (row_below cb (by omega)).trans rM3
   have hx := and_254 src[0]
   have hec := evenM_cells src
   have heg := evenM_grp src
   obtain ⟨m0, hm0⟩ : ∃ x : UInt8, src[0] &&& 254 = x := ⟨_, rfl⟩
   rw [hm0] at hx hec
   obtain ⟨me, hme⟩ : ∃ x, evenM src = x := ⟨_, rfl⟩
   rw [hme] at hec heg
   have e0 : (u8v src)[0]'(by simp) = Value.int .u8 (src[0].toNat : Int) := by simp [u8v, u8s]
   have q1 : w.heap.size < wr.heap.size := by omega
   obtain ⟨v0, hv0⟩ : ∃ x, wr.setRow w.heap.size (u8v me).toArray = x := ⟨_, rfl⟩
   have T0 : BrT v0 A s1 := by rw [← hv0]; exact hT.other (by rw [HEX.out]; simp) (fun b hb => by have := HMU.out; have := HLO.out b hb; omega) _
   have S0 : BelowS w3.heap.size [w.heap.size] w3 v0 := by rw [← hv0]; exact (BelowS.of cb).trans (BelowS.set _ _ (by simp))
   have rS0 : row v0 ST = stC (allF bs k) rs.length rs.length := by rw [← hv0, row_setRow_other _ _ _ (by omega), rS]
   have rE : row v0 w.heap.size = (u8v me).toArray := by rw [← hv0]; exact row_setRow_same (by simp [rMw]) (by simp [rMw])
   have z0 : v0.heap.size = wr.heap.size := by rw [← hv0, setRow_size]
   have lS0 : ST < v0.heap.size := by omega
   clear hT cb lS hsz hm0 hme
   have HT0 := Lib.hid T0
   have HS0 := Lib.hid S0
   have HRS := Lib.hid rS0
   have HRK := Lib.hid hrk
   have HS1 := Lib.hid hs1s
   have HG1 := Lib.hid g1
   have HEG := Lib.hid heg
   clear T0 S0 rS0 rS hrk hs1s g1 heg hp
   have hpr : rightB 2048 (-1) 0 ([] : List UInt8).length = true := by decide
   have HPR := Lib.hid (ethPrint_any allOnes me 2048 [] (-1) 0 v0 hpr)
   unfold ethV at HPR
   obtain ⟨t, htc, hta⟩ := talk_any allOnes me 2048 [] (by simp)
   have hC := fun W (hW : BrT W A s1) => rCome_any W hW (Nat.zero_le _) HG1.out k (by rw [hs1p]; exact hkp) (ethS allOnes me 2048 [] (-1) 0) (by have := (ethS_small allOnes me 2048 [] (-1) 0 hpr).1; omega) t (fun d hd => by rw [ethParse_print allOnes me 2048 [] (-1) 0 hpr] at hd; cases hd; exact htc)
   have hcs := comeAll s1 k me HEG.out (by rw [HS1.out k hkl]; unfold allF; rw [if_neg (fun h => h.2 rfl)]) (by rw [hpk]; exact hok1) t (hta (by decide))
   rw [hpk] at hcs
   obtain ⟨ln, hln⟩ : ∃ x, ethS allOnes me 2048 [] (-1) 0 = x := ⟨_, rfl⟩
   rw [hln] at HPR hC hcs
   obtain ⟨s2, hs2⟩ : ∃ x, comeS s1 k ln t = x := ⟨_, rfl⟩
   rw [hs2] at hC hcs
   obtain ⟨s3, outs, er⟩ := s2
   dsimp only at hC hcs
   obtain ⟨F, hF⟩ : ∃ F : Nat → List (Nat × List UInt8), F = fun i => if p.native ≠ 0 ∧ mayB s1 k i p.native p.hor = true then printedS (s1.ports.getD i ⟨0, [], 0, 0⟩) i p.native allOnes me 2048 [] 0 else [] := ⟨_, rfl⟩
   have hout : outs = (List.range rs.length).flatMap F ∧ er = if p.native = 0 then 7 else 0 := by
    by_cases e : p.native = 0
    ·
     rw [if_pos e] at hcs
     cases hcs
     refine ⟨?_, by rw [if_pos e]⟩
     rw [hF]
     simp [e]
    ·
     rw [if_neg e] at hcs
     cases hcs
     refine ⟨?_, by rw [if_neg e]⟩
     rw [hF, hs1p, hpl]
     simp [e]
   obtain ⟨ho1, ho2⟩ := hout
   subst ho2
   have HO1 := Lib.hid ho1
   clear ho1
   have HCM := Lib.hid hC
   have HF := Lib.hid hF
   clear hC hcs hs2 hF htc hta
   go_wp2_with fail
   (with_reducible refine HPR.out.mono ?_)
   rintro e w6 ⟨rfl, b6⟩
   have z6 := b6.size
   have T6 := Lib.hid (HT0.out.below b6)
   have S6 := HS0.out.trans (BelowS.of (b6.mono (by omega)))
   have rS6 := (row_below b6 (by omega)).trans HRS.out
   clear HPR b6
   go_wp2_with fail
   (with_reducible refine (HCM.out _ T6.out).mono ?_)
   rintro e w7 ⟨⟨u, rfl, hown⟩, b7, t7⟩
   have z7 := b7.size
   have S7 := S6.trans (BelowS.of (b7.below (by omega) HMU.out))
   have rS7 := (b7.row (by omega) HSM.out).trans rS6
   clear b7 t7 rS6 S6 T6
   obtain ⟨ua, uc, e, hel⟩ := hown.elems
   rw [List.length_map] at e
   subst e
   have hpI : (outs.length : Int) ≤ 9223372036854775807 := by
    have := hel.1
    rw [List.length_map] at this
    unfold maxLen at this
    omega
   have hF1 : ∀ i, F i = [] ∨ ∃ x, F i = [(i, x)] := fun i => by rw [HF.out]; exact allF_one i
   have S8 : ∀ W, Below w7.heap.size w7 W → BelowS w3.heap.size [w.heap.size] w3 W := fun W hW => S7.trans (BelowS.of (hW.mono (by omega)))
   have HEL := Lib.hid hel
   have HF1 := Lib.hid hF1
   have HS8 := Lib.hid S8
   clear hel hF1 S8 hown
   have hkI : (k : Int) < (rs.length : Int) := by omega
   have Bw7 : Below w.heap.size w w7 := B3.trans (S7.below (by omega) (by intro x hx; rw [List.mem_singleton.1 hx]; omega))
   by_cases hv : p.native = 0
   ·
    have hv1 : (p.native != 0) = false := by simp [hv]
    rw [if_pos hv]
    have hFn : ∀ j, (List.range j).flatMap F = [] := fun j => by rw [HF.out]; simp [hv]
    have hon : outs.length = 0 := by rw [HO1.out, hFn]; rfl
    clear hv
    go_wp2_with fail
    go_loopw [20, 21] (fun nn i wr => ∃ j : Nat, j ≤ rs.length ∧ i = .int .i64 j ∧ nn = .int .i64 0 ∧ Below w7.heap.size w7 wr) (fun _ i _ => rs.length - (intOf i).toNat)
    case atStart => exact ⟨0, by omega, rfl, rfl, Below.refl _ _⟩
    case round =>
     obtain ⟨j, hj, rfl, rfl, cb⟩ := hrel
     have zb := cb.size
     by_cases hlt : j < rs.length
     ·
      have hltI : (j : Int) < (rs.length : Int) := by omega
      go_wp2_with fail
      have hG : GrowP fun W => Below w7.heap.size w7 W := grow_base w7
      refine wp_region_beginX [] (fun W => Below w7.heap.size w7 W) hG rfl (by simp only [Rws]; (repeat (first | exact trivial | refine ⟨(by first | assumption | (simp [go_sem, *]; done)), (by first | omega | (simp; done) | (simp; omega)), ?_⟩))) (cb) (fun hS => ?_)
      refine sp 0 hG hS ?_
      refine sp 1 hG hS ?_
      refine sp 2 hG hS ?_
      refine sn 3 hG hS ?_
      refine sn 4 hG hS ?_
      refine sn 5 hG hS ?_
      refine sp 6 hG hS ?_
      refine sp 7 hG hS ?_
      refine sn 8 hG hS ?_
      refine sn 9 hG hS ?_
      refine sn 10 hG hS ?_
      refine sn 11 hG hS ?_
      refine sn 12 hG hS ?_
      refine sp 13 hG hS ?_
      refine sp 14 hG hS ?_
      refine sn 15 hG hS ?_
      refine sn 16 hG hS ?_
      refine sn 17 hG hS ?_
      refine sn 18 hG hS ?_
      refine sn 19 hG hS ?_
      refine sn 20 hG hS ?_
      refine sn 21 hG hS ?_
      refine sp 22 hG hS ?_
      refine sp 23 hG hS ?_
      refine sn 24 hG hS ?_
      refine sn 25 hG hS ?_
      refine sn 26 hG hS ?_
      refine sn 27 hG hS ?_
      refine sn 28 hG hS ?_
      refine sn 29 hG hS ?_
      refine sn 30 hG hS ?_
      refine sn 31 hG hS ?_
      refine sn 32 hG hS ?_
      refine sn 33 hG hS ?_
      refine sn 34 hG hS ?_
      refine sn 35 hG hS ?_
      refine sn 36 hG hS ?_
      refine sn 37 hG hS ?_
      refine sn 38 hG hS ?_
      refine sn 39 hG hS ?_
      refine sn 40 hG hS ?_
      refine sn 41 hG hS ?_
      refine sn 42 hG hS ?_
      refine sp 43 hG hS ?_
      refine wpAnyR_done (by kernel_rfl) (fun w9 bw9 => ?_) _
      have b9 := below_step (Below.drew (Below.refl _ _)) bw9
      have cb9 := cb.trans (b9.mono zb)
      go_wp2_with fail
      go_roundw
      case rel => exact ⟨j + 1, by omega, by simp, rfl, cb9⟩
      case measure => simp [intOf]; omega
     ·
      obtain rfl : j = rs.length := by omega
      go_wp2_with fail
      go_ret
      exact ⟨by simp [hon], Bw7.trans (cb.mono Bw7.size)⟩
   ·
    have hv1 : (p.native != 0) = true := by simp [hv]
    rw [if_neg hv]
    have hFv : ∀ i, F i = if mayB s1 k i p.native p.hor = true then printedS (s1.ports.getD i ⟨0, [], 0, 0⟩) i p.native allOnes me 2048 [] 0 else [] := fun i => by rw [HF.out]; simp [hv]
    have HFV := Lib.hid hFv
    clear hv hFv
    go_wp2_with fail
    go_loopw [20, 21] (fun nn i wr => ∃ j : Nat, j ≤ rs.length ∧ i = .int .i64 j ∧ nn = .int .i64 (((List.range j).flatMap F).length : Nat) ∧ Below w7.heap.size w7 wr) (fun _ i _ => rs.length - (intOf i).toNat)
    case atStart => exact ⟨0, by omega, rfl, rfl, Below.refl _ _⟩
    case round =>
     obtain ⟨j, hj, rfl, rfl, cb⟩ := hrel
     have zb := cb.size
     by_cases hlt : j < rs.length
     ·
      have hltI : (j : Int) < (rs.length : Int) := by omega
      have hjp : j < ps.length := by omega
      obtain ⟨ta2, tc2, hrj⟩ := HPG.out j hjp
      obtain ⟨r, hr⟩ : ∃ x, ps[j] = x := ⟨_, rfl⟩
      rw [hr] at hrj
      obtain ⟨q, hq⟩ : ∃ x, allF bs k j = x := ⟨_, rfl⟩
      have hmy : mayB s1 k j p.native p.hor = ((k != j) && (q == 3) && memberP r.native r.tagged p.native && (p.hor == 0 || r.hor != p.hor)) := by
       have := mayB_at (s := s1) (k := k) (v := p.native) (hz := p.hor) (by rw [hs1p]; exact hjp : j < s1.ports.length) (HS1.out j hlt)
       simp only [hs1p, hr, hq] at this
       exact this
      have hst : ∀ W, Below w7.heap.size w7 W → W.cell? ⟨ST, j, none⟩ = some (.int .i64 q) := fun W hW => by
       have e := (row_below hW (by omega)).trans rS7
       rw [cell_of_row' (by rw [e, stC_size]; exact hlt), e]
       rw [stC_get _ hlt (Nat.le_refl _), hq]
      have hload : ∀ W, Below w7.heap.size w7 W → (loadS 72 (.pointer (some ⟨pb, po + j * 4, none⟩))).run Try.prog W = .ok (.agg #[Value.int .i64 r.native, Value.slice ta2 r.tagged.length tc2]) W := fun W hW => by
       have h4 := (hrj W (HS8.out W hW)).1
       exact run_loadS_at (l := [Value.int .i64 r.native, Value.slice ta2 r.tagged.length tc2]) (fun j u hj => h4 j u (by
        match j, hj with
        | 0, hj => exact hj
        | 1, hj => exact hj)) rfl
      have hhk : ∀ W, Below w7.heap.size w7 W → W.cell? ⟨pb, po + k * 4 + 2, none⟩ = some (.int .i64 p.hor) := fun W hW => (HRK.out W (HS8.out W hW)).1 2 _ rfl
      have hhj : ∀ W, Below w7.heap.size w7 W → W.cell? ⟨pb, po + j * 4 + 2, none⟩ = some (.int .i64 r.hor) := fun W hW => (hrj W (HS8.out W hW)).1 2 _ rfl
      have HMB := Lib.hid (fun W (hW : Below w7.heap.size w7 W) => vMember_any r.native ta2 tc2 r.tagged p.native W (hrj W (HS8.out W hW)).2)
      obtain ⟨mb, hmb⟩ : ∃ x, memberP r.native r.tagged p.native = x := ⟨_, rfl⟩
      rw [hmb] at HMB hmy
      obtain ⟨ok_, hok_⟩ : ∃ o, po + k * 4 = o := ⟨_, rfl⟩
      obtain ⟨oj, hoj⟩ : ∃ o, po + j * 4 = o := ⟨_, rfl⟩
      rw [hok_] at hhk
      rw [hoj] at hhj hload
      have hzI : ∀ x : Int, (x == x) = true := fun x => by simp
      have HMY := Lib.hid hmy
      have HOJ := Lib.hid hoj
      have hlen := flat_len F j
      have hout : F j ≠ [] → ∃ x, outs[((List.range j).flatMap F).length]? = some (j, x) := fun hne => by rw [HO1.out]; exact flat_at HF1.out hlt hne
      have HOUT := Lib.hid hout
      have HLEN := Lib.hid hlen
      clear hmy hrj hr hq hmb hout hlen
      obtain ⟨n, hn⟩ : ∃ n, ((List.range j).flatMap F).length = n := ⟨_, rfl⟩
      rw [hn] at HOUT HLEN ⊢
      have HFJ := Lib.hid (HFV.out j)
      clear hn
      have hG : GrowP fun W => Below w7.heap.size w7 W := grow_base w7
      by_cases hjk : j = k
      ·
       have c1 : ((j : Int) != (k : Int)) = false := by simp; omega
       have hjk2 : (k != j) = false := by simp [hjk]
       clear hjk
       go_wp2_with fail
       refine wp_region_beginX [] (fun W => Below w7.heap.size w7 W) hG rfl (by simp only [Rws]; (repeat (first | exact trivial | refine ⟨(by first | assumption | (simp [go_sem, *]; done)), (by first | omega | (simp; done) | (simp; omega)), ?_⟩))) (cb) (fun hS => ?_)
       refine sp 0 hG hS ?_
       refine sp 1 hG hS ?_
       refine sp 2 hG hS ?_
       refine sp 3 hG hS ?_
       refine sp 4 hG hS ?_
       refine sp 5 hG hS ?_
       refine sp 6 hG hS ?_
       refine sp 7 hG hS ?_
       refine sn 8 hG hS ?_
       refine sn 9 hG hS ?_
       refine sn 10 hG hS ?_
       refine sn 11 hG hS ?_
       refine sn 12 hG hS ?_
       refine sp 13 hG hS ?_
       refine sp 14 hG hS ?_
       refine sn 15 hG hS ?_
       refine sn 16 hG hS ?_
       refine sn 17 hG hS ?_
       refine sn 18 hG hS ?_
       refine sn 19 hG hS ?_
       refine sn 20 hG hS ?_
       refine sn 21 hG hS ?_
       refine sp 22 hG hS ?_
       refine sp 23 hG hS ?_
       refine sn 24 hG hS ?_
       refine sn 25 hG hS ?_
       refine sn 26 hG hS ?_
       refine sn 27 hG hS ?_
       refine sn 28 hG hS ?_
       refine sn 29 hG hS ?_
       refine sn 30 hG hS ?_
       refine sn 31 hG hS ?_
       refine sn 32 hG hS ?_
       refine sn 33 hG hS ?_
       refine sn 34 hG hS ?_
       refine sn 35 hG hS ?_
       refine sn 36 hG hS ?_
       refine sn 37 hG hS ?_
       refine sn 38 hG hS ?_
       refine sn 39 hG hS ?_
       refine sn 40 hG hS ?_
       refine sn 41 hG hS ?_
       refine sn 42 hG hS ?_
       refine sp 43 hG hS ?_
       refine wpAnyR_done (by kernel_rfl) (fun w9 bw9 => ?_) _
       have b9 := below_step (Below.drew (Below.refl _ _)) bw9
       have cb9 := cb.trans (b9.mono zb)
       have hFe : F j = [] := by
        rw [HFJ.out, HMY.out]
        rw [if_neg (by rw [hjk2]; simp)]
       have hle : ((List.range (j + 1)).flatMap F).length = n := by rw [HLEN.out, hFe]; rfl
       have HLE := Lib.hid hle
       clear hle hFe HLEN HOUT HFJ HMY
       go_wp2_with fail
       go_roundw
       case rel => exact ⟨j + 1, by omega, by simp, by rw [HLE.out], cb9⟩
       case measure => simp [intOf]; omega
      have c1 : ((j : Int) != (k : Int)) = true := by simp; omega
      have hjk2 : (k != j) = true := by simp; omega
      clear hjk
      by_cases hq3 : q = 3
      case neg =>
       have c2 : (q == 3) = false := by simpa using hq3
       clear hq3
       go_wp2_with fail
       refine wp_region_beginX [] (fun W => Below w7.heap.size w7 W) hG rfl (by simp only [Rws]; (repeat (first | exact trivial | refine ⟨(by first | assumption | (simp [go_sem, *]; done)), (by first | omega | (simp; done) | (simp; omega)), ?_⟩))) (cb) (fun hS => ?_)
       refine sp 0 hG hS ?_
       refine sp 1 hG hS ?_
       refine sp 2 hG hS ?_
       refine sp 3 hG hS ?_
       refine sp 4 hG hS ?_
       refine sp 5 hG hS ?_
       refine sp 6 hG hS ?_
       refine sp 7 hG hS ?_
       refine sp 8 hG hS ?_
       refine sp 9 hG hS ?_
       refine sp 10 hG hS ?_
       refine sp 11 hG hS ?_
       refine sp 12 hG hS ?_
       refine sp 13 hG hS ?_
       refine sp 14 hG hS ?_
       refine sn 15 hG hS ?_
       refine sn 16 hG hS ?_
       refine sn 17 hG hS ?_
       refine sn 18 hG hS ?_
       refine sn 19 hG hS ?_
       refine sn 20 hG hS ?_
       refine sn 21 hG hS ?_
       refine sp 22 hG hS ?_
       refine sp 23 hG hS ?_
       refine sn 24 hG hS ?_
       refine sn 25 hG hS ?_
       refine sn 26 hG hS ?_
       refine sn 27 hG hS ?_
       refine sn 28 hG hS ?_
       refine sn 29 hG hS ?_
       refine sn 30 hG hS ?_
       refine sn 31 hG hS ?_
       refine sn 32 hG hS ?_
       refine sn 33 hG hS ?_
       refine sn 34 hG hS ?_
       refine sn 35 hG hS ?_
       refine sn 36 hG hS ?_
       refine sn 37 hG hS ?_
       refine sn 38 hG hS ?_
       refine sn 39 hG hS ?_
       refine sn 40 hG hS ?_
       refine sn 41 hG hS ?_
       refine sn 42 hG hS ?_
       refine sp 43 hG hS ?_
       refine wpAnyR_done (by kernel_rfl) (fun w9 bw9 => ?_) _
       have b9 := below_step (Below.drew (Below.refl _ _)) bw9
       have cb9 := cb.trans (b9.mono zb)
       have hFe : F j = [] := by
        rw [HFJ.out, HMY.out]
        rw [if_neg (by rw [c2]; simp)]
       have hle : ((List.range (j + 1)).flatMap F).length = n := by rw [HLEN.out, hFe]; rfl
       have HLE := Lib.hid hle
       clear hle hFe HLEN HOUT HFJ HMY
       go_wp2_with fail
       go_roundw
       case rel => exact ⟨j + 1, by omega, by simp, by rw [HLE.out], cb9⟩
       case measure => simp [intOf]; omega
      subst hq3
      cases mb with
      | false =>
       go_wp2_with fail
       refine wp_region_beginX [] (fun W => Below w7.heap.size w7 W) hG rfl (by simp only [Rws]; (repeat (first | exact trivial | refine ⟨(by first | assumption | (simp [go_sem, *]; done)), (by first | omega | (simp; done) | (simp; omega)), ?_⟩))) (cb) (fun hS => ?_)
       refine sp 0 hG hS ?_
       refine sp 1 hG hS ?_
       refine sp 2 hG hS ?_
       refine sp 3 hG hS ?_
       refine sp 4 hG hS ?_
       refine sp 5 hG hS ?_
       refine sp 6 hG hS ?_
       refine sp 7 hG hS ?_
       refine sp 8 hG hS ?_
       refine sp 9 hG hS ?_
       refine sp 10 hG hS ?_
       refine sp 11 hG hS ?_
       refine sp 12 hG hS ?_
       refine sp 13 hG hS ?_
       refine sp 14 hG hS ?_
       refine sp 15 hG hS ?_
       refine sp 16 hG hS ?_
       refine sp 17 hG hS ?_
       refine sp 18 hG hS ?_
       refine sp 19 hG hS ?_
       refine sp 20 hG hS ?_
       refine sc 21 (v := ?_) hG hS ?_ ?_
       rotate_left
       ·
        intro w' hS'
        obtain ⟨hS', hX'⟩ := hS'
        simp only [Rws] at hS'
        go_simp
        with_reducible refine (HMB.out _ hX').mono ?_
        rintro e w'' ⟨rfl, hb⟩
        exact ⟨_, rfl, by rfl, hb⟩
       refine sp 22 hG hS ?_
       refine sp 23 hG hS ?_
       refine sn 24 hG hS ?_
       refine sn 25 hG hS ?_
       refine sn 26 hG hS ?_
       refine sn 27 hG hS ?_
       refine sn 28 hG hS ?_
       refine sn 29 hG hS ?_
       refine sn 30 hG hS ?_
       refine sn 31 hG hS ?_
       refine sn 32 hG hS ?_
       refine sn 33 hG hS ?_
       refine sn 34 hG hS ?_
       refine sn 35 hG hS ?_
       refine sn 36 hG hS ?_
       refine sn 37 hG hS ?_
       refine sn 38 hG hS ?_
       refine sn 39 hG hS ?_
       refine sn 40 hG hS ?_
       refine sn 41 hG hS ?_
       refine sn 42 hG hS ?_
       refine sp 43 hG hS ?_
       refine wpAnyR_done (by kernel_rfl) (fun w9 bw9 => ?_) _
       have b9 := below_step (Below.drew (Below.refl _ _)) bw9
       have cb9 := cb.trans (b9.mono zb)
       have hFe : F j = [] := by
        rw [HFJ.out, HMY.out]
        rw [if_neg (by simp)]
       have hle : ((List.range (j + 1)).flatMap F).length = n := by rw [HLEN.out, hFe]; rfl
       have HLE := Lib.hid hle
       clear hle hFe HLEN HOUT HFJ HMY
       go_wp2_with fail
       go_roundw
       case rel => exact ⟨j + 1, by omega, by simp, by rw [HLE.out], cb9⟩
       case measure => simp [intOf]; omega
      | true =>
      by_cases hz0 : p.hor = 0
      ·
       have c3 : (p.hor == 0) = true := by simp [hz0]
       clear hz0
       go_wp2_with fail
       refine wp_region_beginX [] (fun W => Below w7.heap.size w7 W) hG rfl (by simp only [Rws]; (repeat (first | exact trivial | refine ⟨(by first | assumption | (simp [go_sem, *]; done)), (by first | omega | (simp; done) | (simp; omega)), ?_⟩))) (cb) (fun hS => ?_)
       refine sp 0 hG hS ?_
       refine sp 1 hG hS ?_
       refine sp 2 hG hS ?_
       refine sp 3 hG hS ?_
       refine sp 4 hG hS ?_
       refine sp 5 hG hS ?_
       refine sp 6 hG hS ?_
       refine sp 7 hG hS ?_
       refine sp 8 hG hS ?_
       refine sp 9 hG hS ?_
       refine sp 10 hG hS ?_
       refine sp 11 hG hS ?_
       refine sp 12 hG hS ?_
       refine sp 13 hG hS ?_
       refine sp 14 hG hS ?_
       refine sp 15 hG hS ?_
       refine sp 16 hG hS ?_
       refine sp 17 hG hS ?_
       refine sp 18 hG hS ?_
       refine sp 19 hG hS ?_
       refine sp 20 hG hS ?_
       refine sc 21 (v := ?_) hG hS ?_ ?_
       rotate_left
       ·
        intro w' hS'
        obtain ⟨hS', hX'⟩ := hS'
        simp only [Rws] at hS'
        go_simp
        with_reducible refine (HMB.out _ hX').mono ?_
        rintro e w'' ⟨rfl, hb⟩
        exact ⟨_, rfl, by rfl, hb⟩
       refine sp 22 hG hS ?_
       refine sp 23 hG hS ?_
       refine sp 24 hG hS ?_
       refine sp 25 hG hS ?_
       refine sp 26 hG hS ?_
       refine sp 27 hG hS ?_
       refine sp 28 hG hS ?_
       refine sp 29 hG hS ?_
       refine sp 30 hG hS ?_
       refine sn 31 hG hS ?_
       refine sn 32 hG hS ?_
       refine sn 33 hG hS ?_
       refine sn 34 hG hS ?_
       refine sn 35 hG hS ?_
       refine sn 36 hG hS ?_
       refine sn 37 hG hS ?_
       refine sn 38 hG hS ?_
       refine sn 39 hG hS ?_
       refine sn 40 hG hS ?_
       refine sn 41 hG hS ?_
       refine sp 42 hG hS ?_
       refine sp 43 hG hS ?_
       refine wpAnyR_done (by kernel_rfl) (fun w9 bw9 => ?_) _
       have b9 := below_step (Below.drew (Below.refl _ _)) bw9
       have cb9 := cb.trans (b9.mono zb)
       have hmt : mayB s1 k j p.native p.hor = true := by rw [HMY.out]; rw [hjk2, c3]; rfl
       have hFj : ∃ x, F j = [(j, x)] := by
        rcases HF1.out j with h | h
        ·
         exfalso
         rw [HFJ.out, if_pos hmt] at h
         have hmb2 : memberP (s1.ports.getD j ⟨0, [], 0, 0⟩).native (s1.ports.getD j ⟨0, [], 0, 0⟩).tagged p.native = true := by
          unfold mayB at hmt
          simp only [Bool.and_eq_true] at hmt
          exact hmt.1.2
         obtain ⟨x, hx⟩ := printed_one (k := j) (dst := allOnes) (src := me) (body := []) (prio := 0) (by simp) hmb2 (by decide) (by decide)
         rw [hx] at h
         cases h
        ·
         exact h
       obtain ⟨fx, hfx⟩ := hFj
       obtain ⟨ox, hox⟩ := HOUT.out (by rw [hfx]; simp)
       have hle : ((List.range (j + 1)).flatMap F).length = n + 1 := by rw [HLEN.out, hfx]; rfl
       have hno := (List.getElem?_eq_some_iff.1 hox).1
       obtain ⟨ob, oo, hoe, hobl, hoc⟩ := HEL.out.2 n _ (by rw [List.getElem?_map, hox]; rfl)
       subst hoe
       have hcO := hoc w9 (blk_below cb9 hobl) 0 _ rfl
       rw [Nat.add_zero] at hcO
       have hnI : (n : Int) < (outs.length : Int) := by omega
       have hnI2 : ¬ (outs.length : Int) ≤ (n : Int) := by omega
       have HLE := Lib.hid hle
       clear hle hfx hox HLEN HOUT HFJ HMY hoc hmt
       go_wp2_with fail
       go_roundw
       case rel => exact ⟨j + 1, by omega, by simp, by rw [HLE.out]; simp, cb9⟩
       case measure => simp [intOf]; omega
      have c3 : (p.hor == 0) = false := by simpa using hz0
      clear hz0
      by_cases hz1 : r.hor = p.hor
      ·
       have c4 : (r.hor != p.hor) = false := by simp [hz1]
       clear hz1
       go_wp2_with fail
       refine wp_region_beginX [] (fun W => Below w7.heap.size w7 W) hG rfl (by simp only [Rws]; (repeat (first | exact trivial | refine ⟨(by first | assumption | (simp [go_sem, *]; done)), (by first | omega | (simp; done) | (simp; omega)), ?_⟩))) (cb) (fun hS => ?_)
       refine sp 0 hG hS ?_
       refine sp 1 hG hS ?_
       refine sp 2 hG hS ?_
       refine sp 3 hG hS ?_
       refine sp 4 hG hS ?_
       refine sp 5 hG hS ?_
       refine sp 6 hG hS ?_
       refine sp 7 hG hS ?_
       refine sp 8 hG hS ?_
       refine sp 9 hG hS ?_
       refine sp 10 hG hS ?_
       refine sp 11 hG hS ?_
       refine sp 12 hG hS ?_
       refine sp 13 hG hS ?_
       refine sp 14 hG hS ?_
       refine sp 15 hG hS ?_
       refine sp 16 hG hS ?_
       refine sp 17 hG hS ?_
       refine sp 18 hG hS ?_
       refine sp 19 hG hS ?_
       refine sp 20 hG hS ?_
       refine sc 21 (v := ?_) hG hS ?_ ?_
       rotate_left
       ·
        intro w' hS'
        obtain ⟨hS', hX'⟩ := hS'
        simp only [Rws] at hS'
        go_simp
        with_reducible refine (HMB.out _ hX').mono ?_
        rintro e w'' ⟨rfl, hb⟩
        exact ⟨_, rfl, by rfl, hb⟩
       refine sp 22 hG hS ?_
       refine sp 23 hG hS ?_
       refine sp 24 hG hS ?_
       refine sp 25 hG hS ?_
       refine sp 26 hG hS ?_
       refine sp 27 hG hS ?_
       refine sp 28 hG hS ?_
       refine sp 29 hG hS ?_
       refine sp 30 hG hS ?_
       refine sp 31 hG hS ?_
       refine sp 32 hG hS ?_
       refine sp 33 hG hS ?_
       refine sp 34 hG hS ?_
       refine sp 35 hG hS ?_
       refine sp 36 hG hS ?_
       refine sp 37 hG hS ?_
       refine sp 38 hG hS ?_
       refine sp 39 hG hS ?_
       refine sp 40 hG hS ?_
       refine sp 41 hG hS ?_
       refine sp 42 hG hS ?_
       refine sp 43 hG hS ?_
       refine wpAnyR_done (by kernel_rfl) (fun w9 bw9 => ?_) _
       have b9 := below_step (Below.drew (Below.refl _ _)) bw9
       have cb9 := cb.trans (b9.mono zb)
       have hFe : F j = [] := by
        rw [HFJ.out, HMY.out]
        rw [if_neg (by rw [c3, c4]; simp)]
       have hle : ((List.range (j + 1)).flatMap F).length = n := by rw [HLEN.out, hFe]; rfl
       have HLE := Lib.hid hle
       clear hle hFe HLEN HOUT HFJ HMY
       go_wp2_with fail
       go_roundw
       case rel => exact ⟨j + 1, by omega, by simp, by rw [HLE.out], cb9⟩
       case measure => simp [intOf]; omega
      have c4 : (r.hor != p.hor) = true := by simpa using hz1
      clear hz1
      go_wp2_with fail
      refine wp_region_beginX [] (fun W => Below w7.heap.size w7 W) hG rfl (by simp only [Rws]; (repeat (first | exact trivial | refine ⟨(by first | assumption | (simp [go_sem, *]; done)), (by first | omega | (simp; done) | (simp; omega)), ?_⟩))) (cb) (fun hS => ?_)
      refine sp 0 hG hS ?_
      refine sp 1 hG hS ?_
      refine sp 2 hG hS ?_
      refine sp 3 hG hS ?_
      refine sp 4 hG hS ?_
      refine sp 5 hG hS ?_
      refine sp 6 hG hS ?_
      refine sp 7 hG hS ?_
      refine sp 8 hG hS ?_
      refine sp 9 hG hS ?_
      refine sp 10 hG hS ?_
      refine sp 11 hG hS ?_
      refine sp 12 hG hS ?_
      refine sp 13 hG hS ?_
      refine sp 14 hG hS ?_
      refine sp 15 hG hS ?_
      refine sp 16 hG hS ?_
      refine sp 17 hG hS ?_
      refine sp 18 hG hS ?_
      refine sp 19 hG hS ?_
      refine sp 20 hG hS ?_
      refine sc 21 (v := ?_) hG hS ?_ ?_
      rotate_left
      ·
       intro w' hS'
       obtain ⟨hS', hX'⟩ := hS'
       simp only [Rws] at hS'
       go_simp
       with_reducible refine (HMB.out _ hX').mono ?_
       rintro e w'' ⟨rfl, hb⟩
       exact ⟨_, rfl, by rfl, hb⟩
      refine sp 22 hG hS ?_
      refine sp 23 hG hS ?_
      refine sp 24 hG hS ?_
      refine sp 25 hG hS ?_
      refine sp 26 hG hS ?_
      refine sp 27 hG hS ?_
      refine sp 28 hG hS ?_
      refine sp 29 hG hS ?_
      refine sp 30 hG hS ?_
      refine sp 31 hG hS ?_
      refine sp 32 hG hS ?_
      refine sp 33 hG hS ?_
      refine sp 34 hG hS ?_
      refine sp 35 hG hS ?_
      refine sp 36 hG hS ?_
      refine sp 37 hG hS ?_
      refine sp 38 hG hS ?_
      refine sp 39 hG hS ?_
      refine sp 40 hG hS ?_
      refine sp 41 hG hS ?_
      refine sp 42 hG hS ?_
      refine sp 43 hG hS ?_
      refine wpAnyR_done (by kernel_rfl) (fun w9 bw9 => ?_) _
      have b9 := below_step (Below.drew (Below.refl _ _)) bw9
      have cb9 := cb.trans (b9.mono zb)
      have hmt : mayB s1 k j p.native p.hor = true := by rw [HMY.out]; rw [hjk2, c3, c4]; rfl
      have hFj : ∃ x, F j = [(j, x)] := by
       rcases HF1.out j with h | h
       ·
        exfalso
        rw [HFJ.out, if_pos hmt] at h
        have hmb2 : memberP (s1.ports.getD j ⟨0, [], 0, 0⟩).native (s1.ports.getD j ⟨0, [], 0, 0⟩).tagged p.native = true := by
         unfold mayB at hmt
         simp only [Bool.and_eq_true] at hmt
         exact hmt.1.2
        obtain ⟨x, hx⟩ := printed_one (k := j) (dst := allOnes) (src := me) (body := []) (prio := 0) (by simp) hmb2 (by decide) (by decide)
        rw [hx] at h
        cases h
       ·
        exact h
      obtain ⟨fx, hfx⟩ := hFj
      obtain ⟨ox, hox⟩ := HOUT.out (by rw [hfx]; simp)
      have hle : ((List.range (j + 1)).flatMap F).length = n + 1 := by rw [HLEN.out, hfx]; rfl
      have hno := (List.getElem?_eq_some_iff.1 hox).1
      obtain ⟨ob, oo, hoe, hobl, hoc⟩ := HEL.out.2 n _ (by rw [List.getElem?_map, hox]; rfl)
      subst hoe
      have hcO := hoc w9 (blk_below cb9 hobl) 0 _ rfl
      rw [Nat.add_zero] at hcO
      have hnI : (n : Int) < (outs.length : Int) := by omega
      have hnI2 : ¬ (outs.length : Int) ≤ (n : Int) := by omega
      have HLE := Lib.hid hle
      clear hle hfx hox HLEN HOUT HFJ HMY hoc hmt
      go_wp2_with fail
      go_roundw
      case rel => exact ⟨j + 1, by omega, by simp, by rw [HLE.out]; simp, cb9⟩
      case measure => simp [intOf]; omega
     ·
      obtain rfl : j = rs.length := by omega
      rw [← HO1.out]
      go_wp2_with fail
      go_ret
      exact ⟨by simp, Bw7.trans (cb.mono Bw7.size)⟩
end
end Go.Proofs.Ytckckabedgpbiaa
