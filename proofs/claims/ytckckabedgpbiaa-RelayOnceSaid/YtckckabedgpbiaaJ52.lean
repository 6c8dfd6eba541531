/- Texts of this proof, merged: RlyA, RlyB, RlyE, RlyF, RlyG, RlyI, RlyK, RlyQ, RlyWO. -/
import Derived.Test.YtckckabedgpbiaaJ50
import Derived.Test.YtckckabedgpbiaaJ51
import Derived.Test.YtckckabedgpbiaaArgsJ
import Derived.Test.YtckckabedgpbiaaJ49
set_option linter.unusedSimpArgs false
set_option linter.unusedVariables false
set_option maxRecDepth 4000
namespace Go.Proofs.Ytckckabedgpbiaa
section
open Go.RowKit Go.Shelf
section
variable {P : Program} {ops : Array Oper} {Q : Exit → Act → World → Prop} {md : Region.Mode} {S : World → Prop}
theorem wpAnyR_op1 (i : Nat) {fuel : Nat} {listed : Array Bool} {a : Act} {w : World} (hr : Region.ready md ops listed = [i])
  (h : ∀ w1, Below w.heap.size w w1 → wpOp P ops Q i (fun a' w' => S w' ∧ wpAnyR P md ops Q S fuel (listed.setIfInBounds i true) a' w') a w1) : wpAnyR P md ops Q S (fuel + 1) listed a w := by
 intro w1 h1
 refine ⟨fun h0 => by rw [hr] at h0; simp at h0, fun j hj => ?_⟩
 rw [hr] at hj
 obtain rfl := List.mem_singleton.1 hj
 exact h w1 h1
end
theorem portsOf {S : List Nat} {w : World} {B : Nat} {pa : Option Addr} {n cap : Nat} {rows : List (List Value)} {ps : List PortD} (h : OwnL w B 74 4 (.slice pa n cap) rows) (hl : ps.length ≤ 1000) (hS : ∀ s ∈ S, s < B)
  (hr : ∀ (q : Nat) (p : PortD), ps[q]? = some p → ∃ ta tc, rows[q]? = some (portV ta tc p) ∧ ElemsOff S w ta 1 (p.tagged.map fun v => [Value.int .i64 v])) : PortsOff S w pa ps := by
 obtain ⟨a', c', e, he⟩ := h.off S (fun s hs => .inl (hS s hs))
 cases e
 refine ⟨by unfold maxLen; omega, fun q p hq => ?_⟩
 obtain ⟨ta, tc, e1, e2⟩ := hr q p hq
 obtain ⟨b, off, e3, hb, hn, hra⟩ := he.2 q _ e1
 exact ⟨b, off, ta, tc, e3, hb, hn, hra, e2⟩
def RPortsOff (S : List Nat) (w : World) (pa : Option Addr) (rs : List RPortD) : Prop :=
 rs.length ≤ maxLen ∧ ∀ (i : Nat) (r : RPortD), rs[i]? = some r → ∃ b off ta cap, pa = some ⟨b, off, none⟩ ∧ b < w.heap.size ∧
  (∀ W, blk W b = blk w b → W.rangeAt b (off + i * 5) (rportV ta cap r)) ∧ ElemsOff S w ta 1 (r.p.tagged.map fun v => [Value.int .i64 v])
theorem RPortsAt.off {w : World} {pa : Option Addr} {rs : List RPortD} (h : RPortsAt w pa rs) (S : List Nat) (hS : ∀ x ∈ S, w.heap.size ≤ x) : RPortsOff S w pa rs := by
 refine ⟨h.1, fun i r hr => ?_⟩
 obtain ⟨b, off, ta, cap, e, hl, hra, ht⟩ := h.2 i r hr
 refine ⟨b, off, ta, cap, e, hl, hra, ht.1, fun q x hx => ?_⟩
 obtain ⟨b', off', e4, hb', hr'⟩ := ht.2 q x hx
 exact ⟨b', off', e4, hb', fun hm => by have := hS b' hm; omega, hr'⟩
theorem RPortsOff.at {S : List Nat} {w : World} {pa : Option Addr} {rs : List RPortD} (h : RPortsOff S w pa rs) : RPortsAt w pa rs := by
 refine ⟨h.1, fun i r hr => ?_⟩
 obtain ⟨b, off, ta, cap, e, hl, hra, ht⟩ := h.2 i r hr
 exact ⟨b, off, ta, cap, e, hl, hra, ht.elems⟩
theorem RPortsOff.below {S : List Nat} {w w' : World} {pa : Option Addr} {rs : List RPortD} (h : RPortsOff S w pa rs) (hb : Below w.heap.size w w') : RPortsOff S w' pa rs := by
 refine ⟨h.1, fun i r hr => ?_⟩
 obtain ⟨b, off, ta, cap, e, hl, hra, ht⟩ := h.2 i r hr
 exact ⟨b, off, ta, cap, e, Nat.lt_of_lt_of_le hl hb.size, fun W hW => hra W (hW.trans (blk_below hb hl)), ht.below hb⟩
theorem RPortsOff.get {S : List Nat} {w : World} {pa : Option Addr} {rs : List RPortD} (h : RPortsOff S w pa rs) {k : Nat} (hk : k < rs.length) : ∃ b off ta cap, pa = some ⟨b, off, none⟩ ∧ b < w.heap.size ∧
  (∀ W, Below w.heap.size w W → W.rangeAt b (off + k * 5) (rportV ta cap rs[k]) ∧ ElemsOff S W ta 1 (rs[k].p.tagged.map fun v => [Value.int .i64 v])) := by
 obtain ⟨b, off, ta, cap, e, hl, hr, ht⟩ := h.2 k rs[k] (List.getElem?_eq_getElem hk)
 exact ⟨b, off, ta, cap, e, hl, fun W hW => ⟨hr W (blk_below hW hl), ht.below hW⟩⟩
set_option maxRecDepth 20000 in
set_option maxHeartbeats 2000000 in
theorem of22X_any (S : List Nat) (pa : Option Addr) (cap : Nat) (rs : List RPortD) (w : World) (h : RPortsOff S w pa rs) (hSl : ∀ s ∈ S, s < w.heap.size) (hn : rs.length ≤ 1000) :
  Calls Try.prog 29 #[.slice pa rs.length cap] w fun e w' => (∃ u, e = .returned u ∧ ∃ pa' cap', u = .slice pa' rs.length cap' ∧ PortsOff S w' pa' (rs.map (·.p))) ∧ Below w.heap.size w w' := by
 have hnI : (rs.length : Int) ≤ 1000 := by omega
 go_enter Try.func29, Try.ntmps29
 go_wp2_with fail
 go_loopw [3, 4] (fun u i wr => ∃ (k : Nat) (ppa : Option Addr) (ppc : Nat) (rows : List (List Value)), k ≤ rs.length ∧ i = .int .i64 k ∧ u = .slice ppa k ppc ∧ rows.length = k ∧ OwnL wr w.heap.size 74 4 (.slice ppa k ppc) rows ∧
  (∀ (q : Nat) (r : RPortD), q < k → rs[q]? = some r → ∃ ta tc, rows[q]? = some (portV ta tc r.p) ∧ ElemsOff S w ta 1 (r.p.tagged.map fun v => [Value.int .i64 v])) ∧ Below w.heap.size w wr) (fun _ i _ => rs.length - (intOf i).toNat)
 case atStart => exact ⟨0, none, 0, [], by omega, rfl, rfl, rfl, OwnL.nil _ _ _ _, (fun q r hq _ => by omega), Below.refl _ _⟩
 case round =>
  obtain ⟨k, ppa, ppc, rows, hk, rfl, rfl, hrl, hown, hrows, cb⟩ := hrel
  have zb := cb.size
  by_cases hlt : k < rs.length
  ·
   have hltI : (k : Int) < (rs.length : Int) := by omega
   obtain ⟨pb, po, ta, tc, rfl, hpb, hrd⟩ := h.get hlt
   obtain ⟨r, hr⟩ : ∃ x, rs[k] = x := ⟨_, rfl⟩
   rw [hr] at hrd
   have hit : ElemsOff S w ta 1 (r.p.tagged.map fun v => [Value.int .i64 v]) := (hrd w (Below.refl _ _)).2
   have g0 : ∀ W, Below w.heap.size w W → W.cell? ⟨pb, po + k * 5, none⟩ = some (.int .i64 r.p.native) := fun W hW => (hrd W hW).1 0 _ rfl
   have g1 : ∀ W, Below w.heap.size w W → W.cell? ⟨pb, po + k * 5 + 1, none⟩ = some (.slice ta r.p.tagged.length tc) := fun W hW => (hrd W hW).1 1 _ rfl
   have g2 : ∀ W, Below w.heap.size w W → W.cell? ⟨pb, po + k * 5 + 2, none⟩ = some (.int .i64 r.p.hor) := fun W hW => (hrd W hW).1 2 _ rfl
   have g3 : ∀ W, Below w.heap.size w W → W.cell? ⟨pb, po + k * 5 + 3, none⟩ = some (.int .i64 r.p.lim) := fun W hW => (hrd W hW).1 3 _ rfl
   obtain ⟨o, ho⟩ : ∃ o, po + k * 5 = o := ⟨_, rfl⟩
   rw [ho] at g0 g1 g2 g3
   have HIT := Lib.hid hit
   have HR := Lib.hid hr
   have HRW := Lib.hid hrows
   have HOW := Lib.hid hown
   clear hrd hit hr hrows hown
   go_wp2_with fail
   have hG : GrowP fun W => Below w.heap.size w W := grow_base w
   refine wp_region_beginX [] (fun W => Below w.heap.size w W) hG rfl (by simp only [Rws]; (repeat (first | exact trivial | refine ⟨(by first | assumption | (simp [go_sem, *]; done)), (by first | omega | (simp; done) | (simp; omega)), ?_⟩))) (cb) (fun hS => ?_)
   refine sp 0 hG hS ?_
   refine sp 1 hG hS ?_
   refine sp 2 hG hS ?_
   refine sp 3 hG hS ?_
   refine sp 4 hG hS ?_
   refine sp 5 hG hS ?_
   refine sp 6 hG hS ?_
   refine sp 7 hG hS ?_
   refine sp 8 hG hS ?_
   refine sp 9 hG hS ?_
   refine sp 10 hG hS ?_
   refine sp 11 hG hS ?_
   refine sp 12 hG hS ?_
   refine sp 13 hG hS ?_
   refine sp 14 hG hS ?_
   refine sp 15 hG hS ?_
   refine sp 16 hG hS ?_
   refine sp 17 hG hS ?_
   refine sp 18 hG hS ?_
   refine sp 19 hG hS ?_
   refine sp 20 hG hS ?_
   refine sp 21 hG hS ?_
   refine sp 22 hG hS ?_
   refine wpAnyR_op1 23 (by kernel_rfl) (fun u6 hu6 => ?_)
   refine wpOp_step rfl (fun K hK => ?_)
   clear hS
   go_simp
   replace hu6 : Below wr.heap.size wr u6 := below_step (Below.drew (Below.refl _ _)) hu6
   have zu6 := hu6.size
   have cb6 := cb.trans (hu6.mono zb)
   refine hK _ _ ⟨⟨trivial, Below.alloc cb6 (by omega) _⟩, ?_⟩
   clear hK K
   refine wpAnyR_op1 24 (by kernel_rfl) (fun u8 hu8 => ?_)
   have zu8 := hu8.size
   rw [alloc_sizeW] at zu8
   have b38 : Below wr.heap.size wr u8 := (Below.alloc hu6 (by omega) _).trans (hu8.mono (by rw [alloc_sizeW]; omega))
   have cb8 := cb.trans (b38.mono zb)
   have rN8 : row u8 u6.heap.size = #[Value.int .i64 r.p.native, Value.slice ta r.p.tagged.length tc, Value.int .i64 r.p.hor, Value.int .i64 r.p.lim] := by rw [row_below hu8 (by rw [alloc_sizeW]; omega)]; exact row_alloc_at _ _ _ rfl
   refine wpOp_wp (by simp only [List.getElem?_toArray, List.getElem?_cons_succ, List.getElem?_cons_zero]; rfl) rfl ?_
   refine wp_appendL (t := 64) rfl Try.underlying64 portInfo (by decide) (by decide) w.heap.size _ rows rfl (HOW.out.below b38) u6.heap.size 1 [Value.int .i64 r.p.native, Value.slice ta r.p.tagged.length tc, Value.int .i64 r.p.hor, Value.int .i64 r.p.lim] rfl rN8 rfl rfl (by omega) (by omega) ?_
   intro v' u9 hown9 hb9 _
   obtain ⟨ppa2, ppc2, hve2, _⟩ := hown9.elems
   rw [List.length_append, List.length_singleton, hrl] at hve2
   subst hve2
   have cb9 := cb8.trans hb9
   have HO9 := Lib.hid hown9
   clear hown9
   have hS : XS [] (fun W => Below w.heap.size w W) u9 := ⟨trivial, cb9⟩
   refine ⟨hS, ?_⟩
   (try simp only [Act.put, List.setIfInBounds_toArray, List.set_cons_zero, List.set_cons_succ])
   refine sp 25 hG hS ?_
   refine wpAnyR_done (by kernel_rfl) (fun w10 bw10 => ?_) _
   have z9 := cb9.size
   have cb10 := cb9.trans (bw10.mono z9)
   have HO10 := Lib.hid (HO9.out.below bw10)
   have hrows2 : ∀ (q : Nat) (r' : RPortD), q < k + 1 → rs[q]? = some r' → ∃ ta' tc', (rows ++ [[Value.int .i64 r.p.native, Value.slice ta r.p.tagged.length tc, Value.int .i64 r.p.hor, Value.int .i64 r.p.lim]])[q]? = some (portV ta' tc' r'.p) ∧ ElemsOff S w ta' 1 (r'.p.tagged.map fun v => [Value.int .i64 v]) := by
    intro q r' hq hr'
    by_cases hqk : q < k
    ·
     obtain ⟨ta', tc', e1, e2⟩ := HRW.out q r' hqk hr'
     exact ⟨ta', tc', by rw [List.getElem?_append_left (by omega)]; exact e1, e2⟩
    ·
     have hqe : q = k := by omega
     subst hqe
     rw [List.getElem?_eq_getElem hlt, HR.out] at hr'
     cases hr'
     exact ⟨ta, tc, by rw [List.getElem?_append_right (by omega), hrl, Nat.sub_self]; rfl, HIT.out⟩
   have HRW2 := Lib.hid hrows2
   clear hrows2 hS g0 g1 g2 g3 hu6 hu8 b38 rN8 hb9 bw10 HO9
   go_wp2_with fail
   go_roundw
   case rel => exact ⟨k + 1, ppa2, ppc2, _, by omega, by simp, rfl, by simp [hrl], HO10.out, HRW2.out, cb10⟩
   case measure => simp [intOf]; omega
  ·
   obtain rfl : k = rs.length := by omega
   have hltI : ¬ (rs.length : Int) < (rs.length : Int) := by omega
   have HOW := Lib.hid hown
   have HRW := Lib.hid hrows
   clear hown hrows
   go_wp2_with fail
   go_ret
   refine ⟨⟨_, rfl, ppa, ⟨ppc, rfl⟩, portsOf HOW.out (by rw [List.length_map]; exact hn) hSl ?_⟩, cb⟩
   intro q p hq
   rw [List.getElem?_map] at hq
   cases hr : rs[q]? with
   | none => rw [hr] at hq; cases hq
   | some r =>
    rw [hr] at hq
    simp only [Option.map_some, Option.some.injEq] at hq
    subst hq
    obtain ⟨ta, tc, e1, e2⟩ := HRW.out q r (List.getElem?_eq_some_iff.1 hr).1 hr
    exact ⟨ta, tc, e1, e2.below cb⟩
theorem of22_any (pa : Option Addr) (cap : Nat) (rs : List RPortD) (w : World) (h : RPortsAt w pa rs) (hn : rs.length ≤ 1000) :
  Calls Try.prog 29 #[.slice pa rs.length cap] w fun e w' => (∃ u, e = .returned u ∧ ∃ pa' cap', u = .slice pa' rs.length cap' ∧ PortsOff [] w' pa' (rs.map (·.p))) ∧ Below w.heap.size w w' :=
 of22X_any [] pa cap rs w (h.off [] (fun x hx => by cases hx)) (fun x hx => by cases hx) hn
end
section
open Go.RowKit Go.Shelf
structure Act22 where
 d : Nat
 port : Int
 n : Int
 s : List UInt8
def act22C (x : Act22) : List Value := [Value.int .u8 (x.d : Int), Value.int .i64 x.port, Value.int .i64 x.n, Value.string ⟨x.s.toArray⟩]
def Acts22 (w : World) (a : Option Addr) (l : List Act22) : Prop := ElemsAt w a 4 (l.map act22C)
theorem Acts22.below {w w' : World} {a : Option Addr} {l : List Act22} (h : Acts22 w a l) (hb : Below w.heap.size w w') : Acts22 w' a l := ElemsAt.below h hb
theorem Acts22.get {w : World} {a : Option Addr} {l : List Act22} (h : Acts22 w a l) {k : Nat} (hk : k < l.length) : ∃ b off, a = some ⟨b, off, none⟩ ∧ b < w.heap.size ∧ ∀ W, Below w.heap.size w W → W.rangeAt b (off + k * 4) (act22C l[k]) := by
 obtain ⟨b, off, e, hb, hr⟩ := h.2 k (act22C l[k]) (by rw [List.getElem?_map, List.getElem?_eq_getElem hk]; rfl)
 exact ⟨b, off, e, hb, fun W hW => hr W (blk_below hW hb)⟩
def fewP (rs : List RPortD) (acts : List Act22) (w : World) (e : Ending) (w' : World) : Prop := (∃ b, e = .returned (.bool b) ∧ (b = true → rs.length ≤ 40 ∧ acts.length ≤ 60 ∧ ∀ a ∈ acts, a.s.length ≤ 2000)) ∧ w' = w
set_option maxRecDepth 20000 in
set_option maxHeartbeats 1000000 in
theorem few22_any (pa : Option Addr) (cap : Nat) (rs : List RPortD) (aa : Option Addr) (acap : Nat) (acts : List Act22) (w : World) (h : RPortsAt w pa rs) (ha : Acts22 w aa acts) (hs : ∀ a ∈ acts, a.s.length ≤ maxLen) :
  Calls Try.prog 28 #[.slice pa rs.length cap, .slice aa acts.length acap] w fun e w' => fewP rs acts w e w' := by
 have hm := h.1
 have hm2 : (rs.length : Int) ≤ 9223372036854775807 := by unfold maxLen at hm; omega
 have am := ha.1
 rw [List.length_map] at am
 have am2 : (acts.length : Int) ≤ 9223372036854775807 := by unfold maxLen at am; omega
 go_enter Try.func28, Try.ntmps28
 go_wp2_with fail
 go_loopw [5] (fun i wr => ∃ k : Nat, k ≤ rs.length ∧ i = .int .i64 k ∧ wr = w) (fun i _ => rs.length - (intOf i).toNat)
 case atStart => exact ⟨0, by omega, rfl, rfl⟩
 case round =>
  obtain ⟨k, hk, rfl, rfl⟩ := hrel
  by_cases hlt : k < rs.length ∧ k ≤ 40
  ·
   obtain ⟨hlt, h40⟩ := hlt
   have hltI : (k : Int) < (rs.length : Int) := by omega
   have h40I : (k : Int) ≤ 40 := by omega
   obtain ⟨pb, po, ta, tc, rfl, hpb, hrd⟩ := h.get hlt
   obtain ⟨r, hr⟩ : ∃ x, rs[k] = x := ⟨_, rfl⟩
   rw [hr] at hrd
   have htm := (hrd wr (Below.refl _ _)).2.len
   have htm2 : (r.p.tagged.length : Int) ≤ 9223372036854775807 := by unfold maxLen at htm; omega
   have g1 : wr.cell? ⟨pb, po + k * 5 + 1, none⟩ = some (.slice ta r.p.tagged.length tc) := (hrd wr (Below.refl _ _)).1 1 _ rfl
   obtain ⟨o, ho⟩ : ∃ o, po + k * 5 = o := ⟨_, rfl⟩
   rw [ho] at g1
   clear hrd hr
   by_cases hbig : 100 < r.p.tagged.length
   ·
    have hbigI : (100 : Int) < (r.p.tagged.length : Int) := by omega
    go_wp2_with fail
    go_ret
    exact (show fewP _ _ _ _ _ from ⟨⟨false, rfl, fun h => by cases h⟩, rfl⟩)
   ·
    have hbigI : ¬ (100 : Int) < (r.p.tagged.length : Int) := by omega
    go_wp2_with fail
    go_roundw
    case rel => exact ⟨k + 1, by omega, by simp, by first | rfl | trivial⟩
    case measure => simp [intOf]; omega
  ·
   have hout : ¬ (k : Int) < (rs.length : Int) ∨ ((k : Int) < (rs.length : Int) ∧ ¬ (k : Int) ≤ 40) := by
    by_cases h1 : k < rs.length
    ·
     exact .inr ⟨by omega, by omega⟩
    ·
     exact .inl (by omega)
   clear hlt
   rcases hout with h1 | ⟨h1, h2⟩
   all_goals
    go_wp2_with fail
    go_loopw [6] (fun i wq => ∃ q : Nat, q ≤ acts.length ∧ i = .int .i64 q ∧ wq = wr ∧ ∀ (j : Nat) (hj : j < acts.length), j < q → acts[j].s.length ≤ 2000) (fun i _ => acts.length - (intOf i).toNat)
    case atStart => exact ⟨0, by omega, rfl, rfl, fun j _ hj => by omega⟩
    case round =>
     obtain ⟨q, hq, rfl, rfl, hall⟩ := hrel
     have HA := Lib.hid hall
     clear hall
     by_cases hlt : q < acts.length ∧ q ≤ 60
     ·
      obtain ⟨hlt, h60⟩ := hlt
      have hltI : (q : Int) < (acts.length : Int) := by omega
      have h60I : (q : Int) ≤ 60 := by omega
      obtain ⟨ab, ao, rfl, hab, har⟩ := ha.get hlt
      obtain ⟨x, hx⟩ : ∃ x, acts[q] = x := ⟨_, rfl⟩
      rw [hx] at har
      have hsm : x.s.length ≤ maxLen := hs x (by rw [← hx]; exact List.getElem_mem hlt)
      have hsm2 : (x.s.length : Int) ≤ 9223372036854775807 := by unfold maxLen at hsm; omega
      have g1 : wr.cell? ⟨ab, ao + q * 4 + 3, none⟩ = some (.string ⟨x.s.toArray⟩) := har wr (Below.refl _ _) 3 _ rfl
      obtain ⟨o, ho⟩ : ∃ o, ao + q * 4 = o := ⟨_, rfl⟩
      rw [ho] at g1
      have HX := Lib.hid hx
      clear har hx
      by_cases hbig : 2000 < x.s.length
      ·
       have hbigI : (2000 : Int) < (x.s.length : Int) := by omega
       go_wp2_with fail
       go_ret
       exact (show fewP _ _ _ _ _ from ⟨⟨false, rfl, fun h => by cases h⟩, rfl⟩)
      ·
       have hbigI : ¬ (2000 : Int) < (x.s.length : Int) := by omega
       go_wp2_with fail
       go_roundw
       case rel =>
        refine ⟨q + 1, by omega, by simp, by first | rfl | trivial, fun j hj hjq => ?_⟩
        rcases Nat.lt_or_ge j q with h3 | h3
        ·
         exact HA.out j hj h3
        ·
         obtain rfl : j = q := by omega
         rw [HX.out]
         omega
       case measure => simp [intOf]; omega
     ·
      have hout : ¬ (q : Int) < (acts.length : Int) ∨ ((q : Int) < (acts.length : Int) ∧ ¬ (q : Int) ≤ 60) := by
       by_cases h1 : q < acts.length
       ·
        exact .inr ⟨by omega, by omega⟩
       ·
        exact .inl (by omega)
      have hfin : acts.length ≤ 60 → ∀ a ∈ acts, a.s.length ≤ 2000 := fun h6 a haa => by
       obtain ⟨j, hj, rfl⟩ := List.getElem_of_mem haa
       exact HA.out j hj (by omega)
      have HF := Lib.hid hfin
      clear hlt hfin
      rcases hout with h3 | ⟨h3, h4⟩
      all_goals
       by_cases c1 : rs.length ≤ 40
       ·
        have c1I : (rs.length : Int) ≤ 40 := by omega
        by_cases c2 : acts.length ≤ 60
        ·
         have c2I : (acts.length : Int) ≤ 60 := by omega
         go_wp2_with fail
         go_ret
         exact (show fewP _ _ _ _ _ from ⟨⟨true, rfl, fun _ => ⟨c1, c2, HF.out c2⟩⟩, rfl⟩)
        ·
         have c2I : ¬ (acts.length : Int) ≤ 60 := by omega
         go_wp2_with fail
         go_ret
         exact (show fewP _ _ _ _ _ from ⟨⟨false, rfl, fun h => by cases h⟩, rfl⟩)
       ·
        have c1I : ¬ (rs.length : Int) ≤ 40 := by omega
        go_wp2_with fail
        go_ret
        exact (show fewP _ _ _ _ _ from ⟨⟨false, rfl, fun h => by cases h⟩, rfl⟩)
/-! ### the document's example -/
def pA : PortD := ⟨1, [], 0, 5⟩
def lineA : List UInt8 := ethS m2 m4 2048 [] (-1) 0
def brA : BrS := stateS (stateS (newS 10 [pA, pA]) 0 3) 1 3
theorem lineA_parse : ethParse lineA = .ok ⟨m2, m4, 2048, [], -1, 0⟩ := ethParse_print m2 m4 2048 [] (-1) 0 (by decide)
theorem comeA (t : TalkD) (ht : t.ask = none) : (comeS brA 0 lineA t).2 = ([(1, lineA)], 0) := by
 unfold comeS
 rw [lineA_parse]
 obtain ⟨ip, mac, ok, ask⟩ := t
 dsimp only at ht
 subst ht
 rfl
theorem talk_any (dst src : Vector UInt8 6) (ty : Int) (body : List UInt8) (hb : body.length ≤ 10000) : ∃ t, TalkC dst src ty body t ∧ (ty ≠ 2054 ∧ ty ≠ 34525 → t.ask = none) := by
 obtain ⟨ip, mac, ok, hA⟩ := ann_both dst src ty body hb
 rcases asks_any dst src ty body hb with hno | ⟨ipq, ans, hs⟩
 ·
  exact ⟨⟨ip, mac, ok, none⟩, ⟨hA.prog, fun _ => hno, fun _ _ h => by cases h⟩, fun _ => rfl⟩
 ·
  refine ⟨⟨ip, mac, ok, some (ipq, ans)⟩, ⟨hA.prog, (fun h => by cases h), fun a b h => by cases h; exact hs⟩, fun h => ?_⟩
  rcases hs.typ with e | e
  ·
   exact absurd e h.1
  ·
   exact absurd e h.2
end
section
open Go.RowKit Go.Shelf
theorem newG (ageing : Int) (ps : List PortD) (h : newOkB ageing ps = true) : BrG (newS ageing ps) 0 ∧ 0 < ps.length ∧ (∀ p ∈ ps, okPort p = true) ∧ (∀ p ∈ ps, 0 ≤ p.lim ∧ p.lim ≤ 65535) := by
 unfold newOkB newOkL at h
 simp only [Bool.and_eq_true, decide_eq_true_eq, List.length_map, Bool.not_eq_true', List.any_map] at h
 obtain ⟨⟨h1, ⟨⟨⟨h2, h3⟩, h4⟩, h5⟩⟩, h6⟩ := h
 refine ⟨⟨h4, List.Pairwise.nil, (fun b hb => by cases hb), Nat.le_refl _, (fun b hb => by cases hb), List.Pairwise.nil, (fun b hb => by cases hb), by simp [newS], by simp [newS], h2, h3⟩, by omega, fun p hp => List.all_eq_true.1 h1 p hp, fun p hp => ?_⟩
 have := List.any_eq_false.1 h5 p hp
 simp only [Function.comp, badLim, Bool.or_eq_true, decide_eq_true_eq, not_or] at this
 omega
theorem portsA {w : World} {g : Nat} (hr : row w g = #[Value.int .i64 1, Value.slice none 0 0, Value.int .i64 0, Value.int .i64 5, Value.int .i64 1, Value.slice none 0 0, Value.int .i64 0, Value.int .i64 5]) (hg : g < w.heap.size) : PortsOff [] w (some ⟨g, 0, none⟩) [pA, pA] := by
 refine ⟨by simp [maxLen], fun i p hp => ?_⟩
 have hi : i < 2 := (List.getElem?_eq_some_iff.1 hp).1
 have hpA : p = pA := by
  match i, hp with
  | 0, hp => exact (Option.some.inj hp).symm
  | 1, hp => exact (Option.some.inj hp).symm
  | n + 2, hp => simp at hp
 subst hpA
 refine ⟨g, 0, none, 0, rfl, hg, by simp, fun W hW j u hj => ?_, ElemsOff.nil _ _ _ _⟩
 have hjl : j < 4 := (List.getElem?_eq_some_iff.1 hj).1
 have hrW : row W g = _ := (row_of_block hW).trans hr
 rw [cell_of_row' (by rw [hrW]; simp; omega), hrW]
 match i, hi, j, hjl, hj with
 | 0, _, 0, _, hj => exact hj
 | 0, _, 1, _, hj => exact hj
 | 0, _, 2, _, hj => exact hj
 | 0, _, 3, _, hj => exact hj
 | 1, _, 0, _, hj => exact hj
 | 1, _, 1, _, hj => exact hj
 | 1, _, 2, _, hj => exact hj
 | 1, _, 3, _, hj => exact hj
set_option maxRecDepth 20000 in
set_option maxHeartbeats 2000000 in
theorem awake22_any (w : World) : Calls Try.prog 27 #[] w fun e w' => e = .returned (.bool true) ∧ Below w.heap.size w w' := by
 go_enter Try.func27, Try.ntmps27
 go_wp2_with fail
 refine (rNew_any 10 (some ⟨w.heap.size + 1, 0, none⟩) 2 [pA, pA] _ (portsA ((row_alloc_at _ _ _ (by simp)).trans rfl) (by simp)) (by decide)).mono ?_
 rintro e w1 (⟨h0, _⟩ | ⟨hok, A, rfl, hnb⟩)
 ·
  exact absurd h0 (by decide)
 have z1 := hnb.below.size
 simp only [alloc_sizeW] at z1
 have b1 : Below w.heap.size w w1 := Below.trans (Below.alloc (Below.alloc (Below.refl _ _) (Nat.le_refl _) _) (by rw [alloc_sizeW]; omega) _) (hnb.below.mono (by rw [alloc_sizeW, alloc_sizeW]; omega))
 obtain ⟨g1, _⟩ := newG 10 [pA, pA] hok
 have hlo := hnb.lo
 simp only [alloc_sizeW] at hlo
 have H1 : Calls Try.prog 31 #[.pointer (some ⟨A.B, 0, none⟩), .int .i64 0, .int .i64 3] w1 fun e w' => e = .returned (.int .i64 0) ∧ BelowS w1.heap.size A.muts w1 w' ∧ BrT w' A (stateS (newS 10 [pA, pA]) 0 3) := rState_ok w1 hnb.br 0 3 (by decide) (by decide) (by decide) (by decide) g1.std (by decide)
 have H2 : ∀ W, BrT W A (stateS (newS 10 [pA, pA]) 0 3) → Calls Try.prog 31 #[.pointer (some ⟨A.B, 0, none⟩), .int .i64 1, .int .i64 3] W fun e w' => e = .returned (.int .i64 0) ∧ BelowS W.heap.size A.muts W w' ∧ BrT w' A brA := fun W hW => rState_ok W hW 1 3 (by decide) (by decide) (by decide) (by decide) List.Pairwise.nil (by decide)
 obtain ⟨t, ht, htn⟩ := talk_any m2 m4 2048 [] (by simp)
 have hcA := comeA t (htn (by decide))
 have gA : BrG brA 0 := ⟨by decide, List.Pairwise.nil, (fun b hb => by cases hb), by decide, (fun b hb => by cases hb), List.Pairwise.nil, (fun b hb => by cases hb), by decide, by decide, by decide⟩
 have H3 : ∀ W, BrT W A brA → Calls Try.prog 33 #[.pointer (some ⟨A.B, 0, none⟩), .int .i64 0, .string ⟨lineA.toArray⟩] W fun e w' => (∃ u, e = .returned (.tuple #[u, .int .i64 0]) ∧ OwnL w' W.heap.size 84 2 u [outC (1, lineA)]) ∧ BelowS W.heap.size A.muts W w' ∧ ∃ s, BrT w' A s := fun W hW => by
  have := rCome_any W hW (Nat.zero_le _) gA 0 (by decide) lineA (by decide) t (fun d hd => by rw [lineA_parse] at hd; cases hd; exact ht)
  rw [hcA] at this
  exact this.mono fun e w' ⟨h1, h2, h3⟩ => ⟨h1, h2, _, h3⟩
 have H4 := fun W => ethPrint_any m2 m4 2048 [] (-1) 0 W (by decide)
 rw [show ethS m2 m4 2048 [] (-1) 0 = lineA from rfl] at H4
 obtain ⟨ln, hln⟩ : ∃ x, lineA = x := ⟨_, rfl⟩
 rw [hln] at H3 H4
 have HX1 := Lib.hid H1
 have HX2 := Lib.hid H2
 have HX3 := Lib.hid H3
 have HX4 := Lib.hid H4
 clear H1 H2 H3 H4 hln hcA htn ht gA g1 hok
 go_wp2_with fail
 (with_reducible refine HX1.out.mono ?_)
 rintro e w2 ⟨rfl, b2, t2⟩
 go_wp2_with fail
 (with_reducible refine (HX2.out _ t2).mono ?_)
 rintro e w3 ⟨rfl, b3, t3⟩
 unfold ethV at HX4
 go_wp2_with fail
 (with_reducible refine (HX4.out _).mono ?_)
 rintro e w4 ⟨rfl, b4⟩
 have t4 := t3.below b4
 go_wp2_with fail
 (with_reducible refine (HX3.out _ t4).mono ?_)
 rintro e w5 ⟨⟨u, rfl, hown⟩, b5, _⟩
 obtain ⟨a, c, rfl, hel⟩ := hown.elems
 obtain ⟨ob, oo, rfl, hob, hra⟩ := hel.2 0 _ rfl
 have k0 : w5.cell? ⟨ob, oo, none⟩ = some (.int .i64 1) := hra w5 rfl 0 _ rfl
 have k1 : w5.cell? ⟨ob, oo + 1, none⟩ = some (.string ⟨ln.toArray⟩) := hra w5 rfl 1 _ rfl
 have hB : Below w.heap.size w w5 := by
  have hmu : ∀ x ∈ A.muts, w.heap.size ≤ x := by
   intro x hx
   have := hlo x (by simp only [BrA.muts, List.mem_cons, List.not_mem_nil, or_false] at hx ⊢; omega)
   omega
  have q2 := b2.below (B' := w.heap.size) b1.size hmu
  have q3 := b3.below (B' := w.heap.size) (Nat.le_trans b1.size b2.size) hmu
  have s3 : w.heap.size ≤ w3.heap.size := Nat.le_trans b1.size (Nat.le_trans b2.size b3.size)
  have q5 := b5.below (B' := w.heap.size) (Nat.le_trans s3 b4.size) hmu
  exact (((b1.trans q2).trans q3).trans (b4.mono s3)).trans q5
 clear hown hel hra hob
 go_wp2_with fail
 go_ret
 exact ⟨rfl, hB⟩
end
section
open Go.RowKit Go.Shelf
def sJ (ageing : Int) (ps : List PortD) (f : Nat → Int) (j : Nat) : BrS := { newS ageing ps with states := (List.range ps.length).map fun i => if i < j then f i else 0 }
theorem stateS_good {s : BrS} {N : Nat} (g : BrG s N) (k : Nat) (x : Int) : BrG (stateS s k x) N := by
 have hsub : ∀ b ∈ (stateS s k x).st, b ∈ s.st := by
  intro b hb
  unfold stateS at hb
  dsimp only at hb
  by_cases hx : x = 0
  ·
   rw [if_pos hx] at hb
   exact (List.mem_filter.1 hb).1
  ·
   rw [if_neg hx] at hb
   exact hb
 refine ⟨g.n32, ?_, fun b hb => g.stp b (hsub b hb), ?_, fun b hb => g.sta b (hsub b hb), g.bid, g.bia, g.bin, g.cs, g.age⟩
 ·
  unfold stateS
  dsimp only
  by_cases hx : x = 0
  ·
   rw [if_pos hx]; exact g.std.filter _
  ·
   rw [if_neg hx]; exact g.std
 ·
  unfold stateS
  dsimp only
  by_cases hx : x = 0
  ·
   rw [if_pos hx]; exact Nat.le_trans (List.length_filter_le _ _) g.stn
  ·
   rw [if_neg hx]; exact g.stn
theorem rat_mod (n k : Nat) (hk : 0 < k) : ((n : Int)).tmod (k : Int) = ((n % k : Nat) : Int) := by
 rw [Int.tmod_eq_emod_of_nonneg (by omega)]
 omega
theorem Acts22.nil (w : World) (a : Option Addr) : Acts22 w a [] := by
 unfold Acts22
 exact ElemsAt.nil _ _ _
theorem lo_muts {w : World} {A : BrA} (h : ∀ b ∈ [A.B, A.SB, A.LT, A.LM, A.HT, A.HM], w.heap.size ≤ b) : ∀ x ∈ A.muts, w.heap.size ≤ x := by
 intro x hx
 refine h x ?_
 simp only [BrA.muts, List.mem_cons, List.not_mem_nil, or_false] at hx ⊢
 omega
end
section
open Go.RowKit Go.Shelf
def stC (f : Nat → Int) (n j : Nat) : Array Value := ints ((List.range n).map fun i => if i < j then f i else 0)
@[simp, go_sem] theorem stC_size (f : Nat → Int) (n j : Nat) : (stC f n j).size = n := by simp [stC, ints]
theorem PortsOff.nil {S : List Nat} {w : World} {pa : Option Addr} {ps : List PortD} (h : PortsOff S w pa ps) : PortsOff [] w pa ps := by
 refine ⟨h.1, fun i p hp => ?_⟩
 obtain ⟨b, off, ta, cap, e, hl, hn, hr, ht⟩ := h.2 i p hp
 refine ⟨b, off, ta, cap, e, hl, List.not_mem_nil, hr, ht.1, fun q x hx => ?_⟩
 obtain ⟨b', off', e', hl', _, hr'⟩ := ht.2 q x hx
 exact ⟨b', off', e', hl', List.not_mem_nil, hr'⟩
theorem rNewX2_any (ageing : Int) (pa : Option Addr) (pcap : Nat) (ps : List PortD) (w : World) (xs : List Nat) (hxs : ∀ x ∈ xs, x < w.heap.size) (h : PortsOff [] w pa ps) (hn : ps.length ≤ 1000) :
  Calls Try.prog 30 #[.slice pa ps.length pcap, .int .i64 ageing] w fun e w' =>
   (newOkB ageing ps = false ∧ e = .returned (.tuple #[.pointer none, .int .i64 1]) ∧ Below w.heap.size w w') ∨
   (newOkB ageing ps = true ∧ ∃ A, e = .returned (.tuple #[.pointer (some ⟨A.B, 0, none⟩), .int .i64 0]) ∧ NewB w w' A ageing ps ∧ A.ex = w'.heap.size :: xs ∧ ∀ x ∈ [A.B, A.SB, A.LT, A.LM, A.HT, A.HM], x < w'.heap.size) :=
 (rNewX_any ageing pa pcap ps w xs hxs h hn).mono fun e w' h => h.imp id fun ⟨h1, A, h2, h3, h4⟩ => ⟨h1, { A with ex := w'.heap.size :: A.ex }, h2, ⟨h3.below, h3.br.more _ (Nat.le_refl _), h3.lo⟩, by rw [h4], by
  obtain ⟨l1, l2, l3, l4, l5, l6⟩ := h3.br.lts
  intro x hx
  simp only [List.mem_cons, List.not_mem_nil, or_false] at hx
  rcases hx with rfl | rfl | rfl | rfl | rfl | rfl <;> assumption⟩
end
section
open Go.RowKit Go.Shelf
theorem isL_eq {c : LB} {v : Int} {mac : Vector UInt8 6} (h : c.is v mac = true) : v = c.v ∧ mac = c.mac := by
 unfold LB.is at h
 simpa [Bool.and_eq_true, beq_iff_eq] using h
theorem distL_put (c : LB) : ∀ {m : List LB}, DistL m → DistL (putL c m)
 | [], _ => by unfold putL DistL; simp
 | d :: m, h => by
  rw [DistL, List.pairwise_cons] at h
  rw [putL]
  by_cases hc : d.is c.v c.mac = true
  ·
   rw [if_pos hc, DistL, List.pairwise_cons]
   refine ⟨fun b hb => ?_, h.2⟩
   have h1 := h.1 b hb
   obtain ⟨e1, e2⟩ := isL_eq hc
   unfold LB.is at h1 ⊢
   rw [e1, e2]
   exact h1
  ·
   rw [if_neg hc, DistL, List.pairwise_cons]
   refine ⟨fun b hb => ?_, distL_put c h.2⟩
   rcases putL_mem hb with rfl | hb
   ·
    exact Bool.eq_false_iff.2 hc
   ·
    exact h.1 b hb
theorem lenL_put (c : LB) : ∀ m : List LB, (putL c m).length ≤ m.length + 1
 | [] => by simp [putL]
 | d :: m => by
  have h1 := lenL_put c m
  rw [putL]
  by_cases hc : d.is c.v c.mac = true
  ·
   rw [if_pos hc]; simp
  ·
   rw [if_neg hc]; simp; omega
theorem distL_hear {lim v : Int} {mac : Vector UInt8 6} {port : Int} {m : List LB} (h : DistL m) : DistL (hearL lim v mac port m) := by
 unfold hearL
 generalize ((match findL v mac m with | some b => b.port == port | none => false) || decide ((onL port m : Int) < lim)) = b
 cases b
 ·
  exact h
 ·
  exact distL_put _ h
theorem lenL_hear {lim v : Int} {mac : Vector UInt8 6} {port : Int} {m : List LB} : (hearL lim v mac port m).length ≤ m.length + 1 := by
 unfold hearL
 generalize ((match findL v mac m with | some b => b.port == port | none => false) || decide ((onL port m : Int) < lim)) = b
 cases b
 ·
  exact Nat.le_succ _
 ·
  exact lenL_put _ m
theorem keyL {time : Int} {a x : LB} (h : stepL time a = some x) : x.v = a.v ∧ x.mac = a.mac ∧ x.port = a.port ∧ x.age = a.age + 1 ∧ a.age + 1 < time := by
 unfold stepL at h
 split at h
 ·
  cases h
 ·
  cases h
  exact ⟨rfl, rfl, rfl, rfl, by omega⟩
theorem distL_tick (time : Int) {m : List LB} (h : DistL m) : DistL (tickL time m) := by
 unfold DistL tickL at *
 rw [List.pairwise_filterMap]
 refine h.imp fun {a b} hab x hx y hy => ?_
 obtain ⟨h1, h2, _⟩ := keyL hx
 obtain ⟨h3, h4, _⟩ := keyL hy
 unfold LB.is at *
 rw [h1, h2, h3, h4]
 exact hab
def tickS (s : BrS) : BrS := { s with st := tickL s.ageing s.st, bi := tickH s.ageing s.bi }
theorem tickS_good {s : BrS} {N : Nat} (g : BrG s N) : BrG (tickS s) N := by
 refine ⟨g.n32, distL_tick _ g.std, fun b hb => ?_, Nat.le_trans (List.length_filterMap_le _ _) g.stn, fun b hb => ?_, dist_tick _ g.bid, age_tick g.age.2 g.bia, Nat.le_trans (List.length_filterMap_le _ _) g.bin, g.cs, g.age⟩
 ·
  obtain ⟨a, ha, hab⟩ := List.mem_filterMap.1 hb
  obtain ⟨_, _, e, _⟩ := keyL hab
  obtain ⟨j, h1, h2⟩ := g.stp a ha
  exact ⟨j, e.trans h1, h2⟩
 ·
  obtain ⟨a, ha, hab⟩ := List.mem_filterMap.1 hb
  obtain ⟨_, _, _, e, hlt⟩ := keyL hab
  have := g.sta a ha
  have := g.age.2
  omega
theorem BrG.more {s : BrS} {N M : Nat} (g : BrG s N) (h : N ≤ M) : BrG s M :=
 ⟨g.n32, g.std, g.stp, Nat.le_trans g.stn h, g.sta, g.bid, g.bia, g.bin, by obtain ⟨h0, h1, h2, h3, h4⟩ := g.cs; omega, g.age⟩
theorem comeD_good {s : BrS} {N : Nat} (g : BrG s N) {k : Nat} (hk : k < s.ports.length) (d : EthD) (t : TalkD) : BrG (comeD s k d t).1 (N + 1) := by
 obtain ⟨h0, h1, h2, h3, h4⟩ := g.cs
 have hst : ∀ v : Int, DistL (hearL (s.port k).lim v d.src k s.st) ∧ (∀ b ∈ hearL (s.port k).lim v d.src k s.st, ∃ j : Nat, b.port = (j : Int) ∧ j < s.ports.length) ∧ (hearL (s.port k).lim v d.src k s.st).length ≤ N + 1 ∧ (∀ b ∈ hearL (s.port k).lim v d.src k s.st, 0 ≤ b.age ∧ b.age ≤ 1000000) := fun v => by
  refine ⟨distL_hear g.std, hear_ports g rfl hk, Nat.le_trans lenL_hear (by have := g.stn; omega), fun b hb => ?_⟩
  rcases hear_mem hb with e | e
  ·
   rw [e]; exact ⟨by simp, by simp⟩
  ·
   exact g.sta b e
 have hn := g.stn
 unfold comeD
 split
 ·
  exact ⟨g.n32, g.std, g.stp, by show s.st.length ≤ N + 1; omega, g.sta, g.bid, g.bia, g.bin, by dsimp only; omega, g.age⟩
 ·
  split
  ·
   exact ⟨g.n32, g.std, g.stp, by show s.st.length ≤ N + 1; omega, g.sta, g.bid, g.bia, g.bin, by dsimp only; omega, g.age⟩
  ·
   split
   ·
    exact ⟨g.n32, g.std, g.stp, by show s.st.length ≤ N + 1; omega, g.sta, g.bid, g.bia, g.bin, by dsimp only; omega, g.age⟩
   ·
    dsimp only
    obtain ⟨q1, q2, q3, q4⟩ := hst (inP (s.port k).native (s.port k).tagged d.vlan).1
    split
    ·
     exact ⟨g.n32, q1, q2, q3, q4, g.bid, g.bia, g.bin, by dsimp only; omega, g.age⟩
    ·
     split
     ·
      exact ⟨g.n32, q1, q2, q3, q4, dist_learn g.bid, age_learn g.bia, len_learn g.bin, by dsimp only; omega, g.age⟩
     ·
      exact ⟨g.n32, q1, q2, q3, q4, dist_learn g.bid, age_learn g.bia, len_learn g.bin, by dsimp only; omega, g.age⟩
theorem comeS_good {s : BrS} {N : Nat} (g : BrG s N) {k : Nat} (hk : k < s.ports.length) (l : List UInt8) (t : TalkD) : BrG (comeS s k l t).1 (N + 1) := by
 obtain ⟨h0, h1, h2, h3, h4⟩ := g.cs
 have hn := g.stn
 unfold comeS
 split
 ·
  exact ⟨g.n32, g.std, g.stp, by show s.st.length ≤ N + 1; omega, g.sta, g.bid, g.bia, g.bin, by dsimp only; omega, g.age⟩
 ·
  exact comeD_good g hk _ t
theorem comeD_ports (s : BrS) (k : Nat) (d : EthD) (t : TalkD) : (comeD s k d t).1.ports = s.ports ∧ (comeD s k d t).1.states = s.states ∧ (comeD s k d t).1.ageing = s.ageing := by
 unfold comeD
 split
 ·
  exact ⟨rfl, rfl, rfl⟩
 ·
  split
  ·
   exact ⟨rfl, rfl, rfl⟩
  ·
   split
   ·
    exact ⟨rfl, rfl, rfl⟩
   ·
    dsimp only
    split
    ·
     exact ⟨rfl, rfl, rfl⟩
    ·
     split <;> exact ⟨rfl, rfl, rfl⟩
theorem comeS_ports (s : BrS) (k : Nat) (l : List UInt8) (t : TalkD) : (comeS s k l t).1.ports = s.ports ∧ (comeS s k l t).1.states = s.states ∧ (comeS s k l t).1.ageing = s.ageing := by
 unfold comeS
 split
 ·
  exact ⟨rfl, rfl, rfl⟩
 ·
  exact comeD_ports s k _ t
structure HearI (ps : List PortD) (st1 : List LB) (ok : Bool) (j : Nat) (s : BrS) : Prop where
 ports : s.ports = ps
 sts : s.states.length = ps.length
 st : s.st = if j ≤ 2 then [] else st1
 c0 : s.c0 = 0
 c1 : s.c1 = 0
 c2 : s.c2 = if j ≤ 3 then (j : Int) else 3
 cs : s.c3 + s.c4 = if j ≤ 3 then 0 else 1
 p3 : 0 ≤ s.c3
 p4 : 0 ≤ s.c4
 ans : s.c4 ≠ 0 → ok = true
 bi : j ≤ 3 → s.bi = []
 g : BrG s j
def st1 (lim v : Int) (mac : Vector UInt8 6) (k : Nat) : List LB := if 0 < lim then [⟨v, mac, k, 0⟩] else []
end
section
open Go.RowKit Go.Shelf
theorem inP_out {native : Int} {l : List Int} {v : Int} (hm : memberP native l v = true) : inP native l (outP native v 0).1 = (v, 0) := by
 have hv := member_range hm
 have e : ∀ vl, inP native l vl = if memberP native l (if vl = -1 ∨ vl = 0 then native else vl) = true then ((if vl = -1 ∨ vl = 0 then native else vl), 0) else (0, 12) := fun _ => rfl
 rw [e]
 have hx : (if (outP native v 0).1 = -1 ∨ (outP native v 0).1 = 0 then native else (outP native v 0).1) = v := by
  unfold outP
  by_cases h : v = native
  ·
   simp [h]
  ·
   rw [if_neg h]
   dsimp only
   rw [if_neg (by omega)]
 rw [hx, if_pos hm]
structure KnowD (n : Int) (ps : List PortD) (p q : Nat) (P Q : PortD) : Prop where
 ok : newOkB n ps = true
 hp : ps[p]? = some P
 hq : ps[q]? = some Q
 ne : p ≠ q
 v : P.native ≠ 0
 lp : P.lim ≠ 0
 lq : Q.lim ≠ 0
 mem : memberP Q.native Q.tagged P.native = true
def allOn (n : Int) (ps : List PortD) : BrS := sJ n ps (fun _ => 3) ps.length
structure KnowI (n : Int) (ps : List PortD) (st : List LB) (N : Nat) (s : BrS) : Prop where
 ports : s.ports = ps
 age : s.ageing = n
 sts : ∀ i, i < ps.length → s.states.getD i 0 = 3
 stl : s.states = (allOn n ps).states
 st : s.st = st
 g : BrG s N
section
variable {n : Int} {ps : List PortD} {p q : Nat} {P Q : PortD} (K : KnowD n ps p q P Q)
include K
theorem KnowD.lims : 0 < P.lim ∧ 0 < Q.lim := by
 have h := (newG n ps K.ok).2.2.2
 have h1 := h P (List.mem_of_getElem? K.hp)
 have h2 := h Q (List.mem_of_getElem? K.hq)
 have := K.lp
 have := K.lq
 omega
theorem KnowD.right : rightP P.native P.tagged = true := by
 have h := (newG n ps K.ok).2.2.1 P (List.mem_of_getElem? K.hp)
 unfold okPort at h
 simp only [Bool.and_eq_true] at h
 exact h.1.1
theorem KnowI.port {s : BrS} {st : List LB} {N : Nat} (h : KnowI n ps st N s) : s.port p = P ∧ s.port q = Q := by
 unfold BrS.port
 rw [h.ports, List.getD_eq_getElem?_getD, List.getD_eq_getElem?_getD, K.hp, K.hq]
 exact ⟨rfl, rfl⟩
def KnowD.may (_ : KnowD n ps p q P Q) : Bool := Q.hor == 0 || Q.hor != P.hor
end
end
section
open Go.RowKit Go.Shelf
theorem inP_outs {native : Int} {l : List Int} {v : Int} (prio : Int) (hm : memberP native l v = true) : inP native l (outP native v prio).1 = (v, 0) := by
 have h := inP_out hm
 have e : (outP native v prio).1 = (outP native v 0).1 := by
  unfold outP
  split <;> rfl
 rw [e]
 exact h
structure OutOk (s : BrS) (k : Nat) (d : EthD) (v : Int) (ans : Bool) (n : Nat) (x : Nat × List UInt8) (dst src : Vector UInt8 6) (ty : Int) (body : List UInt8) : Prop where
 str : x.2 = ethS dst src ty body (outP (s.port x.1).native v d.prio).1 (outP (s.port x.1).native v d.prio).2
 right : rightB ty (outP (s.port x.1).native v d.prio).1 (outP (s.port x.1).native v d.prio).2 body.length = true
 lt : x.1 < s.ports.length
 mem : memberP (s.port x.1).native (s.port x.1).tagged v = true
 st : s.states.getD x.1 0 = 3
 yes : ans = true → x.1 = k ∧ dst = d.src ∧ n = 1
 no : ans = false → x.1 ≠ k ∧ dst = d.dst ∧ src = d.src ∧ ty = d.ty ∧ body = d.body
structure OnceI (s : BrS) (k : Nat) (d : EthD) (outs : List (Nat × List UInt8)) (ans : Bool) (v : Int) : Prop where
 st : s.states.getD k 0 = 3
 inp : inP (s.port k).native (s.port k).tagged d.vlan = (v, 0)
 each : ∀ x ∈ outs, ∃ dst src ty body, OutOk s k d v ans outs.length x dst src ty body
 asc : outs.Pairwise fun a b => a.1 < b.1
theorem flat_asc {f : Nat → List (Nat × List UInt8)} (hf : ∀ i, f i = [] ∨ ∃ x, f i = [(i, x)]) : ∀ n, ((List.range n).flatMap f).Pairwise (fun a b => a.1 < b.1) ∧ ∀ x ∈ (List.range n).flatMap f, x.1 < n
 | 0 => by simp
 | n + 1 => by
  obtain ⟨h1, h2⟩ := flat_asc hf n
  rw [List.range_succ, List.flatMap_append]
  have e : List.flatMap f [n] = f n := by simp
  rw [e]
  refine ⟨List.pairwise_append.2 ⟨h1, ?_, ?_⟩, ?_⟩
  ·
   rcases hf n with h | ⟨x, h⟩ <;> rw [h] <;> simp
  ·
   intro a ha b hb
   rcases hf n with h | ⟨x, h⟩
   ·
    rw [h] at hb; cases hb
   ·
    rw [h] at hb
    rw [List.mem_singleton.1 hb]
    exact h2 a ha
  ·
   intro x hx
   rcases List.mem_append.1 hx with hx | hx
   ·
    have := h2 x hx; omega
   ·
    rcases hf n with h | ⟨y, h⟩
    ·
     rw [h] at hx; cases hx
    ·
     rw [h] at hx
     rw [List.mem_singleton.1 hx]
     exact Nat.lt_succ_self n
theorem printedS_mem {p : PortD} {k : Nat} {v : Int} {dst src : Vector UInt8 6} {ty : Int} {body : List UInt8} {prio : Int} {x : Nat × List UInt8} (h : x ∈ printedS p k v dst src ty body prio) :
  printedS p k v dst src ty body prio = [x] ∧ x.1 = k ∧ x.2 = ethS dst src ty body (outP p.native v prio).1 (outP p.native v prio).2 ∧ rightB ty (outP p.native v prio).1 (outP p.native v prio).2 body.length = true := by
 unfold printedS at h ⊢
 split at h
 ·
  rename_i hr
  rw [List.mem_singleton.1 h, if_pos hr]
  exact ⟨rfl, rfl, rfl, hr⟩
 ·
  cases h
theorem once_bad {s : BrS} {k : Nat} {l : List UInt8} {t : TalkD} (h : (comeS s k l t).2.2 ≠ 0) : (comeS s k l t).2.1 = [] := by
 unfold comeS at h ⊢
 split
 ·
  rfl
 ·
  rename_i d hd
  rw [hd] at h
  dsimp only at h
  unfold comeD at h ⊢
  split
  ·
   rfl
  ·
   rename_i h1
   rw [if_neg h1] at h
   split
   ·
    rfl
   ·
    rename_i h2
    rw [if_neg h2] at h
    split
    ·
     rfl
    ·
     rename_i h3
     rw [if_neg h3] at h
     dsimp only at h ⊢
     split
     ·
      rfl
     ·
      rename_i h4
      rw [if_neg h4] at h
      split
      ·
       rename_i c ans ha
       rw [ha] at h
       exact absurd rfl h
      ·
       rename_i ha
       rw [ha] at h
       exact absurd rfl h
theorem once_good {s : BrS} {k : Nat} (hk : k < s.ports.length) (hst : s.states.getD k 0 ≤ 3) {l : List UInt8} {t : TalkD} (h : (comeS s k l t).2.2 = 0) :
  ∃ d, ethParse l = .ok d ∧ (((d.dst == bpduTo) = true ∧ (comeS s k l t).2.1 = []) ∨
   ((d.dst == bpduTo) = false ∧ ∃ v ans, (if ans then (comeS s k l t).1.c4 = s.c4 + 1 else (comeS s k l t).1.c4 = s.c4) ∧ OnceI s k d (comeS s k l t).2.1 ans v)) := by
 unfold comeS at h ⊢
 cases hp : ethParse l with
 | error e =>
  rw [hp] at h
  exact absurd h (by show (3 : Int) ≠ 0; decide)
 | ok d =>
  rw [hp] at h
  dsimp only at h ⊢
  refine ⟨d, rfl, ?_⟩
  unfold comeD at h ⊢
  by_cases h1 : grp d.src = true
  ·
   rw [if_pos h1] at h
   exact absurd h (by show (3 : Int) ≠ 0; decide)
  rw [if_neg h1] at h ⊢
  by_cases h2 : (d.dst == bpduTo) = true
  ·
   rw [if_pos h2]
   exact .inl ⟨h2, rfl⟩
  rw [if_neg h2] at h ⊢
  by_cases h3 : (decide (s.states.getD k 0 < 2) || (inP (s.port k).native (s.port k).tagged d.vlan).2 != 0) = true
  ·
   rw [if_pos h3] at h
   exact absurd h (by show (7 : Int) ≠ 0; decide)
  rw [if_neg h3] at h ⊢
  dsimp only at h ⊢
  by_cases h4 : s.states.getD k 0 < 3
  ·
   rw [if_pos h4] at h
   exact absurd h (by show (7 : Int) ≠ 0; decide)
  rw [if_neg h4] at h ⊢
  right
  have hst3 : s.states.getD k 0 = 3 := by omega
  simp only [Bool.or_eq_true, decide_eq_true_eq, bne_iff_ne, ne_eq, not_or, Classical.not_not] at h3
  obtain ⟨v, hv⟩ : ∃ v, inP (s.port k).native (s.port k).tagged d.vlan = (v, 0) := ⟨_, Prod.ext rfl h3.2⟩
  have hm := (inP_ok hv).1
  rw [hv] at h ⊢
  dsimp only at h ⊢
  refine ⟨Bool.eq_false_iff.2 h2, v, ?_⟩
  cases ha : askS v t (learnH v t.ip t.mac t.ok s.bi) with
  | some x =>
   obtain ⟨c, ans⟩ := x
   refine ⟨true, rfl, ⟨hst3, hv, ?_, ?_⟩⟩
   ·
    intro x hx
    dsimp only at hx ⊢
    obtain ⟨e1, e2, e3, e4⟩ := printedS_mem hx
    refine ⟨d.src, c.mac, d.ty, ans c.mac, ⟨by rw [e2]; exact e3, by rw [e2]; exact e4, by rw [e2]; exact hk, by rw [e2]; exact hm, by rw [e2]; exact hst3, fun _ => ⟨e2, rfl, by rw [e1]; rfl⟩, fun h => by cases h⟩⟩
   ·
    dsimp only
    unfold printedS
    split <;> simp
  | none =>
   refine ⟨false, rfl, ⟨hst3, hv, ?_, ?_⟩⟩
   ·
    intro x hx
    dsimp only at hx ⊢
    unfold relayedS at hx
    obtain ⟨i, hi, hxi⟩ := List.mem_flatMap.1 hx
    rw [List.mem_range] at hi
    unfold relF at hxi
    split at hxi
    ·
     rename_i hg
     obtain ⟨e1, e2, e3, e4⟩ := printedS_mem hxi
     unfold goesTo mayB at hg
     simp only [Bool.and_eq_true, bne_iff_ne, beq_iff_eq] at hg
     obtain ⟨⟨⟨⟨g1, g2⟩, g3⟩, _⟩, _⟩ := hg
     refine ⟨d.dst, d.src, d.ty, d.body, ⟨by rw [e2]; exact e3, by rw [e2]; exact e4, by rw [e2]; exact hi, by rw [e2]; exact g3, by rw [e2]; exact g2, fun h => (by cases h), fun _ => ⟨by rw [e2]; exact Ne.symm g1, rfl, rfl, rfl, rfl⟩⟩⟩
    ·
     cases hxi
   ·
    dsimp only
    unfold relayedS
    refine (flat_asc (fun i => ?_) _).1
    unfold relF
    split
    ·
     unfold printedS
     split
     ·
      exact .inr ⟨_, rfl⟩
     ·
      exact .inl rfl
    ·
     exact .inl rfl
theorem asc_get {l : List (Nat × List UInt8)} (h : l.Pairwise fun a b => a.1 < b.1) {m : Nat} (hm : m + 1 < l.length) : (l[m]'(by omega)).1 < l[m + 1].1 :=
 List.pairwise_iff_getElem.1 h m (m + 1) (by omega) hm (Nat.lt_succ_self m)
end
section
open Go.RowKit Go.Shelf
theorem talk_for (l : List UInt8) : ∃ t, ∀ d, ethParse l = .ok d → TalkC d.dst d.src d.ty d.body t := by
 cases hp : ethParse l with
 | error e => exact ⟨⟨[], mac0, false, none⟩, fun d hd => by cases hd⟩
 | ok d =>
  obtain ⟨t, ht, _⟩ := talk_any d.dst d.src d.ty d.body (by have := (ethParse_prio hp).2.2; omega)
  exact ⟨t, fun d' hd => by cases hd; exact ht⟩
set_option maxRecDepth 20000 in
set_option maxHeartbeats 8000000 in
theorem relayOnce_any (pa : Option Addr) (cap : Nat) (rs : List RPortD) (ageing : Int) (aa : Option Addr) (acap : Nat) (acts : List Act22) (w : World) (h : RPortsAt w pa rs) (hA : Acts22 w aa acts) (hsl : ∀ a ∈ acts, a.s.length ≤ maxLen) (hdl : ∀ a ∈ acts, a.d < 256) :
  Calls Try.prog 12 #[.slice pa rs.length cap, .int .i64 ageing, .slice aa acts.length acap] w fun e w' => e = .returned (.bool true) ∧ Below w.heap.size w w' := by
 have hm := h.1
 have hm2 : (rs.length : Int) ≤ 9223372036854775807 := by unfold maxLen at hm; omega
 have am := hA.1
 rw [List.length_map] at am
 have am2 : (acts.length : Int) ≤ 9223372036854775807 := by unfold maxLen at am; omega
 go_enter Try.func12, Try.ntmps12
 go_wp2_with fail
 (with_reducible refine (awake22_any _).mono ?_)
 rintro e w1 ⟨rfl, b1⟩
 have h1 := h.below b1
 have hA1 := hA.below b1
 have z1 := b1.size
 go_wp2_with fail
 (with_reducible refine (few22_any pa cap rs aa acap acts _ h1 hA1 hsl).mono ?_)
 rintro e w2 hfew
 obtain ⟨⟨fb, rfl, hfb⟩, rfl⟩ := hfew
 cases fb with
 | false =>
  go_wp2_with fail
  (with_reducible refine (awake22_any _).mono ?_)
  rintro e w3 ⟨rfl, b3⟩
  go_wp2_with fail
  go_ret
  exact ⟨rfl, b1.trans (b3.mono z1)⟩
 | true =>
 obtain ⟨h40, h60, h2k⟩ := hfb rfl
 clear hfb
 go_wp2_with fail
 (with_reducible refine (of22_any pa cap rs _ h1 (by omega)).mono ?_)
 rintro e w3 ⟨⟨u, rfl, pa', cap', rfl, hpo⟩, b3⟩
 have z3 := b3.size
 have B3 := b1.trans (b3.mono z1)
 have zB3 := B3.size
 have hN := rNewX2_any ageing pa' cap' (rs.map (·.p)) w3 [] (by intro s hs; cases hs) hpo (by rw [List.length_map]; omega)
 rw [List.length_map] at hN
 have HN := Lib.hid hN
 clear hN hA1
 go_wp2_with fail
 (with_reducible refine HN.out.mono ?_)
 rintro e w4 (⟨_, rfl, b4⟩ | ⟨hok, A, rfl, hnb, hex, hAlt⟩)
 ·
  go_wp2_with fail
  go_ret
  exact ⟨rfl, B3.trans (b4.mono zB3)⟩
 have hmu := lo_muts hnb.lo
 have hbr := hnb.br
 obtain ⟨ps, hps⟩ : ∃ x, rs.map (·.p) = x := ⟨_, rfl⟩
 have hpl : ps.length = rs.length := by rw [← hps, List.length_map]
 rw [hps] at hbr hok
 have hgd := newG ageing ps hok
 have hn32 : ps.length ≤ 32 := hgd.1.n32
 have hplI : (rs.length : Int) ≤ 32 := by omega
 have B4 : Below w3.heap.size w3 w4 := hnb.below
 have z4 := B4.size
 obtain ⟨w5, hmk, o5, b5⟩ := make_own (P := Try.prog) (w := w4) (t := 69) inferInstance .i64 .i64 rs.length (by omega)
 have hbr5 := hbr.below b5
 obtain ⟨ST, hST⟩ : ∃ x, w4.heap.size = x := ⟨_, rfl⟩
 rw [hST] at hmk o5 hex hAlt z4
 have rS5 := o5.full.1
 have lS5 := o5.full.2.1
 have c5 : Below w3.heap.size w3 w5 := B4.trans (b5.mono (by omega))
 have hSTm : ST ∉ A.muts := by
  intro hm
  have := hAlt ST (by simp only [BrA.muts, List.mem_cons, List.not_mem_nil, or_false] at hm ⊢; omega)
  omega
 have hrS5 : row w5 ST = ints (newS ageing ps).states := by
  rw [rS5]
  unfold newS ints
  simp [hpl]
 have hn0 : ∀ x ∈ (newS ageing ps).states, (0 : Int) ≤ x ∧ x ≤ 3 := by
  intro x hx
  have := (List.mem_replicate.1 hx).2
  omega
 have HRS5 := Lib.hid hrS5
 have HN0 := Lib.hid hn0
 have HBR := Lib.hid hbr5
 have HGD := Lib.hid hgd
 have HMU := Lib.hid hmu
 have HEX := Lib.hid hex
 have HAL := Lib.hid hAlt
 have HSM := Lib.hid hSTm
 have HPS := Lib.hid hps
 have HDL := Lib.hid hdl
 have H2K := Lib.hid h2k
 clear hbr hok hnb hmu HN hps hgd hpo o5 b5 hex hAlt hbr5 hST B4 hSTm rS5 hrS5 hn0 hdl h2k
 go_wp2_with fail
 go_loopw [10] (fun i wr => ∃ j : Nat, j ≤ acts.length ∧ i = .int .i64 j ∧ ∃ s, BrG s j ∧ s.ports = ps ∧ (∀ x ∈ s.states, (0 : Int) ≤ x ∧ x ≤ 3) ∧ BrT wr A s ∧ row wr ST = ints s.states ∧ Below w3.heap.size w3 wr ∧ ST < wr.heap.size) (fun i _ => acts.length - (intOf i).toNat)
 case atStart => exact ⟨0, by omega, rfl, _, HGD.out.1, rfl, HN0.out, HBR.out, HRS5.out, c5, lS5⟩
 case round =>
  clear HBR HRS5 HN0 c5 lS5 hmk
  obtain ⟨j, hj, rfl, s, hg, hsp, hsr, hT, rS, cb, lS⟩ := hrel
  have zc := cb.size
  by_cases hlt : j < acts.length
  ·
   have hltI : (j : Int) < (acts.length : Int) := by omega
   have hsl2 : s.states.length = ps.length := by rw [hT.lenS, hsp]
   have hspl : s.ports.length = rs.length := by rw [hsp]; exact hpl
   obtain ⟨ab, ao, rfl, hal, hrd⟩ := hA.get hlt
   obtain ⟨a, ha⟩ : ∃ x, acts[j] = x := ⟨_, rfl⟩
   have ha2k : a.s.length ≤ 2000 := by rw [← ha]; exact H2K.out _ (List.getElem_mem hlt)
   have had : a.d < 256 := by rw [← ha]; exact HDL.out _ (List.getElem_mem hlt)
   rw [ha] at hrd
   have C0 : Below w.heap.size w wr := B3.trans (cb.mono zB3)
   have hld := run_loadS_at (P := Try.prog) (t := 100) (hrd wr C0) (by simp [act22C])
   unfold act22C at hld
   obtain ⟨o, ho⟩ : ∃ o, ao + j * 4 = o := ⟨_, rfl⟩
   rw [ho] at hld
   have hmo := rat_mod a.d 10 (by decide)
   obtain ⟨m, hm_⟩ : ∃ x, a.d % 10 = x := ⟨_, rfl⟩
   have hml : m < 10 := by rw [← hm_]; exact Nat.mod_lt _ (by decide)
   rw [hm_] at hmo
   have hmo10 : (a.d : Int).tmod 10 = (m : Int) := hmo
   obtain ⟨w6, hw6⟩ : ∃ x, wr.alloc (.cells #[Value.int .u8 (a.d : Int), Value.int .i64 a.port, Value.int .i64 a.n, Value.string ⟨a.s.toArray⟩] 100) = x := ⟨_, rfl⟩
   have b6 : Below wr.heap.size wr w6 := by rw [← hw6]; exact Below.alloc (Below.refl _ _) (Nat.le_refl _) _
   have z6 : w6.heap.size = wr.heap.size + 1 := by rw [← hw6]; exact alloc_sizeW _ _
   have rX6 : row w6 wr.heap.size = #[Value.int .u8 (a.d : Int), Value.int .i64 a.port, Value.int .i64 a.n, Value.string ⟨a.s.toArray⟩] := by rw [← hw6]; exact row_alloc_at _ _ _ rfl
   have S6 := cb.trans (b6.mono zc)
   have HT6 := Lib.hid (hT.below b6)
   have rS6 := (row_below b6 lS).trans rS
   have HG := Lib.hid hg
   have HSR := Lib.hid hsr
   have z36 := S6.size
   have hXm : wr.heap.size ∉ A.muts := by
    obtain ⟨l1, l2, l3, l4, l5, l6⟩ := hT.lts
    intro hm
    simp only [BrA.muts, List.mem_cons, List.not_mem_nil, or_false] at hm
    omega
   clear hrd ha hmo hm_ hT hg hsr rS b6
   obtain ⟨X, hX⟩ : ∃ x, wr.heap.size = x := ⟨_, rfl⟩
   rw [hX] at rX6 z6 hXm
   have hXS : ST ≠ X := by omega
   have HXM := Lib.hid hXm
   clear hXm
   have zX6 : X < w6.heap.size := by omega
   have lS6 : ST < w6.heap.size := by omega
   by_cases hm0 : m = 0
   ·
    subst hm0
    as_aux_lemma =>
     rw [show ((0 : Nat) : Int) = 0 from rfl] at hmo10
     have hTk := rTick_any w6 HT6.out HG.out.std (Nat.le_trans HG.out.stn (by omega)) HG.out.sta HG.out.bid HG.out.bia
     have HTK := Lib.hid hTk
     clear hTk
     go_wp2_with fail
     (try rw [hw6])
     (try clear hw6)
     (with_reducible refine HTK.out.mono ?_)
     rintro e w7 ⟨rfl, b7, t7⟩
     have S7 := S6.trans (b7.below z36 HMU.out)
     have rS7 := (b7.row lS6 HSM.out).trans rS6
     have z7 := b7.size
     have HT7 := Lib.hid t7
     clear b7 t7 HTK
     go_wp2_with fail
     go_roundw
     case rel => exact ⟨j + 1, by omega, by simp, tickS s, (tickS_good HG.out).more (by omega), hsp, HSR.out, HT7.out, rS7, S7, by omega⟩
     case measure => simp [intOf]; omega
   have hm0I : ((m : Int) == 0) = false := beq_eq_false_iff_ne.2 (by omega)
   by_cases hm3 : m < 3
   ·
    have hm3I : (m : Int) < 3 := by omega
    as_aux_lemma =>
     by_cases hin : 0 ≤ a.port ∧ a.port < s.ports.length ∧ 0 ≤ a.n ∧ a.n ≤ 3
     ·
      obtain ⟨k, hk⟩ : ∃ k : Nat, a.port = (k : Int) := ⟨a.port.toNat, by omega⟩
      have hkl : k < s.ports.length := by omega
      have hkI : (k : Int) < (rs.length : Int) := by omega
      rw [hk] at rX6 hw6
      have hS := rState_ok w6 HT6.out k a.n HG.out.n32 hkl hin.2.2.1 hin.2.2.2 HG.out.std (Nat.le_trans HG.out.stn (by omega))
      have HS := Lib.hid hS
      have hcn : ∀ x ∈ (stateS s k a.n).states, (0 : Int) ≤ x ∧ x ≤ 3 := by
       intro x hx
       rcases List.mem_or_eq_of_mem_set (show x ∈ s.states.set k a.n from hx) with h | h
       ·
        exact HSR.out x h
       ·
        rw [h]; exact ⟨hin.2.2.1, hin.2.2.2⟩
      have HCN := Lib.hid hcn
      clear hS hcn hin
      go_wp2_with fail
      (try rw [hw6])
      (try clear hw6)
      (with_reducible refine HS.out.mono ?_)
      rintro e w7 ⟨rfl, b7, t7⟩
      have S7 := S6.trans (b7.below z36 HMU.out)
      have z7 := b7.size
      have rS7 := (b7.row lS6 HSM.out).trans rS6
      have rX7 := (b7.row zX6 HXM.out).trans rX6
      have hsz : 0 < (row w7 ST).size := by rw [rS7]; simp [ints]; omega
      have hszk : k < (row w7 ST).size := by rw [rS7]; simp [ints]; omega
      have lS7 : ST < w7.heap.size := by omega
      have hsi : (ints s.states).size = rs.length := by simp [ints]; omega
      have hkr : k < rs.length := by omega
      have hrl0 : 0 < rs.length := by omega
      have hnk : (ints s.states).setIfInBounds k (.int .i64 a.n) = ints (s.states.set k a.n) := by
       unfold ints
       rw [List.setIfInBounds_toArray, List.map_set]
      obtain ⟨w8, hw8⟩ : ∃ x, w7.setRow ST (ints (s.states.set k a.n)) = x := ⟨_, rfl⟩
      have T8 : BrT w8 A (stateS s k a.n) := by rw [← hw8]; exact t7.other (by rw [HEX.out]; exact List.mem_cons_self) (fun b hb => Nat.ne_of_lt (HAL.out b hb)) _
      have S8 : Below w3.heap.size w3 w8 := by rw [← hw8]; exact S7.trans ((BelowS.set (B := w3.heap.size) (S := [ST]) w7 _ (by simp)).below (Nat.le_refl _) (by intro x hx; rw [List.mem_singleton.1 hx]; omega))
      have z8 : w8.heap.size = w7.heap.size := by rw [← hw8, setRow_size]
      have rS8 : row w8 ST = ints (s.states.set k a.n) := by rw [← hw8]; exact row_setRow_same hsz (by rw [rS7]; simp [ints])
      have HT8 := Lib.hid T8
      have HRS8 := Lib.hid rS8
      clear b7 t7 HS T8 rS8
      go_wp2_with fail
      (try rw [hw8])
      (try clear hw8)
      go_roundw
      case rel => exact ⟨j + 1, by omega, by simp, stateS s k a.n, (stateS_good HG.out k a.n).more (by omega), hsp, HCN.out, HT8.out, HRS8.out, S8, by omega⟩
      case measure => simp [intOf]; omega
     ·
      have hS := rState_bad w6 HT6.out a.port a.n HG.out.n32 hin
      have HS := Lib.hid hS
      clear hS hin
      go_wp2_with fail
      (try rw [hw6])
      (try clear hw6)
      (with_reducible refine HS.out.mono ?_)
      rintro e w7 ⟨rfl, b7⟩
      have S7 := S6.trans (b7.mono z36)
      have z7 := b7.size
      have rS7 := (row_below b7 lS6).trans rS6
      have HT7 := Lib.hid (HT6.out.below b7)
      clear b7 HS
      go_wp2_with fail
      go_roundw
      case rel => exact ⟨j + 1, by omega, by simp, s, HG.out.more (by omega), hsp, HSR.out, HT7.out, rS7, S7, by omega⟩
      case measure => simp [intOf]; omega
   have hm3I : ¬ (m : Int) < 3 := by omega
   clear hm0 hm3
   have hKc := rCounts_any w6 HT6.out
   have HKC := Lib.hid hKc
   clear hKc
   go_wp2_with fail
   (try rw [hw6])
   (try clear hw6)
   (with_reducible refine HKC.out.mono ?_)
   rintro e w7 ⟨rfl, b7⟩
   have z7 := b7.size
   have S7 := S6.trans (b7.mono z36)
   have HT7 := Lib.hid (HT6.out.below b7)
   have rX7 := (row_below b7 zX6).trans rX6
   have rS7 := (row_below b7 lS6).trans rS6
   obtain ⟨w8, hw8⟩ : ∃ x, w7.alloc (.cells #[.int .i64 s.c0, .int .i64 s.c1, .int .i64 s.c2, .int .i64 s.c3, .int .i64 s.c4] 90) = x := ⟨_, rfl⟩
   have b8 : Below w7.heap.size w7 w8 := by rw [← hw8]; exact Below.alloc (Below.refl _ _) (Nat.le_refl _) _
   have z8 : w8.heap.size = w7.heap.size + 1 := by rw [← hw8]; exact alloc_sizeW _ _
   have rC8 : row w8 w7.heap.size = #[.int .i64 s.c0, .int .i64 s.c1, .int .i64 s.c2, .int .i64 s.c3, .int .i64 s.c4] := by rw [← hw8]; exact row_alloc_at _ _ _ rfl
   have S8 := S7.trans (b8.mono S7.size)
   have HT8 := Lib.hid (HT7.out.below b8)
   have rX8 := (row_below b8 (by omega)).trans rX7
   have rS8 := (row_below b8 (by omega)).trans rS7
   have hCm : w7.heap.size ∉ A.muts := by
    obtain ⟨l1, l2, l3, l4, l5, l6⟩ := HT7.out.lts
    intro hm
    simp only [BrA.muts, List.mem_cons, List.not_mem_nil, or_false] at hm
    omega
   obtain ⟨C, hC⟩ : ∃ x, w7.heap.size = x := ⟨_, rfl⟩
   rw [hC] at rC8 z8 hCm
   have hCX : C ≠ X := by omega
   have HCM := Lib.hid hCm
   have z38 := S8.size
   have zX8 : X < w8.heap.size := by omega
   have zC8 : C < w8.heap.size := by omega
   have lS8 : ST < w8.heap.size := by omega
   clear hCm b7 b8 rX7 rS7 HT7 HT6 rX6 rS6 S7 S6 HKC
   by_cases hin : 0 ≤ a.port ∧ a.port < s.ports.length
   case neg =>
    have hB := rCome_bad w8 HT8.out a.port a.s HG.out.n32 hin
    have HB := Lib.hid hB
    clear hB hin
    go_wp2_with fail
    (try rw [hw8])
    (try clear hw8)
    (with_reducible refine HB.out.mono ?_)
    rintro e w9 ⟨rfl, b9⟩
    have S9 := S8.trans (b9.mono z38)
    have z9 := b9.size
    have rS9 := (row_below b9 lS8).trans rS8
    have HT9 := Lib.hid (HT8.out.below b9)
    clear b9 HB
    go_wp2_with fail
    go_roundw
    case rel => exact ⟨j + 1, by omega, by simp, s, HG.out.more (by omega), hsp, HSR.out, HT9.out, rS9, S9, by omega⟩
    case measure => simp [intOf]; omega
   obtain ⟨k, hk⟩ : ∃ k : Nat, a.port = (k : Int) := ⟨a.port.toNat, by omega⟩
   have hkl : k < s.ports.length := by omega
   have hkr : k < rs.length := by omega
   have hkI : (k : Int) < (rs.length : Int) := by omega
   have hrl0 : 0 < rs.length := by omega
   rw [hk] at rX8
   obtain ⟨t, ht⟩ := talk_for a.s
   have hCome := rCome_any w8 HT8.out (N := j) (by omega) HG.out k hkl a.s (by omega) t ht
   have hbad := once_bad (s := s) (k := k) (l := a.s) (t := t)
   have hgood := once_good (s := s) (k := k) hkl (by
    have hks : k < s.states.length := by omega
    rw [List.getD_eq_getElem?_getD, List.getElem?_eq_getElem hks]
    exact (HSR.out _ (List.getElem_mem hks)).2) (l := a.s) (t := t)
   have hcg := comeS_good HG.out hkl a.s t
   have hcp := comeS_ports s k a.s t
   obtain ⟨cr, hcr⟩ : ∃ x, comeS s k a.s t = x := ⟨_, rfl⟩
   rw [hcr] at hCome hbad hgood hcg hcp
   obtain ⟨s2, outs, er⟩ := cr
   dsimp only at hCome hbad hgood hcg hcp
   have HCO := Lib.hid hCome
   have HCG := Lib.hid hcg
   have HCP := Lib.hid hcp
   have HGO := Lib.hid hgood
   have HBA := Lib.hid hbad
   clear hCome hbad hgood hcg hcp hcr hin ht
   have hkr2 : a.port = (k : Int) := hk
   go_wp2_with fail
   (try rw [hw8])
   (try clear hw8)
   (with_reducible refine HCO.out.mono ?_)
   rintro e w9 ⟨⟨u, rfl, hown⟩, b9, t9⟩
   have S9 := S8.trans (b9.below z38 HMU.out)
   have z9 := b9.size
   have rX9 := (b9.row zX8 HXM.out).trans rX8
   have rC9 := (b9.row zC8 HCM.out).trans rC8
   have rS9 := (b9.row lS8 HSM.out).trans rS8
   have HT9 := Lib.hid t9
   obtain ⟨ua, uc, e, hel⟩ := hown.elems
   rw [List.length_map] at e
   subst e
   have houtI : (outs.length : Int) ≤ 9223372036854775807 := by
    have := hel.1
    rw [List.length_map] at this
    unfold maxLen at this
    omega
   have HEL := Lib.hid hel
   have hsr2 : ∀ x ∈ s2.states, (0 : Int) ≤ x ∧ x ≤ 3 := by rw [HCP.out.2.1]; exact HSR.out
   have HSR2 := Lib.hid hsr2
   have hsp2 : s2.ports = ps := HCP.out.1.trans hsp
   have hss2 : s2.states = s.states := HCP.out.2.1
   have rSz : row w9 ST = ints s2.states := by rw [hss2]; exact rS9
   have z39 := S9.size
   have zX9 : X < w9.heap.size := by omega
   have zC9 : C < w9.heap.size := by omega
   have lS9 : ST < w9.heap.size := by omega
   clear b9 t9 HCO HT8 rX8 rC8 rS8 S8 hown hel hsr2 rS9
   by_cases her : er = 0
   case neg =>
    have he1 : (er != 0) = true := by simp [her]
    have ho0 : outs.length = 0 := by rw [HBA.out her]; rfl
    clear her
    rw [ho0]
    go_wp2_with fail
    go_roundw
    case rel => exact ⟨j + 1, by omega, by simp, s2, HCG.out, hsp2, HSR2.out, HT9.out, rSz, S9, lS9⟩
    case measure => simp [intOf]; omega
   subst her
   obtain ⟨d, hpd, hcs⟩ := HGO.out rfl
   have hPA := ethParse_ok a.s d w9 (by omega) hpd
   unfold ethV at hPA
   have HPA := Lib.hid hPA
   have HPD := Lib.hid hpd
   have HCS := Lib.hid hcs
   clear hPA hpd hcs HGO HBA
   go_wp2_with fail
   (with_reducible refine HPA.out.mono ?_)
   rintro e w10 ⟨rfl, b10⟩
   have z10 := b10.size
   have S10 := S9.trans (b10.mono z39)
   have rX10 := (row_below b10 zX9).trans rX9
   have rC10 := (row_below b10 zC9).trans rC9
   have rS10 := (row_below b10 lS9).trans rSz
   have HT10 := Lib.hid (HT9.out.below b10)
   have hel10 := HEL.out.below b10
   obtain ⟨w11, hw11⟩ : ∃ x, w10.alloc (.cells (u8v d.dst ++ (u8v d.src ++ [Value.int .i64 d.ty, .string ⟨d.body.toArray⟩, .int .i64 d.vlan, .int .i64 d.prio])).toArray 78) = x := ⟨_, rfl⟩
   have b11 : Below w10.heap.size w10 w11 := by rw [← hw11]; exact Below.alloc (Below.refl _ _) (Nat.le_refl _) _
   have z11 : w11.heap.size = w10.heap.size + 1 := by rw [← hw11]; exact alloc_sizeW _ _
   have rE11 : row w11 w10.heap.size = (u8v d.dst ++ (u8v d.src ++ [Value.int .i64 d.ty, .string ⟨d.body.toArray⟩, .int .i64 d.vlan, .int .i64 d.prio])).toArray := by rw [← hw11]; exact row_alloc_at _ _ _ rfl
   have S11 := S10.trans (b11.mono S10.size)
   have rX11 := (row_below b11 (by omega)).trans rX10
   have rC11 := (row_below b11 (by omega)).trans rC10
   have rS11 := (row_below b11 (by omega)).trans rS10
   have HT11 := Lib.hid (HT10.out.below b11)
   have HEL11 := Lib.hid (hel10.below b11)
   obtain ⟨E, hE⟩ : ∃ x, w10.heap.size = x := ⟨_, rfl⟩
   rw [hE] at rE11 z11
   have zX11 : X < w11.heap.size := by omega
   have zC11 : C < w11.heap.size := by omega
   have zE11 : E < w11.heap.size := by omega
   have lS11 : ST < w11.heap.size := by omega
   have C11 : Below w.heap.size w w11 := B3.trans (S11.mono zB3)
   obtain ⟨rb, ro, rta, rtc, hre, hrl, hrg⟩ := h.get hkr
   subst hre
   obtain ⟨r, hr⟩ : ∃ x, rs[k] = x := ⟨_, rfl⟩
   rw [hr] at hrg
   have g1 : ∀ W, Below w.heap.size w W → W.cell? ⟨rb, ro + k * 5, none⟩ = some (.int .i64 r.p.native) := fun W hW => (hrg W hW).1 0 _ rfl
   have g2 : ∀ W, Below w.heap.size w W → W.cell? ⟨rb, ro + k * 5 + 1, none⟩ = some (.slice rta r.p.tagged.length rtc) := fun W hW => (hrg W hW).1 1 _ rfl
   obtain ⟨o5, ho5⟩ : ∃ o, ro + k * 5 = o := ⟨_, rfl⟩
   rw [ho5] at g1 g2
   have hspk : s.port k = r.p := by
    unfold BrS.port
    rw [hsp, ← HPS.out, List.getD_eq_getElem?_getD, List.getElem?_map, List.getElem?_eq_getElem hkr, hr]
    rfl
   have HVI := Lib.hid (fun W (hW : Below w.heap.size w W) => vIn_any r.p.native rta rtc r.p.tagged d.dst d.src d.ty d.body d.vlan d.prio W (hrg W hW).2)
   clear hrg b10 b11 rX10 rC10 rS10 HT10 hel10 HT9 rX9 rC9 rSz HPA HEL S9 S10
   go_wp2_with fail
   (try rw [hw11])
   (try clear hw11)
   have hG : GrowP fun W => Below w.heap.size w W := grow_base w
   refine wp_region_beginX [(X, #[Value.int .u8 (a.d : Int), Value.int .i64 (k : Int), Value.int .i64 a.n, Value.string ⟨a.s.toArray⟩])] (fun W => Below w.heap.size w W) hG rfl (by simp only [Rws]; (repeat (first | exact trivial | refine ⟨(by first | assumption | (simp [go_sem, *]; done)), (by first | omega | (simp; done) | (simp; omega)), ?_⟩))) (C11) (fun hS => ?_)
   refine sp 0 hG hS ?_
   refine sp 1 hG hS ?_
   refine sp 2 hG hS ?_
   refine sp 3 hG hS ?_
   refine sp 4 hG hS ?_
   refine sp 5 hG hS ?_
   refine sp 6 hG hS ?_
   refine sp 7 hG hS ?_
   refine sp 8 hG hS ?_
   refine sp 9 hG hS ?_
   refine sp 10 hG hS ?_
   refine sp 11 hG hS ?_
   refine sp 12 hG hS ?_
   refine wpAnyS_var (XS.grow hG) (i := 13) (k := 14) (zi := ([Value.int .i64 0, .slice none 0 0]).toArray) (cA := ([Value.int .i64 r.p.native, .slice rta r.p.tagged.length rtc]).toArray) (by simp only [List.getElem?_toArray, List.getElem?_cons_succ, List.getElem?_cons_zero]; rfl) (by simp only [List.getElem?_toArray, List.getElem?_cons_succ, List.getElem?_cons_zero]; rfl) ⟨rfl, rfl, fun a w => by go_simp; (refine ⟨?_, ?_⟩ <;> rfl)⟩ (by kernel_rfl) (by kernel_rfl) rfl rfl (by simp [*]) (by simp) (fun A w1 hr => by
    simp only [Act.put, List.setIfInBounds_toArray, List.set_cons_zero, List.set_cons_succ, ptr]
    go_simp
    try rfl) hS (fun PB w12 gPB zPB bw12 rPB hS => ?_)
   (try simp only [Act.put, List.setIfInBounds_toArray, List.set_cons_zero, List.set_cons_succ])
   simp only [ptr]
   refine wpAnyR_done (by kernel_rfl) (fun w13 bw13 => ?_) _
   have b12 := below_step (Below.drew (Below.refl _ _)) bw12
   have b13 := b12.trans (bw13.mono b12.size)
   have z13 := b13.size
   have z12 := bw13.size
   have S13 := S11.trans (b13.mono (S11.size))
   have rP13 := (row_below bw13 (by omega)).trans rPB
   have rX13 := (row_below b13 zX11).trans rX11
   have rC13 := (row_below b13 zC11).trans rC11
   have rE13 := (row_below b13 zE11).trans rE11
   have rS13 := (row_below b13 lS11).trans rS11
   have HT13 := Lib.hid (HT11.out.below b13)
   have HEL13 := Lib.hid (HEL11.out.below b13)
   have C13 : Below w.heap.size w w13 := C11.trans (b13.mono C11.size)
   have zP13 : PB < w13.heap.size := by omega
   have zX13 : X < w13.heap.size := by omega
   have zC13 : C < w13.heap.size := by omega
   have zE13 : E < w13.heap.size := by omega
   have lS13 : ST < w13.heap.size := by omega
   clear hS bw12 bw13 b12 b13 rX11 rC11 rE11 rS11 HT11 HEL11 rPB zX11 zC11 zE11 lS11 S11 C11
   go_wp2_with fail
   (with_reducible refine (HVI.out _ C13).mono ?_)
   rintro e w14 ⟨rfl, b14⟩
   have z14 := b14.size
   have S14 := S13.trans (b14.mono S13.size)
   have rX14 := (row_below b14 zX13).trans rX13
   have rC14 := (row_below b14 zC13).trans rC13
   have rE14 := (row_below b14 zE13).trans rE13
   have rS14 := (row_below b14 lS13).trans rS13
   have HT14 := Lib.hid (HT13.out.below b14)
   have HEL14 := Lib.hid (HEL13.out.below b14)
   have zX14 : X < w14.heap.size := by omega
   have zC14 : C < w14.heap.size := by omega
   have zE14 : E < w14.heap.size := by omega
   have lS14 : ST < w14.heap.size := by omega
   clear b14 rX13 rC13 rE13 rS13 rP13 HT13 HEL13 S13 C13 HVI
   have HTO := Lib.hid bTo_any
   obtain ⟨dq, hdq⟩ : ∃ x, (d.dst == bpduTo) = x := ⟨_, rfl⟩
   obtain ⟨vi, hvi⟩ : ∃ x, inP r.p.native r.p.tagged d.vlan = x := ⟨_, rfl⟩
   rw [hvi]
   obtain ⟨vi1, vi2⟩ := vi
   dsimp only
   have HDQ := Lib.hid hdq
   have HVI := Lib.hid hvi
   go_wp2_with fail
   refine wp_region_beginR [(E, (u8v d.dst ++ (u8v d.src ++ [Value.int .i64 d.ty, .string ⟨d.body.toArray⟩, .int .i64 d.vlan, .int .i64 d.prio])).toArray)] rfl (by simp only [Rws]; (repeat (first | exact trivial | refine ⟨(by first | assumption | (simp [go_sem, *]; done)), (by first | omega | (simp; done) | (simp; omega)), ?_⟩))) (fun hS => ?_)
   refine qp 0 hS ?_
   refine qp 1 hS ?_
   refine qp 2 hS ?_
   refine qc 3 (v := ?_) hS ?_ ?_
   rotate_left
   ·
    intro w' hS'
    simp only [Rws] at hS'
    go_simp
    with_reducible refine (HTO.out _).mono ?_
    rintro e w'' ⟨rfl, hb⟩
    exact ⟨_, rfl, by rfl, hb⟩
   refine qp 4 hS ?_
   refine wpAnyR_done (by kernel_rfl) (fun w15 b15 => ?_) _
   replace b15 : Below (w14).heap.size (w14) w15 := below_step (Below.drew (Below.refl _ _)) b15
   have z15 := b15.size
   have S15 := S14.trans (b15.mono S14.size)
   have rX15 := (row_below b15 zX14).trans rX14
   have rC15 := (row_below b15 zC14).trans rC14
   have rE15 := (row_below b15 zE14).trans rE14
   have rS15 := (row_below b15 lS14).trans rS14
   have HT15 := Lib.hid (HT14.out.below b15)
   have HEL15 := Lib.hid (HEL14.out.below b15)
   have zX15 : X < w15.heap.size := by omega
   have zC15 : C < w15.heap.size := by omega
   have zE15 : E < w15.heap.size := by omega
   have lS15 : ST < w15.heap.size := by omega
   clear b15 rX14 rC14 rE14 rS14 HT14 HEL14 S14 HTO zX14 zC14 zE14 lS14
   cases dq with
   | true =>
    have ho0 : outs.length = 0 := by
     rcases HCS.out with ⟨_, ho⟩ | ⟨hn, _⟩
     ·
      rw [ho]; rfl
     ·
      rw [HDQ.out] at hn; cases hn
    clear hdq hvi
    rw [ho0]
    go_wp2_with fail
    go_roundw
    case rel => exact ⟨j + 1, by omega, by simp, s2, HCG.out, hsp2, HSR2.out, HT15.out, rS15, S15, lS15⟩
    case measure => simp [intOf]; omega
   | false =>
   obtain ⟨v, ans, hc4, hon⟩ : ∃ v ans, (if ans = true then s2.c4 = s.c4 + 1 else s2.c4 = s.c4) ∧ OnceI s k d outs ans v := by
    rcases HCS.out with ⟨hn, _⟩ | ⟨_, v, ans, h1, h2⟩
    ·
     rw [HDQ.out] at hn; cases hn
    ·
     exact ⟨v, ans, h1, h2⟩
   obtain ⟨hst3, hin3, heach, hasc⟩ := hon
   rw [hspk, HVI.out] at hin3
   cases hin3
   have hq3 : (ints s2.states)[k]? = some (.int .i64 3) := by
    have hks : k < s.states.length := by omega
    rw [hss2]
    unfold ints
    rw [List.getElem?_toArray, List.getElem?_map, List.getElem?_eq_getElem hks]
    rw [List.getD_eq_getElem?_getD, List.getElem?_eq_getElem hks] at hst3
    exact congrArg (fun x => some (Value.int .i64 x)) hst3
   have hcellk : w15.cell? ⟨ST, k, none⟩ = some (.int .i64 3) := by
    have hsz2 : k < (row w15 ST).size := by rw [rS15, hss2]; simp [ints]; omega
    rw [cell_of_row' hsz2, rS15]
    exact hq3
   have HEA := Lib.hid heach
   have HAS := Lib.hid hasc
   have HCA := Lib.hid hc4
   clear heach hasc hc4 hst3 hq3 hdq hvi
   go_wp2_with fail
   have hG2 : GrowP fun W => BrT W A s2 := grow_br A s2
   have HKC2 := Lib.hid (fun W (hW : BrT W A s2) => rCounts_any W hW)
   have hT15 := HT15.out
   clear hG
   have hG := hG2
   refine wp_region_beginX [(C, #[.int .i64 s.c0, .int .i64 s.c1, .int .i64 s.c2, .int .i64 s.c3, .int .i64 s.c4])] (fun W => BrT W A s2) hG rfl (by simp only [Rws]; (repeat (first | exact trivial | refine ⟨(by first | assumption | (simp [go_sem, *]; done)), (by first | omega | (simp; done) | (simp; omega)), ?_⟩))) (hT15) (fun hS => ?_)
   refine sp 0 hG hS ?_
   refine sc 1 (v := ?_) hG hS ?_ ?_
   rotate_left
   ·
    intro w' hS'
    obtain ⟨hS', hX'⟩ := hS'
    simp only [Rws] at hS'
    go_simp
    with_reducible refine (HKC2.out _ hX').mono ?_
    rintro e w'' ⟨rfl, hb⟩
    exact ⟨_, rfl, by rfl, hb⟩
   refine sp 2 hG hS ?_
   refine sp 3 hG hS ?_
   refine sp 4 hG hS ?_
   refine sp 5 hG hS ?_
   refine sp 6 hG hS ?_
   refine wpAnyR_done (by kernel_rfl) (fun w16 bw16 => ?_) _
   have b16 := below_step (Below.drew (Below.refl _ _)) bw16
   have z16 := b16.size
   have S16 := S15.trans (b16.mono S15.size)
   have rX16 := (row_below b16 zX15).trans rX15
   have rE16 := (row_below b16 zE15).trans rE15
   have rS16 := (row_below b16 lS15).trans rS15
   have HT16 := Lib.hid (HT15.out.below b16)
   have HEL16 := Lib.hid (HEL15.out.below b16)
   have zX16 : X < w16.heap.size := by omega
   have zE16 : E < w16.heap.size := by omega
   have lS16 : ST < w16.heap.size := by omega
   have C16 : Below w.heap.size w w16 := B3.trans (S16.mono zB3)
   have hans : decide (s.c4 < s2.c4) = ans := by
    have h4 := HCA.out
    cases ans with
    | true =>
     rw [if_pos rfl] at h4
     exact decide_eq_true (by omega)
    | false =>
     rw [if_neg (by decide)] at h4
     exact decide_eq_false (by omega)
   rw [hans]
   (try simp only [List.getElem_toArray, List.getElem_cons_succ, List.getElem_cons_zero])
   clear hS bw16 b16 rX15 rC15 rE15 rS15 HT15 hT15 HEL15 S15 HKC2 HCA hans hcellk hG hG2 zX15 zC15 zE15 lS15 g1 g2
   go_wp2_with fail
   go_loopw [21] (fun i wr => ∃ q : Nat, q ≤ outs.length ∧ i = .int .i64 q ∧ Below w16.heap.size w16 wr) (fun i _ => outs.length - (intOf i).toNat)
   case atStart => exact ⟨0, by omega, rfl, Below.refl _ _⟩
   case round =>
    as_aux_lemma =>
     obtain ⟨q, hq, rfl, D0⟩ := hrel
     have zd := D0.size
     by_cases hlq : q < outs.length
     ·
      have hlqI : (q : Int) < (outs.length : Int) := by omega
      obtain ⟨dst', src', ty', body', hok⟩ := HEA.out _ (List.getElem_mem hlq)
      obtain ⟨ob, oo, hoe, hol, hoc⟩ := HEL16.out.2 q (outC outs[q]) (by rw [List.getElem?_map, List.getElem?_eq_getElem hlq]; rfl)
      have hprev : ∀ q', q' + 1 = q → ∃ xp : Nat, xp < outs[q].1 ∧ ∀ W, Below w16.heap.size w16 W → W.cell? ⟨ob, oo + q' * 2, none⟩ = some (.int .i64 (xp : Int)) := by
       intro q' hq'
       subst hq'
       have hq2 : q' < outs.length := by omega
       obtain ⟨ob2, oo2, hoe2, hol2, hoc2⟩ := HEL16.out.2 q' (outC outs[q']) (by rw [List.getElem?_map, List.getElem?_eq_getElem hq2]; rfl)
       rw [hoe] at hoe2
       cases hoe2
       exact ⟨outs[q'].1, asc_get HAS.out hlq, fun W hW => hoc2 W (blk_below hW hol2) 0 _ rfl⟩
      subst hoe
      obtain ⟨x, hx⟩ : ∃ x, outs[q] = x := ⟨_, rfl⟩
      rw [hx] at hok hoc hprev
      obtain ⟨xi, xs⟩ := x
      have hstr := hok.str
      have hrt := hok.right
      have hxl := hok.lt
      have hxm := hok.mem
      have hxs := hok.st
      have hxy := hok.yes
      have hxn := hok.no
      dsimp only at hstr hrt hxl hxm hxs hxy hxn hprev
      have hxr : xi < rs.length := by omega
      have hxrI : (xi : Int) < (rs.length : Int) := by omega
      have gx0 : ∀ W, Below w16.heap.size w16 W → W.cell? ⟨ob, oo + q * 2, none⟩ = some (.int .i64 (xi : Int)) := fun W hW => hoc W (blk_below hW hol) 0 _ rfl
      have gx1 : ∀ W, Below w16.heap.size w16 W → W.cell? ⟨ob, oo + q * 2 + 1, none⟩ = some (.string ⟨xs.toArray⟩) := fun W hW => hoc W (blk_below hW hol) 1 _ rfl
      obtain ⟨oq, hoq⟩ : ∃ o, oo + q * 2 = o := ⟨_, rfl⟩
      rw [hoq] at gx0 gx1
      obtain ⟨rb2, ro2, xta, xtc, hre2, hrl2, hrx⟩ := h.get hxr
      cases hre2
      obtain ⟨r2, hr2⟩ : ∃ x, rs[xi] = x := ⟨_, rfl⟩
      rw [hr2] at hrx
      have hspx : s.port xi = r2.p := by
       unfold BrS.port
       rw [hsp, ← HPS.out, List.getD_eq_getElem?_getD, List.getElem?_map, List.getElem?_eq_getElem hxr, hr2]
       rfl
      rw [hspx] at hstr hrt hxm
      have gp1 : ∀ W, Below w16.heap.size w16 W → W.cell? ⟨rb, ro + xi * 5, none⟩ = some (.int .i64 r2.p.native) := fun W hW => (hrx W (C16.trans (hW.mono C16.size))).1 0 _ rfl
      have gp2 : ∀ W, Below w16.heap.size w16 W → W.cell? ⟨rb, ro + xi * 5 + 1, none⟩ = some (.slice xta r2.p.tagged.length xtc) := fun W hW => (hrx W (C16.trans (hW.mono C16.size))).1 1 _ rfl
      obtain ⟨ox, hox⟩ : ∃ o, ro + xi * 5 = o := ⟨_, rfl⟩
      rw [hox] at gp1 gp2
      have hst3 : ∀ W, Below w16.heap.size w16 W → W.cell? ⟨ST, xi, none⟩ = some (.int .i64 3) := fun W hW => by
       have e := (row_below hW lS16).trans rS16
       have hxs2 : xi < s.states.length := by omega
       rw [cell_of_row' (by rw [e, hss2]; simp [ints]; omega), e, hss2]
       unfold ints
       rw [List.getElem?_toArray, List.getElem?_map, List.getElem?_eq_getElem hxs2]
       rw [List.getD_eq_getElem?_getD, List.getElem?_eq_getElem hxs2] at hxs
       exact congrArg (fun x => some (Value.int .i64 x)) hxs
      have hin2 := inP_outs d.prio hxm
      obtain ⟨od, hod⟩ : ∃ x, outP r2.p.native vi1 d.prio = x := ⟨_, rfl⟩
      rw [hod] at hstr hrt hin2
      obtain ⟨ov, op⟩ := od
      dsimp only at hstr hrt hin2
      have hpx := ethParse_print dst' src' ty' body' ov op hrt
      have hsm := (ethS_small dst' src' ty' body' ov op hrt).1
      rw [← hstr] at hpx hsm
      have hPX := ethParse_ok xs _ wr (by omega) hpx
      dsimp only at hPX
      unfold ethV at hPX
      have HPX := Lib.hid hPX
      have HVX := Lib.hid (fun W (hW : Below w16.heap.size w16 W) => vIn_any r2.p.native xta xtc r2.p.tagged dst' src' ty' body' ov op W (hrx W (C16.trans (hW.mono C16.size))).2)
      rw [hin2] at HVX
      have HPV := Lib.hid hprev
      have HXY := Lib.hid hxy
      have HXN := Lib.hid hxn
      have gx1r := gx1 wr D0
      clear hok hoc hstr hrt hpx hsm hPX hrx hin2 hod hprev hxy hxn hxs hxm hx hr2 hspx
      go_wp2_with fail
      (with_reducible refine HPX.out.mono ?_)
      rintro e w17 ⟨rfl, b17⟩
      have z17 := b17.size
      have D17 := D0.trans (b17.mono zd)
      obtain ⟨w18, hw18⟩ : ∃ x, w17.alloc (.cells (u8v dst' ++ (u8v src' ++ [Value.int .i64 ty', .string ⟨body'.toArray⟩, .int .i64 ov, .int .i64 op])).toArray 78) = x := ⟨_, rfl⟩
      have b18 : Below w17.heap.size w17 w18 := by rw [← hw18]; exact Below.alloc (Below.refl _ _) (Nat.le_refl _) _
      have z18 : w18.heap.size = w17.heap.size + 1 := by rw [← hw18]; exact alloc_sizeW _ _
      have rY18 : row w18 w17.heap.size = (u8v dst' ++ (u8v src' ++ [Value.int .i64 ty', .string ⟨body'.toArray⟩, .int .i64 ov, .int .i64 op])).toArray := by rw [← hw18]; exact row_alloc_at _ _ _ rfl
      have D18 := D17.trans (b18.mono D17.size)
      obtain ⟨Y, hY⟩ : ∃ x, w17.heap.size = x := ⟨_, rfl⟩
      rw [hY] at rY18 z18
      have zY18 : Y < w18.heap.size := by omega
      have zd18 := D18.size
      clear b17 b18 D17 HPX D0
      have hG16 : GrowP fun W => Below w16.heap.size w16 W := grow_base w16
      have hG := hG16
      go_wp2_with fail
      (try rw [hw18])
      (try clear hw18)
      refine wp_region_beginX [] (fun W => Below w16.heap.size w16 W) hG rfl (by simp only [Rws]; (repeat (first | exact trivial | refine ⟨(by first | assumption | (simp [go_sem, *]; done)), (by first | omega | (simp; done) | (simp; omega)), ?_⟩))) (D18) (fun hS => ?_)
      refine sp 0 hG hS ?_
      refine sp 1 hG hS ?_
      refine sp 2 hG hS ?_
      refine sp 3 hG hS ?_
      refine sp 4 hG hS ?_
      refine sp 5 hG hS ?_
      refine sp 6 hG hS ?_
      refine sp 7 hG hS ?_
      refine sp 8 hG hS ?_
      refine sp 9 hG hS ?_
      refine sp 10 hG hS ?_
      refine sp 11 hG hS ?_
      refine sp 12 hG hS ?_
      refine sp 13 hG hS ?_
      refine sp 14 hG hS ?_
      refine sp 15 hG hS ?_
      refine sp 16 hG hS ?_
      refine sp 17 hG hS ?_
      refine sp 18 hG hS ?_
      refine wpAnyS_var (XS.grow hG) (i := 19) (k := 20) (zi := ([Value.int .i64 0, .slice none 0 0]).toArray) (cA := ([Value.int .i64 r2.p.native, .slice xta r2.p.tagged.length xtc]).toArray) (by simp only [List.getElem?_toArray, List.getElem?_cons_succ, List.getElem?_cons_zero]; rfl) (by simp only [List.getElem?_toArray, List.getElem?_cons_succ, List.getElem?_cons_zero]; rfl) ⟨rfl, rfl, fun a w => by go_simp; (refine ⟨?_, ?_⟩ <;> rfl)⟩ (by kernel_rfl) (by kernel_rfl) rfl rfl (by simp [*]) (by simp) (fun A w1 hr => by
       simp only [Act.put, List.setIfInBounds_toArray, List.set_cons_zero, List.set_cons_succ, ptr]
       go_simp
       try rfl) hS (fun PQ w19 gPQ zPQ bw19 rPQ hS => ?_)
      (try simp only [Act.put, List.setIfInBounds_toArray, List.set_cons_zero, List.set_cons_succ])
      simp only [ptr]
      refine wpAnyR_done (by kernel_rfl) (fun w20 bw20 => ?_) _
      have b19 := below_step (Below.drew (Below.refl _ _)) bw19
      have b20 := b19.trans (bw20.mono b19.size)
      have z20 := b20.size
      have z19 := bw20.size
      have D20 := D18.trans (b20.mono zd18)
      have rQ20 := (row_below bw20 (by omega)).trans rPQ
      have rY20 := (row_below b20 zY18).trans rY18
      have zY20 : Y < w20.heap.size := by omega
      have zQ20 : PQ < w20.heap.size := by omega
      have zd20 := D20.size
      clear hS bw19 bw20 b19 b20 rY18 rPQ D18
      go_wp2_with fail
      (with_reducible refine (HVX.out _ D20).mono ?_)
      rintro e w21 ⟨rfl, b21⟩
      have z21 := b21.size
      have D21 := D20.trans (b21.mono zd20)
      have rY21 := (row_below b21 zY20).trans rY20
      have zY21 : Y < w21.heap.size := by omega
      have zd21 := D21.size
      clear b21 rY20 rQ20 HVX D20
      by_cases hq0 : 0 < q
      case neg =>
       have hqz : ¬ (0 : Int) < (q : Int) := by omega
       go_wp2_with fail
       refine wp_region_beginX [] (fun W => Below w16.heap.size w16 W) hG rfl (by simp only [Rws]; (repeat (first | exact trivial | refine ⟨(by first | assumption | (simp [go_sem, *]; done)), (by first | omega | (simp; done) | (simp; omega)), ?_⟩))) (D21) (fun hS => ?_)
       refine sp 0 hG hS ?_
       refine sp 1 hG hS ?_
       refine sp 2 hG hS ?_
       refine sp 3 hG hS ?_
       refine sp 4 hG hS ?_
       refine sp 5 hG hS ?_
       refine sp 6 hG hS ?_
       refine sp 7 hG hS ?_
       refine sp 8 hG hS ?_
       refine sp 9 hG hS ?_
       refine sp 10 hG hS ?_
       refine sp 11 hG hS ?_
       refine sp 12 hG hS ?_
       refine sp 13 hG hS ?_
       refine sp 14 hG hS ?_
       refine sn 15 hG hS ?_
       refine sn 16 hG hS ?_
       refine sn 17 hG hS ?_
       refine sn 18 hG hS ?_
       refine sn 19 hG hS ?_
       refine sn 20 hG hS ?_
       refine sn 21 hG hS ?_
       refine sn 22 hG hS ?_
       refine sn 23 hG hS ?_
       refine sn 24 hG hS ?_
       refine sn 25 hG hS ?_
       refine sn 26 hG hS ?_
       refine sp 27 hG hS ?_
       refine sp 28 hG hS ?_
       refine sp 29 hG hS ?_
       refine sp 30 hG hS ?_
       refine sp 31 hG hS ?_
       refine sp 32 hG hS ?_
       refine sp 33 hG hS ?_
       refine sp 34 hG hS ?_
       refine sp 35 hG hS ?_
       refine sp 36 hG hS ?_
       refine sp 37 hG hS ?_
       refine sp 38 hG hS ?_
       refine sp 39 hG hS ?_
       refine wpAnyR_done (by kernel_rfl) (fun w22 bw22 => ?_) _
       have b22 := below_step (Below.drew (Below.refl _ _)) bw22
       have z22 := b22.size
       have D22 := D21.trans (b22.mono zd21)
       have rY22 := (row_below b22 zY21).trans rY21
       have rX22 := (row_below D22 zX16).trans rX16
       have rE22 := (row_below D22 zE16).trans rE16
       have zd22 := D22.size
       have zX22 : X < w22.heap.size := by omega
       have zE22 : E < w22.heap.size := by omega
       have zY22 : Y < w22.heap.size := by omega
       clear hS bw22 b22 rY21 D21 hqz hq0
       cases ans with
       | true =>
        obtain ⟨hxk, rfl, hn1⟩ := HXY.out rfl
        have hn2 : ((outs.length : Int) != 1) = false := by simp [hn1]
        have hn3 : ((outs.length : Int) == 1) = true := by simp [hn1]
        have hn4 : (outs.length == 1) = true := by simp [hn1]
        clear hn1
        as_aux_lemma =>
         go_wp2_with fail
         refine wp_region_beginX [(X, #[Value.int .u8 (a.d : Int), Value.int .i64 (k : Int), Value.int .i64 a.n, Value.string ⟨a.s.toArray⟩]), (Y, (u8v d.src ++ (u8v src' ++ [Value.int .i64 ty', .string ⟨body'.toArray⟩, .int .i64 ov, .int .i64 op])).toArray), (E, (u8v d.dst ++ (u8v d.src ++ [Value.int .i64 d.ty, .string ⟨d.body.toArray⟩, .int .i64 d.vlan, .int .i64 d.prio])).toArray)] (fun W => Below w16.heap.size w16 W) hG rfl (by simp only [Rws]; (repeat (first | exact trivial | refine ⟨(by first | assumption | (simp [go_sem, *]; done)), (by first | omega | (simp; done) | (simp; omega)), ?_⟩))) (D22) (fun hS => ?_)
         refine sp 0 hG hS ?_
         refine sp 1 hG hS ?_
         refine sp 2 hG hS ?_
         refine sp 3 hG hS ?_
         refine sp 4 hG hS ?_
         refine sp 5 hG hS ?_
         refine sp 6 hG hS ?_
         refine sp 7 hG hS ?_
         refine sp 8 hG hS ?_
         refine sp 9 hG hS ?_
         refine sp 10 hG hS ?_
         refine sp 11 hG hS ?_
         refine sp 12 hG hS ?_
         refine sp 13 hG hS ?_
         refine sp 14 hG hS ?_
         refine sp 15 hG hS ?_
         refine sp 16 hG hS ?_
         refine sp 17 hG hS ?_
         refine sp 18 hG hS ?_
         refine sp 19 hG hS ?_
         refine sp 20 hG hS ?_
         refine sp 21 hG hS ?_
         refine wpAnyR_done (by kernel_rfl) (fun w23 bw23 => ?_) _
         have b23 := below_step (Below.drew (Below.refl _ _)) bw23
         have D23 := D22.trans (b23.mono zd22)
         clear hS bw23 b23 D22 rX22 rE22 rY22
         go_wp2_with fail
         go_roundw
         case rel => exact ⟨q + 1, by omega, by simp, D23⟩
         case measure => simp [intOf]; omega
       | false =>
        obtain ⟨hxk, rfl, rfl, rfl, rfl⟩ := HXN.out rfl
        have hxk2 : ((xi : Int) == (k : Int)) = false := beq_eq_false_iff_ne.2 (by omega)
        have hxk3 : (xi == k) = false := beq_eq_false_iff_ne.2 hxk
        as_aux_lemma =>
         go_wp2_with fail
         refine wp_region_beginX [(X, #[Value.int .u8 (a.d : Int), Value.int .i64 (k : Int), Value.int .i64 a.n, Value.string ⟨a.s.toArray⟩]), (Y, (u8v d.dst ++ (u8v d.src ++ [Value.int .i64 d.ty, .string ⟨d.body.toArray⟩, .int .i64 ov, .int .i64 op])).toArray), (E, (u8v d.dst ++ (u8v d.src ++ [Value.int .i64 d.ty, .string ⟨d.body.toArray⟩, .int .i64 d.vlan, .int .i64 d.prio])).toArray)] (fun W => Below w16.heap.size w16 W) hG rfl (by simp only [Rws]; (repeat (first | exact trivial | refine ⟨(by first | assumption | (simp [go_sem, *]; done)), (by first | omega | (simp; done) | (simp; omega)), ?_⟩))) (D22) (fun hS => ?_)
         refine sp 0 hG hS ?_
         refine sp 1 hG hS ?_
         refine sp 2 hG hS ?_
         refine sp 3 hG hS ?_
         refine sp 4 hG hS ?_
         refine sp 5 hG hS ?_
         refine sp 6 hG hS ?_
         refine sp 7 hG hS ?_
         refine sp 8 hG hS ?_
         refine sp 9 hG hS ?_
         refine sp 10 hG hS ?_
         refine sp 11 hG hS ?_
         refine sp 12 hG hS ?_
         refine sp 13 hG hS ?_
         refine sp 14 hG hS ?_
         refine wpAnyR_done (by kernel_rfl) (fun w23 bw23 => ?_) _
         have b23 := below_step (Below.drew (Below.refl _ _)) bw23
         have D23 := D22.trans (b23.mono zd22)
         clear hS bw23 b23 D22 rX22 rE22 rY22
         go_wp2_with fail
         go_roundw
         case rel => exact ⟨q + 1, by omega, by simp, D23⟩
         case measure => simp [intOf]; omega
      case pos =>
       obtain ⟨q', hq'⟩ : ∃ q', q' + 1 = q := ⟨q - 1, by omega⟩
       obtain ⟨xp, hxp, gxp⟩ := HPV.out q' hq'
       have hqI : (0 : Int) < (q : Int) := by omega
       have hq1 : IntKind.i64.wrap ((q : Int) - 1) = (q' : Int) := (wraps_i64 _ (by omega) (by omega)).trans (by omega)
       have hql : (q' : Int) < (outs.length : Int) := by omega
       have hxx : ¬ (xi : Int) ≤ (xp : Int) := by omega
       have hxx2 : ¬ xi ≤ xp := by omega
       have hxx3 : decide ((xi : Int) ≤ (xp : Int)) = false := decide_eq_false hxx
       have hxx4 : decide (xi ≤ xp) = false := decide_eq_false hxx2
       obtain ⟨op', hop'⟩ : ∃ o, oo + q' * 2 = o := ⟨_, rfl⟩
       rw [hop'] at gxp
       clear hxp hq'
       go_wp2_with fail
       refine wp_region_beginX [] (fun W => Below w16.heap.size w16 W) hG rfl (by simp only [Rws]; (repeat (first | exact trivial | refine ⟨(by first | assumption | (simp [go_sem, *]; done)), (by first | omega | (simp; done) | (simp; omega)), ?_⟩))) (D21) (fun hS => ?_)
       refine sp 0 hG hS ?_
       refine sp 1 hG hS ?_
       refine sp 2 hG hS ?_
       refine sp 3 hG hS ?_
       refine sp 4 hG hS ?_
       refine sp 5 hG hS ?_
       refine sp 6 hG hS ?_
       refine sp 7 hG hS ?_
       refine sp 8 hG hS ?_
       refine sp 9 hG hS ?_
       refine sp 10 hG hS ?_
       refine sp 11 hG hS ?_
       refine sp 12 hG hS ?_
       refine sp 13 hG hS ?_
       refine sp 14 hG hS ?_
       refine sp 15 hG hS ?_
       refine sp 16 hG hS ?_
       refine sp 17 hG hS ?_
       refine sp 18 hG hS ?_
       refine sp 19 hG hS ?_
       refine sp 20 hG hS ?_
       refine sp 21 hG hS ?_
       refine sp 22 hG hS ?_
       refine sp 23 hG hS ?_
       refine sp 24 hG hS ?_
       refine sp 25 hG hS ?_
       refine sp 26 hG hS ?_
       refine sp 27 hG hS ?_
       refine sp 28 hG hS ?_
       refine sp 29 hG hS ?_
       refine sp 30 hG hS ?_
       refine sp 31 hG hS ?_
       refine sp 32 hG hS ?_
       refine sp 33 hG hS ?_
       refine sp 34 hG hS ?_
       refine sp 35 hG hS ?_
       refine sp 36 hG hS ?_
       refine sp 37 hG hS ?_
       refine sp 38 hG hS ?_
       refine sp 39 hG hS ?_
       refine wpAnyR_done (by kernel_rfl) (fun w22 bw22 => ?_) _
       have b22 := below_step (Below.drew (Below.refl _ _)) bw22
       have z22 := b22.size
       have D22 := D21.trans (b22.mono zd21)
       have rY22 := (row_below b22 zY21).trans rY21
       have rX22 := (row_below D22 zX16).trans rX16
       have rE22 := (row_below D22 zE16).trans rE16
       have zd22 := D22.size
       have zX22 : X < w22.heap.size := by omega
       have zE22 : E < w22.heap.size := by omega
       have zY22 : Y < w22.heap.size := by omega
       clear hS bw22 b22 rY21 D21 hq1 hql hxx hxx2 hxx3 hxx4 gxp hop' hqI hq0
       cases ans with
       | true =>
        obtain ⟨hxk, rfl, hn1⟩ := HXY.out rfl
        have hn2 : ((outs.length : Int) != 1) = false := by simp [hn1]
        have hn3 : ((outs.length : Int) == 1) = true := by simp [hn1]
        have hn4 : (outs.length == 1) = true := by simp [hn1]
        clear hn1
        as_aux_lemma =>
         go_wp2_with fail
         refine wp_region_beginX [(X, #[Value.int .u8 (a.d : Int), Value.int .i64 (k : Int), Value.int .i64 a.n, Value.string ⟨a.s.toArray⟩]), (Y, (u8v d.src ++ (u8v src' ++ [Value.int .i64 ty', .string ⟨body'.toArray⟩, .int .i64 ov, .int .i64 op])).toArray), (E, (u8v d.dst ++ (u8v d.src ++ [Value.int .i64 d.ty, .string ⟨d.body.toArray⟩, .int .i64 d.vlan, .int .i64 d.prio])).toArray)] (fun W => Below w16.heap.size w16 W) hG rfl (by simp only [Rws]; (repeat (first | exact trivial | refine ⟨(by first | assumption | (simp [go_sem, *]; done)), (by first | omega | (simp; done) | (simp; omega)), ?_⟩))) (D22) (fun hS => ?_)
         refine sp 0 hG hS ?_
         refine sp 1 hG hS ?_
         refine sp 2 hG hS ?_
         refine sp 3 hG hS ?_
         refine sp 4 hG hS ?_
         refine sp 5 hG hS ?_
         refine sp 6 hG hS ?_
         refine sp 7 hG hS ?_
         refine sp 8 hG hS ?_
         refine sp 9 hG hS ?_
         refine sp 10 hG hS ?_
         refine sp 11 hG hS ?_
         refine sp 12 hG hS ?_
         refine sp 13 hG hS ?_
         refine sp 14 hG hS ?_
         refine sp 15 hG hS ?_
         refine sp 16 hG hS ?_
         refine sp 17 hG hS ?_
         refine sp 18 hG hS ?_
         refine sp 19 hG hS ?_
         refine sp 20 hG hS ?_
         refine sp 21 hG hS ?_
         refine wpAnyR_done (by kernel_rfl) (fun w23 bw23 => ?_) _
         have b23 := below_step (Below.drew (Below.refl _ _)) bw23
         have D23 := D22.trans (b23.mono zd22)
         clear hS bw23 b23 D22 rX22 rE22 rY22
         go_wp2_with fail
         go_roundw
         case rel => exact ⟨q + 1, by omega, by simp, D23⟩
         case measure => simp [intOf]; omega
       | false =>
        obtain ⟨hxk, rfl, rfl, rfl, rfl⟩ := HXN.out rfl
        have hxk2 : ((xi : Int) == (k : Int)) = false := beq_eq_false_iff_ne.2 (by omega)
        have hxk3 : (xi == k) = false := beq_eq_false_iff_ne.2 hxk
        as_aux_lemma =>
         go_wp2_with fail
         refine wp_region_beginX [(X, #[Value.int .u8 (a.d : Int), Value.int .i64 (k : Int), Value.int .i64 a.n, Value.string ⟨a.s.toArray⟩]), (Y, (u8v d.dst ++ (u8v d.src ++ [Value.int .i64 d.ty, .string ⟨d.body.toArray⟩, .int .i64 ov, .int .i64 op])).toArray), (E, (u8v d.dst ++ (u8v d.src ++ [Value.int .i64 d.ty, .string ⟨d.body.toArray⟩, .int .i64 d.vlan, .int .i64 d.prio])).toArray)] (fun W => Below w16.heap.size w16 W) hG rfl (by simp only [Rws]; (repeat (first | exact trivial | refine ⟨(by first | assumption | (simp [go_sem, *]; done)), (by first | omega | (simp; done) | (simp; omega)), ?_⟩))) (D22) (fun hS => ?_)
         refine sp 0 hG hS ?_
         refine sp 1 hG hS ?_
         refine sp 2 hG hS ?_
         refine sp 3 hG hS ?_
         refine sp 4 hG hS ?_
         refine sp 5 hG hS ?_
         refine sp 6 hG hS ?_
         refine sp 7 hG hS ?_
         refine sp 8 hG hS ?_
         refine sp 9 hG hS ?_
         refine sp 10 hG hS ?_
         refine sp 11 hG hS ?_
         refine sp 12 hG hS ?_
         refine sp 13 hG hS ?_
         refine sp 14 hG hS ?_
         refine wpAnyR_done (by kernel_rfl) (fun w23 bw23 => ?_) _
         have b23 := below_step (Below.drew (Below.refl _ _)) bw23
         have D23 := D22.trans (b23.mono zd22)
         clear hS bw23 b23 D22 rX22 rE22 rY22
         go_wp2_with fail
         go_roundw
         case rel => exact ⟨q + 1, by omega, by simp, D23⟩
         case measure => simp [intOf]; omega
     ·
      obtain rfl : q = outs.length := by omega
      have S17 := S16.trans (D0.mono S16.size)
      have HT17 := Lib.hid (HT16.out.below D0)
      have rS17 := (row_below D0 lS16).trans rS16
      clear HEL16 HT16 D0 hlq
      go_wp2_with fail
      go_roundw
      case rel => exact ⟨j + 1, by omega, by simp, s2, HCG.out, hsp2, HSR2.out, HT17.out, rS17, S17, by omega⟩
      case measure => simp [intOf]; omega
  ·
   obtain rfl : j = acts.length := by omega
   go_wp2_with fail
   go_ret
   exact ⟨rfl, B3.trans (cb.mono zB3)⟩
end
end Go.Proofs.Ytckckabedgpbiaa
