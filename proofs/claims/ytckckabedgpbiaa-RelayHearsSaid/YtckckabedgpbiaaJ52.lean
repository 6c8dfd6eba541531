/- Texts of this proof, merged: RlyA, RlyB, RlyE, RlyF, RlyG, RlyI, RlyWH. -/
import Derived.Test.YtckckabedgpbiaaJ50
import Derived.Test.YtckckabedgpbiaaJ51
import Derived.Test.YtckckabedgpbiaaArgsJ
import Derived.Test.YtckckabedgpbiaaJ49
set_option linter.unusedSimpArgs false
set_option linter.unusedVariables false
set_option maxRecDepth 4000
namespace Go.Proofs.Ytckckabedgpbiaa
section
open Go.RowKit Go.Shelf
section
variable {P : Program} {ops : Array Oper} {Q : Exit → Act → World → Prop} {md : Region.Mode} {S : World → Prop}
theorem wpAnyR_op1 (i : Nat) {fuel : Nat} {listed : Array Bool} {a : Act} {w : World} (hr : Region.ready md ops listed = [i])
  (h : ∀ w1, Below w.heap.size w w1 → wpOp P ops Q i (fun a' w' => S w' ∧ wpAnyR P md ops Q S fuel (listed.setIfInBounds i true) a' w') a w1) : wpAnyR P md ops Q S (fuel + 1) listed a w := by
 intro w1 h1
 refine ⟨fun h0 => by rw [hr] at h0; simp at h0, fun j hj => ?_⟩
 rw [hr] at hj
 obtain rfl := List.mem_singleton.1 hj
 exact h w1 h1
end
theorem portsOf {S : List Nat} {w : World} {B : Nat} {pa : Option Addr} {n cap : Nat} {rows : List (List Value)} {ps : List PortD} (h : OwnL w B 74 4 (.slice pa n cap) rows) (hl : ps.length ≤ 1000) (hS : ∀ s ∈ S, s < B)
  (hr : ∀ (q : Nat) (p : PortD), ps[q]? = some p → ∃ ta tc, rows[q]? = some (portV ta tc p) ∧ ElemsOff S w ta 1 (p.tagged.map fun v => [Value.int .i64 v])) : PortsOff S w pa ps := by
 obtain ⟨a', c', e, he⟩ := h.off S (fun s hs => .inl (hS s hs))
 cases e
 refine ⟨by unfold maxLen; omega, fun q p hq => ?_⟩
 obtain ⟨ta, tc, e1, e2⟩ := hr q p hq
 obtain ⟨b, off, e3, hb, hn, hra⟩ := he.2 q _ e1
 exact ⟨b, off, ta, tc, e3, hb, hn, hra, e2⟩
def RPortsOff (S : List Nat) (w : World) (pa : Option Addr) (rs : List RPortD) : Prop :=
 rs.length ≤ maxLen ∧ ∀ (i : Nat) (r : RPortD), rs[i]? = some r → ∃ b off ta cap, pa = some ⟨b, off, none⟩ ∧ b < w.heap.size ∧
  (∀ W, blk W b = blk w b → W.rangeAt b (off + i * 5) (rportV ta cap r)) ∧ ElemsOff S w ta 1 (r.p.tagged.map fun v => [Value.int .i64 v])
theorem RPortsAt.off {w : World} {pa : Option Addr} {rs : List RPortD} (h : RPortsAt w pa rs) (S : List Nat) (hS : ∀ x ∈ S, w.heap.size ≤ x) : RPortsOff S w pa rs := by
 refine ⟨h.1, fun i r hr => ?_⟩
 obtain ⟨b, off, ta, cap, e, hl, hra, ht⟩ := h.2 i r hr
 refine ⟨b, off, ta, cap, e, hl, hra, ht.1, fun q x hx => ?_⟩
 obtain ⟨b', off', e4, hb', hr'⟩ := ht.2 q x hx
 exact ⟨b', off', e4, hb', fun hm => by have := hS b' hm; omega, hr'⟩
theorem RPortsOff.at {S : List Nat} {w : World} {pa : Option Addr} {rs : List RPortD} (h : RPortsOff S w pa rs) : RPortsAt w pa rs := by
 refine ⟨h.1, fun i r hr => ?_⟩
 obtain ⟨b, off, ta, cap, e, hl, hra, ht⟩ := h.2 i r hr
 exact ⟨b, off, ta, cap, e, hl, hra, ht.elems⟩
theorem RPortsOff.below {S : List Nat} {w w' : World} {pa : Option Addr} {rs : List RPortD} (h : RPortsOff S w pa rs) (hb : Below w.heap.size w w') : RPortsOff S w' pa rs := by
 refine ⟨h.1, fun i r hr => ?_⟩
 obtain ⟨b, off, ta, cap, e, hl, hra, ht⟩ := h.2 i r hr
 exact ⟨b, off, ta, cap, e, Nat.lt_of_lt_of_le hl hb.size, fun W hW => hra W (hW.trans (blk_below hb hl)), ht.below hb⟩
theorem RPortsOff.get {S : List Nat} {w : World} {pa : Option Addr} {rs : List RPortD} (h : RPortsOff S w pa rs) {k : Nat} (hk : k < rs.length) : ∃ b off ta cap, pa = some ⟨b, off, none⟩ ∧ b < w.heap.size ∧
  (∀ W, Below w.heap.size w W → W.rangeAt b (off + k * 5) (rportV ta cap rs[k]) ∧ ElemsOff S W ta 1 (rs[k].p.tagged.map fun v => [Value.int .i64 v])) := by
 obtain ⟨b, off, ta, cap, e, hl, hr, ht⟩ := h.2 k rs[k] (List.getElem?_eq_getElem hk)
 exact ⟨b, off, ta, cap, e, hl, fun W hW => ⟨hr W (blk_below hW hl), ht.below hW⟩⟩
set_option maxRecDepth 20000 in
set_option maxHeartbeats 2000000 in
theorem of22X_any (S : List Nat) (pa : Option Addr) (cap : Nat) (rs : List RPortD) (w : World) (h : RPortsOff S w pa rs) (hSl : ∀ s ∈ S, s < w.heap.size) (hn : rs.length ≤ 1000) :
  Calls Try.prog 29 #[.slice pa rs.length cap] w fun e w' => (∃ u, e = .returned u ∧ ∃ pa' cap', u = .slice pa' rs.length cap' ∧ PortsOff S w' pa' (rs.map (·.p))) ∧ Below w.heap.size w w' := by
 have hnI : (rs.length : Int) ≤ 1000 := by omega
 go_enter Try.func29, Try.ntmps29
 go_wp2_with fail
 go_loopw [3, 4] (fun u i wr => ∃ (k : Nat) (ppa : Option Addr) (ppc : Nat) (rows : List (List Value)), k ≤ rs.length ∧ i = .int .i64 k ∧ u = .slice ppa k ppc ∧ rows.length = k ∧ OwnL wr w.heap.size 74 4 (.slice ppa k ppc) rows ∧
  (∀ (q : Nat) (r : RPortD), q < k → rs[q]? = some r → ∃ ta tc, rows[q]? = some (portV ta tc r.p) ∧ ElemsOff S w ta 1 (r.p.tagged.map fun v => [Value.int .i64 v])) ∧ Below w.heap.size w wr) (fun _ i _ => rs.length - (intOf i).toNat)
 case atStart => exact ⟨0, none, 0, [], by omega, rfl, rfl, rfl, OwnL.nil _ _ _ _, (fun q r hq _ => by omega), Below.refl _ _⟩
 case round =>
  obtain ⟨k, ppa, ppc, rows, hk, rfl, rfl, hrl, hown, hrows, cb⟩ := hrel
  have zb := cb.size
  by_cases hlt : k < rs.length
  ·
   have hltI : (k : Int) < (rs.length : Int) := by omega
   obtain ⟨pb, po, ta, tc, rfl, hpb, hrd⟩ := h.get hlt
   obtain ⟨r, hr⟩ : ∃ x, rs[k] = x := ⟨_, rfl⟩
   rw [hr] at hrd
   have hit : ElemsOff S w ta 1 (r.p.tagged.map fun v => [Value.int .i64 v]) := (hrd w (Below.refl _ _)).2
   have g0 : ∀ W, Below w.heap.size w W → W.cell? ⟨pb, po + k * 5, none⟩ = some (.int .i64 r.p.native) := fun W hW => (hrd W hW).1 0 _ rfl
   have g1 : ∀ W, Below w.heap.size w W → W.cell? ⟨pb, po + k * 5 + 1, none⟩ = some (.slice ta r.p.tagged.length tc) := fun W hW => (hrd W hW).1 1 _ rfl
   have g2 : ∀ W, Below w.heap.size w W → W.cell? ⟨pb, po + k * 5 + 2, none⟩ = some (.int .i64 r.p.hor) := fun W hW => (hrd W hW).1 2 _ rfl
   have g3 : ∀ W, Below w.heap.size w W → W.cell? ⟨pb, po + k * 5 + 3, none⟩ = some (.int .i64 r.p.lim) := fun W hW => (hrd W hW).1 3 _ rfl
   obtain ⟨o, ho⟩ : ∃ o, po + k * 5 = o := ⟨_, rfl⟩
   rw [ho] at g0 g1 g2 g3
   have HIT := Lib.hid hit
   have HR := Lib.hid hr
   have HRW := Lib.hid hrows
   have HOW := Lib.hid hown
   clear hrd hit hr hrows hown
   go_wp2_with fail
   have hG : GrowP fun W => Below w.heap.size w W := grow_base w
   refine wp_region_beginX [] (fun W => Below w.heap.size w W) hG rfl (by simp only [Rws]; (repeat (first | exact trivial | refine ⟨(by first | assumption | (simp [go_sem, *]; done)), (by first | omega | (simp; done) | (simp; omega)), ?_⟩))) (cb) (fun hS => ?_)
   refine sp 0 hG hS ?_
   refine sp 1 hG hS ?_
   refine sp 2 hG hS ?_
   refine sp 3 hG hS ?_
   refine sp 4 hG hS ?_
   refine sp 5 hG hS ?_
   refine sp 6 hG hS ?_
   refine sp 7 hG hS ?_
   refine sp 8 hG hS ?_
   refine sp 9 hG hS ?_
   refine sp 10 hG hS ?_
   refine sp 11 hG hS ?_
   refine sp 12 hG hS ?_
   refine sp 13 hG hS ?_
   refine sp 14 hG hS ?_
   refine sp 15 hG hS ?_
   refine sp 16 hG hS ?_
   refine sp 17 hG hS ?_
   refine sp 18 hG hS ?_
   refine sp 19 hG hS ?_
   refine sp 20 hG hS ?_
   refine sp 21 hG hS ?_
   refine sp 22 hG hS ?_
   refine wpAnyR_op1 23 (by kernel_rfl) (fun u6 hu6 => ?_)
   refine wpOp_step rfl (fun K hK => ?_)
   clear hS
   go_simp
   replace hu6 : Below wr.heap.size wr u6 := below_step (Below.drew (Below.refl _ _)) hu6
   have zu6 := hu6.size
   have cb6 := cb.trans (hu6.mono zb)
   refine hK _ _ ⟨⟨trivial, Below.alloc cb6 (by omega) _⟩, ?_⟩
   clear hK K
   refine wpAnyR_op1 24 (by kernel_rfl) (fun u8 hu8 => ?_)
   have zu8 := hu8.size
   rw [alloc_sizeW] at zu8
   have b38 : Below wr.heap.size wr u8 := (Below.alloc hu6 (by omega) _).trans (hu8.mono (by rw [alloc_sizeW]; omega))
   have cb8 := cb.trans (b38.mono zb)
   have rN8 : row u8 u6.heap.size = #[Value.int .i64 r.p.native, Value.slice ta r.p.tagged.length tc, Value.int .i64 r.p.hor, Value.int .i64 r.p.lim] := by rw [row_below hu8 (by rw [alloc_sizeW]; omega)]; exact row_alloc_at _ _ _ rfl
   refine wpOp_wp (by simp only [List.getElem?_toArray, List.getElem?_cons_succ, List.getElem?_cons_zero]; rfl) rfl ?_
   refine wp_appendL (t := 64) rfl Try.underlying64 portInfo (by decide) (by decide) w.heap.size _ rows rfl (HOW.out.below b38) u6.heap.size 1 [Value.int .i64 r.p.native, Value.slice ta r.p.tagged.length tc, Value.int .i64 r.p.hor, Value.int .i64 r.p.lim] rfl rN8 rfl rfl (by omega) (by omega) ?_
   intro v' u9 hown9 hb9 _
   obtain ⟨ppa2, ppc2, hve2, _⟩ := hown9.elems
   rw [List.length_append, List.length_singleton, hrl] at hve2
   subst hve2
   have cb9 := cb8.trans hb9
   have HO9 := Lib.hid hown9
   clear hown9
   have hS : XS [] (fun W => Below w.heap.size w W) u9 := ⟨trivial, cb9⟩
   refine ⟨hS, ?_⟩
   (try simp only [Act.put, List.setIfInBounds_toArray, List.set_cons_zero, List.set_cons_succ])
   refine sp 25 hG hS ?_
   refine wpAnyR_done (by kernel_rfl) (fun w10 bw10 => ?_) _
   have z9 := cb9.size
   have cb10 := cb9.trans (bw10.mono z9)
   have HO10 := Lib.hid (HO9.out.below bw10)
   have hrows2 : ∀ (q : Nat) (r' : RPortD), q < k + 1 → rs[q]? = some r' → ∃ ta' tc', (rows ++ [[Value.int .i64 r.p.native, Value.slice ta r.p.tagged.length tc, Value.int .i64 r.p.hor, Value.int .i64 r.p.lim]])[q]? = some (portV ta' tc' r'.p) ∧ ElemsOff S w ta' 1 (r'.p.tagged.map fun v => [Value.int .i64 v]) := by
    intro q r' hq hr'
    by_cases hqk : q < k
    ·
     obtain ⟨ta', tc', e1, e2⟩ := HRW.out q r' hqk hr'
     exact ⟨ta', tc', by rw [List.getElem?_append_left (by omega)]; exact e1, e2⟩
    ·
     have hqe : q = k := by omega
     subst hqe
     rw [List.getElem?_eq_getElem hlt, HR.out] at hr'
     cases hr'
     exact ⟨ta, tc, by rw [List.getElem?_append_right (by omega), hrl, Nat.sub_self]; rfl, HIT.out⟩
   have HRW2 := Lib.hid hrows2
   clear hrows2 hS g0 g1 g2 g3 hu6 hu8 b38 rN8 hb9 bw10 HO9
   go_wp2_with fail
   go_roundw
   case rel => exact ⟨k + 1, ppa2, ppc2, _, by omega, by simp, rfl, by simp [hrl], HO10.out, HRW2.out, cb10⟩
   case measure => simp [intOf]; omega
  ·
   obtain rfl : k = rs.length := by omega
   have hltI : ¬ (rs.length : Int) < (rs.length : Int) := by omega
   have HOW := Lib.hid hown
   have HRW := Lib.hid hrows
   clear hown hrows
   go_wp2_with fail
   go_ret
   refine ⟨⟨_, rfl, ppa, ⟨ppc, rfl⟩, portsOf HOW.out (by rw [List.length_map]; exact hn) hSl ?_⟩, cb⟩
   intro q p hq
   rw [List.getElem?_map] at hq
   cases hr : rs[q]? with
   | none => rw [hr] at hq; cases hq
   | some r =>
    rw [hr] at hq
    simp only [Option.map_some, Option.some.injEq] at hq
    subst hq
    obtain ⟨ta, tc, e1, e2⟩ := HRW.out q r (List.getElem?_eq_some_iff.1 hr).1 hr
    exact ⟨ta, tc, e1, e2.below cb⟩
theorem of22_any (pa : Option Addr) (cap : Nat) (rs : List RPortD) (w : World) (h : RPortsAt w pa rs) (hn : rs.length ≤ 1000) :
  Calls Try.prog 29 #[.slice pa rs.length cap] w fun e w' => (∃ u, e = .returned u ∧ ∃ pa' cap', u = .slice pa' rs.length cap' ∧ PortsOff [] w' pa' (rs.map (·.p))) ∧ Below w.heap.size w w' :=
 of22X_any [] pa cap rs w (h.off [] (fun x hx => by cases hx)) (fun x hx => by cases hx) hn
end
section
open Go.RowKit Go.Shelf
structure Act22 where
 d : Nat
 port : Int
 n : Int
 s : List UInt8
def act22C (x : Act22) : List Value := [Value.int .u8 (x.d : Int), Value.int .i64 x.port, Value.int .i64 x.n, Value.string ⟨x.s.toArray⟩]
def Acts22 (w : World) (a : Option Addr) (l : List Act22) : Prop := ElemsAt w a 4 (l.map act22C)
theorem Acts22.below {w w' : World} {a : Option Addr} {l : List Act22} (h : Acts22 w a l) (hb : Below w.heap.size w w') : Acts22 w' a l := ElemsAt.below h hb
theorem Acts22.get {w : World} {a : Option Addr} {l : List Act22} (h : Acts22 w a l) {k : Nat} (hk : k < l.length) : ∃ b off, a = some ⟨b, off, none⟩ ∧ b < w.heap.size ∧ ∀ W, Below w.heap.size w W → W.rangeAt b (off + k * 4) (act22C l[k]) := by
 obtain ⟨b, off, e, hb, hr⟩ := h.2 k (act22C l[k]) (by rw [List.getElem?_map, List.getElem?_eq_getElem hk]; rfl)
 exact ⟨b, off, e, hb, fun W hW => hr W (blk_below hW hb)⟩
def fewP (rs : List RPortD) (acts : List Act22) (w : World) (e : Ending) (w' : World) : Prop := (∃ b, e = .returned (.bool b) ∧ (b = true → rs.length ≤ 40 ∧ acts.length ≤ 60 ∧ ∀ a ∈ acts, a.s.length ≤ 2000)) ∧ w' = w
set_option maxRecDepth 20000 in
set_option maxHeartbeats 1000000 in
theorem few22_any (pa : Option Addr) (cap : Nat) (rs : List RPortD) (aa : Option Addr) (acap : Nat) (acts : List Act22) (w : World) (h : RPortsAt w pa rs) (ha : Acts22 w aa acts) (hs : ∀ a ∈ acts, a.s.length ≤ maxLen) :
  Calls Try.prog 28 #[.slice pa rs.length cap, .slice aa acts.length acap] w fun e w' => fewP rs acts w e w' := by
 have hm := h.1
 have hm2 : (rs.length : Int) ≤ 9223372036854775807 := by unfold maxLen at hm; omega
 have am := ha.1
 rw [List.length_map] at am
 have am2 : (acts.length : Int) ≤ 9223372036854775807 := by unfold maxLen at am; omega
 go_enter Try.func28, Try.ntmps28
 go_wp2_with fail
 go_loopw [5] (fun i wr => ∃ k : Nat, k ≤ rs.length ∧ i = .int .i64 k ∧ wr = w) (fun i _ => rs.length - (intOf i).toNat)
 case atStart => exact ⟨0, by omega, rfl, rfl⟩
 case round =>
  obtain ⟨k, hk, rfl, rfl⟩ := hrel
  by_cases hlt : k < rs.length ∧ k ≤ 40
  ·
   obtain ⟨hlt, h40⟩ := hlt
   have hltI : (k : Int) < (rs.length : Int) := by omega
   have h40I : (k : Int) ≤ 40 := by omega
   obtain ⟨pb, po, ta, tc, rfl, hpb, hrd⟩ := h.get hlt
   obtain ⟨r, hr⟩ : ∃ x, rs[k] = x := ⟨_, rfl⟩
   rw [hr] at hrd
   have htm := (hrd wr (Below.refl _ _)).2.len
   have htm2 : (r.p.tagged.length : Int) ≤ 9223372036854775807 := by unfold maxLen at htm; omega
   have g1 : wr.cell? ⟨pb, po + k * 5 + 1, none⟩ = some (.slice ta r.p.tagged.length tc) := (hrd wr (Below.refl _ _)).1 1 _ rfl
   obtain ⟨o, ho⟩ : ∃ o, po + k * 5 = o := ⟨_, rfl⟩
   rw [ho] at g1
   clear hrd hr
   by_cases hbig : 100 < r.p.tagged.length
   ·
    have hbigI : (100 : Int) < (r.p.tagged.length : Int) := by omega
    go_wp2_with fail
    go_ret
    exact (show fewP _ _ _ _ _ from ⟨⟨false, rfl, fun h => by cases h⟩, rfl⟩)
   ·
    have hbigI : ¬ (100 : Int) < (r.p.tagged.length : Int) := by omega
    go_wp2_with fail
    go_roundw
    case rel => exact ⟨k + 1, by omega, by simp, by first | rfl | trivial⟩
    case measure => simp [intOf]; omega
  ·
   have hout : ¬ (k : Int) < (rs.length : Int) ∨ ((k : Int) < (rs.length : Int) ∧ ¬ (k : Int) ≤ 40) := by
    by_cases h1 : k < rs.length
    ·
     exact .inr ⟨by omega, by omega⟩
    ·
     exact .inl (by omega)
   clear hlt
   rcases hout with h1 | ⟨h1, h2⟩
   all_goals
    go_wp2_with fail
    go_loopw [6] (fun i wq => ∃ q : Nat, q ≤ acts.length ∧ i = .int .i64 q ∧ wq = wr ∧ ∀ (j : Nat) (hj : j < acts.length), j < q → acts[j].s.length ≤ 2000) (fun i _ => acts.length - (intOf i).toNat)
    case atStart => exact ⟨0, by omega, rfl, rfl, fun j _ hj => by omega⟩
    case round =>
     obtain ⟨q, hq, rfl, rfl, hall⟩ := hrel
     have HA := Lib.hid hall
     clear hall
     by_cases hlt : q < acts.length ∧ q ≤ 60
     ·
      obtain ⟨hlt, h60⟩ := hlt
      have hltI : (q : Int) < (acts.length : Int) := by omega
      have h60I : (q : Int) ≤ 60 := by omega
      obtain ⟨ab, ao, rfl, hab, har⟩ := ha.get hlt
      obtain ⟨x, hx⟩ : ∃ x, acts[q] = x := ⟨_, rfl⟩
      rw [hx] at har
      have hsm : x.s.length ≤ maxLen := hs x (by rw [← hx]; exact List.getElem_mem hlt)
      have hsm2 : (x.s.length : Int) ≤ 9223372036854775807 := by unfold maxLen at hsm; omega
      have g1 : wr.cell? ⟨ab, ao + q * 4 + 3, none⟩ = some (.string ⟨x.s.toArray⟩) := har wr (Below.refl _ _) 3 _ rfl
      obtain ⟨o, ho⟩ : ∃ o, ao + q * 4 = o := ⟨_, rfl⟩
      rw [ho] at g1
      have HX := Lib.hid hx
      clear har hx
      by_cases hbig : 2000 < x.s.length
      ·
       have hbigI : (2000 : Int) < (x.s.length : Int) := by omega
       go_wp2_with fail
       go_ret
       exact (show fewP _ _ _ _ _ from ⟨⟨false, rfl, fun h => by cases h⟩, rfl⟩)
      ·
       have hbigI : ¬ (2000 : Int) < (x.s.length : Int) := by omega
       go_wp2_with fail
       go_roundw
       case rel =>
        refine ⟨q + 1, by omega, by simp, by first | rfl | trivial, fun j hj hjq => ?_⟩
        rcases Nat.lt_or_ge j q with h3 | h3
        ·
         exact HA.out j hj h3
        ·
         obtain rfl : j = q := by omega
         rw [HX.out]
         omega
       case measure => simp [intOf]; omega
     ·
      have hout : ¬ (q : Int) < (acts.length : Int) ∨ ((q : Int) < (acts.length : Int) ∧ ¬ (q : Int) ≤ 60) := by
       by_cases h1 : q < acts.length
       ·
        exact .inr ⟨by omega, by omega⟩
       ·
        exact .inl (by omega)
      have hfin : acts.length ≤ 60 → ∀ a ∈ acts, a.s.length ≤ 2000 := fun h6 a haa => by
       obtain ⟨j, hj, rfl⟩ := List.getElem_of_mem haa
       exact HA.out j hj (by omega)
      have HF := Lib.hid hfin
      clear hlt hfin
      rcases hout with h3 | ⟨h3, h4⟩
      all_goals
       by_cases c1 : rs.length ≤ 40
       ·
        have c1I : (rs.length : Int) ≤ 40 := by omega
        by_cases c2 : acts.length ≤ 60
        ·
         have c2I : (acts.length : Int) ≤ 60 := by omega
         go_wp2_with fail
         go_ret
         exact (show fewP _ _ _ _ _ from ⟨⟨true, rfl, fun _ => ⟨c1, c2, HF.out c2⟩⟩, rfl⟩)
        ·
         have c2I : ¬ (acts.length : Int) ≤ 60 := by omega
         go_wp2_with fail
         go_ret
         exact (show fewP _ _ _ _ _ from ⟨⟨false, rfl, fun h => by cases h⟩, rfl⟩)
       ·
        have c1I : ¬ (rs.length : Int) ≤ 40 := by omega
        go_wp2_with fail
        go_ret
        exact (show fewP _ _ _ _ _ from ⟨⟨false, rfl, fun h => by cases h⟩, rfl⟩)
/-! ### the document's example -/
def pA : PortD := ⟨1, [], 0, 5⟩
def lineA : List UInt8 := ethS m2 m4 2048 [] (-1) 0
def brA : BrS := stateS (stateS (newS 10 [pA, pA]) 0 3) 1 3
theorem lineA_parse : ethParse lineA = .ok ⟨m2, m4, 2048, [], -1, 0⟩ := ethParse_print m2 m4 2048 [] (-1) 0 (by decide)
theorem comeA (t : TalkD) (ht : t.ask = none) : (comeS brA 0 lineA t).2 = ([(1, lineA)], 0) := by
 unfold comeS
 rw [lineA_parse]
 obtain ⟨ip, mac, ok, ask⟩ := t
 dsimp only at ht
 subst ht
 rfl
theorem talk_any (dst src : Vector UInt8 6) (ty : Int) (body : List UInt8) (hb : body.length ≤ 10000) : ∃ t, TalkC dst src ty body t ∧ (ty ≠ 2054 ∧ ty ≠ 34525 → t.ask = none) := by
 obtain ⟨ip, mac, ok, hA⟩ := ann_both dst src ty body hb
 rcases asks_any dst src ty body hb with hno | ⟨ipq, ans, hs⟩
 ·
  exact ⟨⟨ip, mac, ok, none⟩, ⟨hA.prog, fun _ => hno, fun _ _ h => by cases h⟩, fun _ => rfl⟩
 ·
  refine ⟨⟨ip, mac, ok, some (ipq, ans)⟩, ⟨hA.prog, (fun h => by cases h), fun a b h => by cases h; exact hs⟩, fun h => ?_⟩
  rcases hs.typ with e | e
  ·
   exact absurd e h.1
  ·
   exact absurd e h.2
end
section
open Go.RowKit Go.Shelf
theorem newG (ageing : Int) (ps : List PortD) (h : newOkB ageing ps = true) : BrG (newS ageing ps) 0 ∧ 0 < ps.length ∧ (∀ p ∈ ps, okPort p = true) ∧ (∀ p ∈ ps, 0 ≤ p.lim ∧ p.lim ≤ 65535) := by
 unfold newOkB newOkL at h
 simp only [Bool.and_eq_true, decide_eq_true_eq, List.length_map, Bool.not_eq_true', List.any_map] at h
 obtain ⟨⟨h1, ⟨⟨⟨h2, h3⟩, h4⟩, h5⟩⟩, h6⟩ := h
 refine ⟨⟨h4, List.Pairwise.nil, (fun b hb => by cases hb), Nat.le_refl _, (fun b hb => by cases hb), List.Pairwise.nil, (fun b hb => by cases hb), by simp [newS], by simp [newS], h2, h3⟩, by omega, fun p hp => List.all_eq_true.1 h1 p hp, fun p hp => ?_⟩
 have := List.any_eq_false.1 h5 p hp
 simp only [Function.comp, badLim, Bool.or_eq_true, decide_eq_true_eq, not_or] at this
 omega
theorem portsA {w : World} {g : Nat} (hr : row w g = #[Value.int .i64 1, Value.slice none 0 0, Value.int .i64 0, Value.int .i64 5, Value.int .i64 1, Value.slice none 0 0, Value.int .i64 0, Value.int .i64 5]) (hg : g < w.heap.size) : PortsOff [] w (some ⟨g, 0, none⟩) [pA, pA] := by
 refine ⟨by simp [maxLen], fun i p hp => ?_⟩
 have hi : i < 2 := (List.getElem?_eq_some_iff.1 hp).1
 have hpA : p = pA := by
  match i, hp with
  | 0, hp => exact (Option.some.inj hp).symm
  | 1, hp => exact (Option.some.inj hp).symm
  | n + 2, hp => simp at hp
 subst hpA
 refine ⟨g, 0, none, 0, rfl, hg, by simp, fun W hW j u hj => ?_, ElemsOff.nil _ _ _ _⟩
 have hjl : j < 4 := (List.getElem?_eq_some_iff.1 hj).1
 have hrW : row W g = _ := (row_of_block hW).trans hr
 rw [cell_of_row' (by rw [hrW]; simp; omega), hrW]
 match i, hi, j, hjl, hj with
 | 0, _, 0, _, hj => exact hj
 | 0, _, 1, _, hj => exact hj
 | 0, _, 2, _, hj => exact hj
 | 0, _, 3, _, hj => exact hj
 | 1, _, 0, _, hj => exact hj
 | 1, _, 1, _, hj => exact hj
 | 1, _, 2, _, hj => exact hj
 | 1, _, 3, _, hj => exact hj
set_option maxRecDepth 20000 in
set_option maxHeartbeats 2000000 in
theorem awake22_any (w : World) : Calls Try.prog 27 #[] w fun e w' => e = .returned (.bool true) ∧ Below w.heap.size w w' := by
 go_enter Try.func27, Try.ntmps27
 go_wp2_with fail
 refine (rNew_any 10 (some ⟨w.heap.size + 1, 0, none⟩) 2 [pA, pA] _ (portsA ((row_alloc_at _ _ _ (by simp)).trans rfl) (by simp)) (by decide)).mono ?_
 rintro e w1 (⟨h0, _⟩ | ⟨hok, A, rfl, hnb⟩)
 ·
  exact absurd h0 (by decide)
 have z1 := hnb.below.size
 simp only [alloc_sizeW] at z1
 have b1 : Below w.heap.size w w1 := Below.trans (Below.alloc (Below.alloc (Below.refl _ _) (Nat.le_refl _) _) (by rw [alloc_sizeW]; omega) _) (hnb.below.mono (by rw [alloc_sizeW, alloc_sizeW]; omega))
 obtain ⟨g1, _⟩ := newG 10 [pA, pA] hok
 have hlo := hnb.lo
 simp only [alloc_sizeW] at hlo
 have H1 : Calls Try.prog 31 #[.pointer (some ⟨A.B, 0, none⟩), .int .i64 0, .int .i64 3] w1 fun e w' => e = .returned (.int .i64 0) ∧ BelowS w1.heap.size A.muts w1 w' ∧ BrT w' A (stateS (newS 10 [pA, pA]) 0 3) := rState_ok w1 hnb.br 0 3 (by decide) (by decide) (by decide) (by decide) g1.std (by decide)
 have H2 : ∀ W, BrT W A (stateS (newS 10 [pA, pA]) 0 3) → Calls Try.prog 31 #[.pointer (some ⟨A.B, 0, none⟩), .int .i64 1, .int .i64 3] W fun e w' => e = .returned (.int .i64 0) ∧ BelowS W.heap.size A.muts W w' ∧ BrT w' A brA := fun W hW => rState_ok W hW 1 3 (by decide) (by decide) (by decide) (by decide) List.Pairwise.nil (by decide)
 obtain ⟨t, ht, htn⟩ := talk_any m2 m4 2048 [] (by simp)
 have hcA := comeA t (htn (by decide))
 have gA : BrG brA 0 := ⟨by decide, List.Pairwise.nil, (fun b hb => by cases hb), by decide, (fun b hb => by cases hb), List.Pairwise.nil, (fun b hb => by cases hb), by decide, by decide, by decide⟩
 have H3 : ∀ W, BrT W A brA → Calls Try.prog 33 #[.pointer (some ⟨A.B, 0, none⟩), .int .i64 0, .string ⟨lineA.toArray⟩] W fun e w' => (∃ u, e = .returned (.tuple #[u, .int .i64 0]) ∧ OwnL w' W.heap.size 84 2 u [outC (1, lineA)]) ∧ BelowS W.heap.size A.muts W w' ∧ ∃ s, BrT w' A s := fun W hW => by
  have := rCome_any W hW (Nat.zero_le _) gA 0 (by decide) lineA (by decide) t (fun d hd => by rw [lineA_parse] at hd; cases hd; exact ht)
  rw [hcA] at this
  exact this.mono fun e w' ⟨h1, h2, h3⟩ => ⟨h1, h2, _, h3⟩
 have H4 := fun W => ethPrint_any m2 m4 2048 [] (-1) 0 W (by decide)
 rw [show ethS m2 m4 2048 [] (-1) 0 = lineA from rfl] at H4
 obtain ⟨ln, hln⟩ : ∃ x, lineA = x := ⟨_, rfl⟩
 rw [hln] at H3 H4
 have HX1 := Lib.hid H1
 have HX2 := Lib.hid H2
 have HX3 := Lib.hid H3
 have HX4 := Lib.hid H4
 clear H1 H2 H3 H4 hln hcA htn ht gA g1 hok
 go_wp2_with fail
 (with_reducible refine HX1.out.mono ?_)
 rintro e w2 ⟨rfl, b2, t2⟩
 go_wp2_with fail
 (with_reducible refine (HX2.out _ t2).mono ?_)
 rintro e w3 ⟨rfl, b3, t3⟩
 unfold ethV at HX4
 go_wp2_with fail
 (with_reducible refine (HX4.out _).mono ?_)
 rintro e w4 ⟨rfl, b4⟩
 have t4 := t3.below b4
 go_wp2_with fail
 (with_reducible refine (HX3.out _ t4).mono ?_)
 rintro e w5 ⟨⟨u, rfl, hown⟩, b5, _⟩
 obtain ⟨a, c, rfl, hel⟩ := hown.elems
 obtain ⟨ob, oo, rfl, hob, hra⟩ := hel.2 0 _ rfl
 have k0 : w5.cell? ⟨ob, oo, none⟩ = some (.int .i64 1) := hra w5 rfl 0 _ rfl
 have k1 : w5.cell? ⟨ob, oo + 1, none⟩ = some (.string ⟨ln.toArray⟩) := hra w5 rfl 1 _ rfl
 have hB : Below w.heap.size w w5 := by
  have hmu : ∀ x ∈ A.muts, w.heap.size ≤ x := by
   intro x hx
   have := hlo x (by simp only [BrA.muts, List.mem_cons, List.not_mem_nil, or_false] at hx ⊢; omega)
   omega
  have q2 := b2.below (B' := w.heap.size) b1.size hmu
  have q3 := b3.below (B' := w.heap.size) (Nat.le_trans b1.size b2.size) hmu
  have s3 : w.heap.size ≤ w3.heap.size := Nat.le_trans b1.size (Nat.le_trans b2.size b3.size)
  have q5 := b5.below (B' := w.heap.size) (Nat.le_trans s3 b4.size) hmu
  exact (((b1.trans q2).trans q3).trans (b4.mono s3)).trans q5
 clear hown hel hra hob
 go_wp2_with fail
 go_ret
 exact ⟨rfl, hB⟩
end
section
open Go.RowKit Go.Shelf
theorem stateS_good {s : BrS} {N : Nat} (g : BrG s N) (k : Nat) (x : Int) : BrG (stateS s k x) N := by
 have hsub : ∀ b ∈ (stateS s k x).st, b ∈ s.st := by
  intro b hb
  unfold stateS at hb
  dsimp only at hb
  by_cases hx : x = 0
  ·
   rw [if_pos hx] at hb
   exact (List.mem_filter.1 hb).1
  ·
   rw [if_neg hx] at hb
   exact hb
 refine ⟨g.n32, ?_, fun b hb => g.stp b (hsub b hb), ?_, fun b hb => g.sta b (hsub b hb), g.bid, g.bia, g.bin, g.cs, g.age⟩
 ·
  unfold stateS
  dsimp only
  by_cases hx : x = 0
  ·
   rw [if_pos hx]; exact g.std.filter _
  ·
   rw [if_neg hx]; exact g.std
 ·
  unfold stateS
  dsimp only
  by_cases hx : x = 0
  ·
   rw [if_pos hx]; exact Nat.le_trans (List.length_filter_le _ _) g.stn
  ·
   rw [if_neg hx]; exact g.stn
theorem rat_mod (n k : Nat) (hk : 0 < k) : ((n : Int)).tmod (k : Int) = ((n % k : Nat) : Int) := by
 rw [Int.tmod_eq_emod_of_nonneg (by omega)]
 omega
theorem Acts22.nil (w : World) (a : Option Addr) : Acts22 w a [] := by
 unfold Acts22
 exact ElemsAt.nil _ _ _
theorem few22_nil (pa : Option Addr) (cap : Nat) (rs : List RPortD) (w : World) (h : RPortsAt w pa rs) :
  Calls Try.prog 28 #[.slice pa rs.length cap, .slice none 0 0] w fun e w' => (∃ b, e = .returned (.bool b) ∧ (b = true → rs.length ≤ 40)) ∧ w' = w := by
 have := few22_any pa cap rs none 0 ([] : List Act22) w h (Acts22.nil _ _) (fun a ha => absurd ha List.not_mem_nil)
 exact this.mono fun e w' ⟨⟨b, h1, h2⟩, h3⟩ => ⟨⟨b, h1, fun hb => (h2 hb).1⟩, h3⟩
theorem lo_muts {w : World} {A : BrA} (h : ∀ b ∈ [A.B, A.SB, A.LT, A.LM, A.HT, A.HM], w.heap.size ≤ b) : ∀ x ∈ A.muts, w.heap.size ≤ x := by
 intro x hx
 refine h x ?_
 simp only [BrA.muts, List.mem_cons, List.not_mem_nil, or_false] at hx ⊢
 omega
end
section
open Go.RowKit Go.Shelf
def stC (f : Nat → Int) (n j : Nat) : Array Value := ints ((List.range n).map fun i => if i < j then f i else 0)
@[simp, go_sem] theorem stC_size (f : Nat → Int) (n j : Nat) : (stC f n j).size = n := by simp [stC, ints]
theorem PortsOff.nil {S : List Nat} {w : World} {pa : Option Addr} {ps : List PortD} (h : PortsOff S w pa ps) : PortsOff [] w pa ps := by
 refine ⟨h.1, fun i p hp => ?_⟩
 obtain ⟨b, off, ta, cap, e, hl, hn, hr, ht⟩ := h.2 i p hp
 refine ⟨b, off, ta, cap, e, hl, List.not_mem_nil, hr, ht.1, fun q x hx => ?_⟩
 obtain ⟨b', off', e', hl', _, hr'⟩ := ht.2 q x hx
 exact ⟨b', off', e', hl', List.not_mem_nil, hr'⟩
end
section
open Go.RowKit Go.Shelf
theorem isL_eq {c : LB} {v : Int} {mac : Vector UInt8 6} (h : c.is v mac = true) : v = c.v ∧ mac = c.mac := by
 unfold LB.is at h
 simpa [Bool.and_eq_true, beq_iff_eq] using h
theorem distL_put (c : LB) : ∀ {m : List LB}, DistL m → DistL (putL c m)
 | [], _ => by unfold putL DistL; simp
 | d :: m, h => by
  rw [DistL, List.pairwise_cons] at h
  rw [putL]
  by_cases hc : d.is c.v c.mac = true
  ·
   rw [if_pos hc, DistL, List.pairwise_cons]
   refine ⟨fun b hb => ?_, h.2⟩
   have h1 := h.1 b hb
   obtain ⟨e1, e2⟩ := isL_eq hc
   unfold LB.is at h1 ⊢
   rw [e1, e2]
   exact h1
  ·
   rw [if_neg hc, DistL, List.pairwise_cons]
   refine ⟨fun b hb => ?_, distL_put c h.2⟩
   rcases putL_mem hb with rfl | hb
   ·
    exact Bool.eq_false_iff.2 hc
   ·
    exact h.1 b hb
theorem lenL_put (c : LB) : ∀ m : List LB, (putL c m).length ≤ m.length + 1
 | [] => by simp [putL]
 | d :: m => by
  have h1 := lenL_put c m
  rw [putL]
  by_cases hc : d.is c.v c.mac = true
  ·
   rw [if_pos hc]; simp
  ·
   rw [if_neg hc]; simp; omega
theorem distL_hear {lim v : Int} {mac : Vector UInt8 6} {port : Int} {m : List LB} (h : DistL m) : DistL (hearL lim v mac port m) := by
 unfold hearL
 generalize ((match findL v mac m with | some b => b.port == port | none => false) || decide ((onL port m : Int) < lim)) = b
 cases b
 ·
  exact h
 ·
  exact distL_put _ h
theorem lenL_hear {lim v : Int} {mac : Vector UInt8 6} {port : Int} {m : List LB} : (hearL lim v mac port m).length ≤ m.length + 1 := by
 unfold hearL
 generalize ((match findL v mac m with | some b => b.port == port | none => false) || decide ((onL port m : Int) < lim)) = b
 cases b
 ·
  exact Nat.le_succ _
 ·
  exact lenL_put _ m
theorem BrG.more {s : BrS} {N M : Nat} (g : BrG s N) (h : N ≤ M) : BrG s M :=
 ⟨g.n32, g.std, g.stp, Nat.le_trans g.stn h, g.sta, g.bid, g.bia, g.bin, by obtain ⟨h0, h1, h2, h3, h4⟩ := g.cs; omega, g.age⟩
theorem comeD_good {s : BrS} {N : Nat} (g : BrG s N) {k : Nat} (hk : k < s.ports.length) (d : EthD) (t : TalkD) : BrG (comeD s k d t).1 (N + 1) := by
 obtain ⟨h0, h1, h2, h3, h4⟩ := g.cs
 have hst : ∀ v : Int, DistL (hearL (s.port k).lim v d.src k s.st) ∧ (∀ b ∈ hearL (s.port k).lim v d.src k s.st, ∃ j : Nat, b.port = (j : Int) ∧ j < s.ports.length) ∧ (hearL (s.port k).lim v d.src k s.st).length ≤ N + 1 ∧ (∀ b ∈ hearL (s.port k).lim v d.src k s.st, 0 ≤ b.age ∧ b.age ≤ 1000000) := fun v => by
  refine ⟨distL_hear g.std, hear_ports g rfl hk, Nat.le_trans lenL_hear (by have := g.stn; omega), fun b hb => ?_⟩
  rcases hear_mem hb with e | e
  ·
   rw [e]; exact ⟨by simp, by simp⟩
  ·
   exact g.sta b e
 have hn := g.stn
 unfold comeD
 split
 ·
  exact ⟨g.n32, g.std, g.stp, by show s.st.length ≤ N + 1; omega, g.sta, g.bid, g.bia, g.bin, by dsimp only; omega, g.age⟩
 ·
  split
  ·
   exact ⟨g.n32, g.std, g.stp, by show s.st.length ≤ N + 1; omega, g.sta, g.bid, g.bia, g.bin, by dsimp only; omega, g.age⟩
  ·
   split
   ·
    exact ⟨g.n32, g.std, g.stp, by show s.st.length ≤ N + 1; omega, g.sta, g.bid, g.bia, g.bin, by dsimp only; omega, g.age⟩
   ·
    dsimp only
    obtain ⟨q1, q2, q3, q4⟩ := hst (inP (s.port k).native (s.port k).tagged d.vlan).1
    split
    ·
     exact ⟨g.n32, q1, q2, q3, q4, g.bid, g.bia, g.bin, by dsimp only; omega, g.age⟩
    ·
     split
     ·
      exact ⟨g.n32, q1, q2, q3, q4, dist_learn g.bid, age_learn g.bia, len_learn g.bin, by dsimp only; omega, g.age⟩
     ·
      exact ⟨g.n32, q1, q2, q3, q4, dist_learn g.bid, age_learn g.bia, len_learn g.bin, by dsimp only; omega, g.age⟩
theorem comeS_good {s : BrS} {N : Nat} (g : BrG s N) {k : Nat} (hk : k < s.ports.length) (l : List UInt8) (t : TalkD) : BrG (comeS s k l t).1 (N + 1) := by
 obtain ⟨h0, h1, h2, h3, h4⟩ := g.cs
 have hn := g.stn
 unfold comeS
 split
 ·
  exact ⟨g.n32, g.std, g.stp, by show s.st.length ≤ N + 1; omega, g.sta, g.bid, g.bia, g.bin, by dsimp only; omega, g.age⟩
 ·
  exact comeD_good g hk _ t
theorem comeD_ports (s : BrS) (k : Nat) (d : EthD) (t : TalkD) : (comeD s k d t).1.ports = s.ports ∧ (comeD s k d t).1.states = s.states ∧ (comeD s k d t).1.ageing = s.ageing := by
 unfold comeD
 split
 ·
  exact ⟨rfl, rfl, rfl⟩
 ·
  split
  ·
   exact ⟨rfl, rfl, rfl⟩
  ·
   split
   ·
    exact ⟨rfl, rfl, rfl⟩
   ·
    dsimp only
    split
    ·
     exact ⟨rfl, rfl, rfl⟩
    ·
     split <;> exact ⟨rfl, rfl, rfl⟩
theorem comeS_ports (s : BrS) (k : Nat) (l : List UInt8) (t : TalkD) : (comeS s k l t).1.ports = s.ports ∧ (comeS s k l t).1.states = s.states ∧ (comeS s k l t).1.ageing = s.ageing := by
 unfold comeS
 split
 ·
  exact ⟨rfl, rfl, rfl⟩
 ·
  exact comeD_ports s k _ t
structure HearI (ps : List PortD) (st1 : List LB) (ok : Bool) (j : Nat) (s : BrS) : Prop where
 ports : s.ports = ps
 sts : s.states.length = ps.length
 st : s.st = if j ≤ 2 then [] else st1
 c0 : s.c0 = 0
 c1 : s.c1 = 0
 c2 : s.c2 = if j ≤ 3 then (j : Int) else 3
 cs : s.c3 + s.c4 = if j ≤ 3 then 0 else 1
 p3 : 0 ≤ s.c3
 p4 : 0 ≤ s.c4
 ans : s.c4 ≠ 0 → ok = true
 bi : j ≤ 3 → s.bi = []
 g : BrG s j
def st1 (lim v : Int) (mac : Vector UInt8 6) (k : Nat) : List LB := if 0 < lim then [⟨v, mac, k, 0⟩] else []
theorem hear_first (lim v : Int) (mac : Vector UInt8 6) (k : Nat) : hearL lim v mac k [] = st1 lim v mac k := by
 unfold hearL st1
 have : (onL (k : Int) [] : Int) = 0 := rfl
 rw [this]
 by_cases h : 0 < lim
 ·
  simp [h, findL, putL]
 ·
  simp [h, findL]
theorem hear_next (lim v : Int) (mac : Vector UInt8 6) (k : Nat) : hearL lim v mac k (st1 lim v mac k) = st1 lim v mac k := by
 unfold hearL st1
 by_cases h : 0 < lim
 ·
  simp [h, findL, putL, LB.is]
 ·
  rw [if_neg h]
  have : (onL (k : Int) [] : Int) = 0 := rfl
  rw [this]
  simp [h, findL]
theorem hears_step {ps : List PortD} {s : BrS} {j k : Nat} {d : EthD} {t : TalkD} {l : List UInt8} {v : Int} (hl : ethParse l = .ok d) (hg : grp d.src = false) (hd : (d.dst == bpduTo) = false)
  (hk : k < ps.length) (hin : inP (s.port k).native (s.port k).tagged d.vlan = (v, 0)) (hj : j < 4) (h : HearI ps (st1 (s.port k).lim v d.src k) t.ok j s) :
  HearI ps (st1 (s.port k).lim v d.src k) t.ok (j + 1) (comeS (stateS s k j) k l t).1 ∧ (comeS (stateS s k j) k l t).2.2 = if j = 3 then 0 else 7 := by
 have hgd : BrG (comeS (stateS s k j) k l t).1 (j + 1) := comeS_good (stateS_good h.g k j) (by show k < s.ports.length; rw [h.ports]; exact hk) l t
 obtain ⟨hp, hsl, hst, hc0, hc1, hc2, hcs, h3, h4, hans, hbi, hg0⟩ := h
 have hps := comeS_ports (stateS s k j) k l t
 have hS : (stateS s k (j : Int)).states.getD k 0 = (j : Int) := by
  unfold stateS
  dsimp only
  rw [List.getD_eq_getElem?_getD, List.getElem?_set_self (by rw [hsl]; exact hk)]
  rfl
 have hsp : (stateS s k (j : Int)).port k = s.port k := rfl
 have hSst : (stateS s k (j : Int)).st = if j ≤ 2 then [] else st1 (s.port k).lim v d.src k := by
  unfold stateS
  dsimp only
  rw [hst]
  by_cases hz : (j : Int) = 0
  ·
   rw [if_pos hz, if_pos (by omega : j ≤ 2)]
   rfl
  ·
   rw [if_neg hz]
 have hSe : (stateS s k (j : Int)).c0 = s.c0 ∧ (stateS s k (j : Int)).c1 = s.c1 ∧ (stateS s k (j : Int)).c2 = s.c2 ∧ (stateS s k (j : Int)).c3 = s.c3 ∧ (stateS s k (j : Int)).c4 = s.c4 ∧ (stateS s k (j : Int)).bi = s.bi := ⟨rfl, rfl, rfl, rfl, rfl, rfl⟩
 have hSl : (stateS s k (j : Int)).states.length = ps.length := by
  show (s.states.set k (j : Int)).length = _
  rw [List.length_set]; exact hsl
 have hSp : (stateS s k (j : Int)).ports = ps := hp
 revert hgd hps hS hsp hSst hSe hSl hSp
 generalize stateS s k (j : Int) = S
 intro hgd hps hS hsp hSst ⟨e0, e1, e2, e3, e4, e5⟩ hSl hSp
 have hcd : comeS S k l t = comeD S k d t := by unfold comeS; rw [hl]
 rw [hcd] at hgd hps ⊢
 have hP : (comeD S k d t).1.ports = ps := hps.1.trans hSp
 have hL : (comeD S k d t).1.states.length = ps.length := by rw [hps.2.1]; exact hSl
 clear hps
 have hrw : comeD S k d t = (if (j : Int) < 2 then (({ S with c2 := S.c2 + 1 }, [], 7) : BrS × List (Nat × List UInt8) × Int) else
   if (j : Int) < 3 then ({ S with st := hearL (s.port k).lim v d.src k S.st, c2 := S.c2 + 1 }, [], 7) else
   match askS v t (learnH v t.ip t.mac t.ok S.bi) with
   | some (c, ans) => ({ S with st := hearL (s.port k).lim v d.src k S.st, bi := learnH v t.ip t.mac t.ok S.bi, c4 := S.c4 + 1 }, printedS (s.port k) k v d.src c.mac d.ty (ans c.mac) d.prio, 0)
   | none => ({ S with st := hearL (s.port k).lim v d.src k S.st, bi := learnH v t.ip t.mac t.ok S.bi, c3 := S.c3 + 1 }, relayedS S (hearL (s.port k).lim v d.src k S.st) k v d.dst d.src d.ty d.body d.prio, 0)) := by
  unfold comeD
  rw [hg, hd, hS, hsp, hin]
  simp only [Bool.false_eq_true, if_false, bne_self_eq_false, Bool.or_false, decide_eq_true_eq]
  rfl
 rw [hrw] at hgd hP hL ⊢
 by_cases h2 : (j : Int) < 2
 ·
  rw [if_pos h2] at hgd hP hL ⊢
  refine ⟨⟨hP, hL, ?_, by dsimp only; omega, by dsimp only; omega, ?_, ?_, by dsimp only; omega, by dsimp only; omega, fun h => hans (by dsimp only at h; omega), fun _ => by dsimp only; rw [e5]; exact hbi (by omega), hgd⟩, by rw [if_neg (by omega)]⟩
  ·
   dsimp only
   rw [hSst, if_pos (by omega), if_pos (by omega)]
  ·
   dsimp only
   rw [if_pos (by omega)]
   rw [if_pos (by omega)] at hc2
   omega
  ·
   dsimp only
   rw [if_pos (by omega)]
   rw [if_pos (by omega)] at hcs
   omega
 ·
  rw [if_neg h2] at hgd hP hL ⊢
  by_cases h3' : (j : Int) < 3
  ·
   obtain rfl : j = 2 := by omega
   rw [if_pos h3'] at hgd hP hL ⊢
   refine ⟨⟨hP, hL, ?_, by dsimp only; omega, by dsimp only; omega, ?_, ?_, by dsimp only; omega, by dsimp only; omega, fun h => hans (by dsimp only at h; omega), fun _ => by dsimp only; rw [e5]; exact hbi (by omega), hgd⟩, by rw [if_neg (by omega)]⟩
   ·
    dsimp only
    rw [hSst, if_pos (by omega), if_neg (by omega)]
    exact hear_first _ _ _ _
   ·
    dsimp only
    rw [if_pos (by omega)]
    rw [if_pos (by omega)] at hc2
    omega
   ·
    dsimp only
    rw [if_pos (by omega)]
    rw [if_pos (by omega)] at hcs
    omega
  ·
   obtain rfl : j = 3 := by omega
   have hfst : hearL (s.port k).lim v d.src k S.st = st1 (s.port k).lim v d.src k := by
    rw [hSst, if_neg (by omega)]
    exact hear_next _ _ _ _
   have hbi0 : S.bi = [] := by rw [e5]; exact hbi (by omega)
   rw [if_pos (by omega)] at hc2 hcs
   rw [if_neg h3'] at hgd hP hL ⊢
   rw [hfst, hbi0] at hgd hP hL ⊢
   cases ha : askS v t (learnH v t.ip t.mac t.ok []) with
   | some x =>
    obtain ⟨c, ans⟩ := x
    rw [ha] at hgd hP hL
    have hok : t.ok = true := by
     cases hok : t.ok with
     | true => rfl
     | false =>
      rw [hok] at ha
      unfold askS learnH at ha
      simp only [Bool.false_and, Bool.false_eq_true, if_false] at ha
      split at ha
      ·
       cases ha
      ·
       cases ha
    refine ⟨⟨hP, hL, ?_, by dsimp only; omega, by dsimp only; omega, ?_, ?_, by dsimp only; omega, by dsimp only; omega, fun _ => hok, fun h => absurd h (by omega), hgd⟩, rfl⟩
    ·
     dsimp only
     rw [if_neg (by omega)]
    ·
     dsimp only
     rw [if_neg (by omega)]
     omega
    ·
     dsimp only
     rw [if_neg (by omega)]
     omega
   | none =>
    rw [ha] at hgd hP hL
    refine ⟨⟨hP, hL, ?_, by dsimp only; omega, by dsimp only; omega, ?_, ?_, by dsimp only; omega, by dsimp only; omega, fun h => hans (by dsimp only at h; omega), fun h => absurd h (by omega), hgd⟩, rfl⟩
    ·
     dsimp only
     rw [if_neg (by omega)]
    ·
     dsimp only
     rw [if_neg (by omega)]
     omega
    ·
     dsimp only
     rw [if_neg (by omega)]
     omega
theorem hears_step2 {ps : List PortD} {s : BrS} {j k : Nat} {p : PortD} {d : EthD} {t : TalkD} {l : List UInt8} {v : Int} (hl : ethParse l = .ok d) (hg : grp d.src = false) (hd : (d.dst == bpduTo) = false)
  (hk : k < ps.length) (hp : ps[k] = p) (hin : inP p.native p.tagged d.vlan = (v, 0)) (hj : j < 4) (h : HearI ps (st1 p.lim v d.src k) t.ok j s) :
  HearI ps (st1 p.lim v d.src k) t.ok (j + 1) (comeS (stateS s k j) k l t).1 ∧ (comeS (stateS s k j) k l t).2.2 = if j = 3 then 0 else 7 := by
 have hpk : s.port k = p := by unfold BrS.port; rw [h.ports, List.getD_eq_getElem?_getD, List.getElem?_eq_getElem hk]; exact hp
 rw [← hpk] at h hin ⊢
 exact hears_step hl hg hd hk hin hj h
theorem clearL_zero {m : List LB} (h : ∀ b ∈ m, b.age = 0) : clearL 0 m = m := by
 unfold clearL
 rw [List.filter_eq_self]
 intro b hb
 rw [h b hb]
 rfl
theorem inP_own {native : Int} {tagged : List Int} (hr : rightP native tagged = true) (h0 : native ≠ 0) : inP native tagged (-1) = (native, 0) := by
 unfold inP
 dsimp only
 rw [if_pos (Or.inl rfl)]
 unfold memberP
 rw [hr]
 simp [h0]
end
section
open Go.RowKit Go.Shelf
set_option maxRecDepth 20000 in
set_option maxHeartbeats 8000000 in
theorem relayHears_any (pa : Option Addr) (cap : Nat) (rs : List RPortD) (dst src : Vector UInt8 6) (ty : Int) (body : List UInt8) (at_ : Nat) (w : World) (h : RPortsAt w pa rs) (hat : at_ < 256) (hbm : body.length ≤ maxLen) :
  Calls Try.prog 10 #[.slice pa rs.length cap, .agg (frameV dst src ty body).toArray, .int .u8 (at_ : Int)] w fun e w' => e = .returned (.bool true) ∧ Below w.heap.size w w' := by
 have hm := h.1
 have hm2 : (rs.length : Int) ≤ 9223372036854775807 := by unfold maxLen at hm; omega
 have bm2 : (body.length : Int) ≤ 9223372036854775807 := by unfold maxLen at hbm; omega
 unfold frameV
 go_enter Try.func10, Try.ntmps10
 obtain ⟨w0, hw0⟩ : ∃ x, w.alloc (.cells (u8v dst ++ (u8v src ++ [Value.int .i64 ty, .string ⟨body.toArray⟩])).toArray 32) = x := ⟨_, rfl⟩
 have b0 : Below w.heap.size w w0 := by rw [← hw0]; exact Below.alloc (Below.refl _ _) (Nat.le_refl _) _
 have z0 : w0.heap.size = w.heap.size + 1 := by rw [← hw0]; exact alloc_sizeW _ _
 have rF0 : row w0 w.heap.size = (u8v dst ++ (u8v src ++ [Value.int .i64 ty, .string ⟨body.toArray⟩])).toArray := by rw [← hw0]; exact row_alloc_at _ _ _ rfl
 have h0_ := h.below b0
 go_wp2_with fail
 (try rw [hw0])
 (try clear hw0)
 (with_reducible refine (awake22_any _).mono ?_)
 rintro e w1 ⟨rfl, b1⟩
 have h1 := h0_.below b1
 have z1 := b1.size
 have B1 := b0.trans (b1.mono (by omega))
 have zB1 := B1.size
 have rF1 := (row_below b1 (by omega)).trans rF0
 clear h0_ b0 rF0
 go_wp2_with fail
 (with_reducible refine (few22_nil pa cap rs _ h1).mono ?_)
 rintro e w2 hfew
 obtain ⟨⟨fb, rfl, hfb⟩, rfl⟩ := hfew
 cases fb with
 | false =>
  go_wp2_with fail
  (with_reducible refine (awake22_any _).mono ?_)
  rintro e w3 ⟨rfl, b3⟩
  go_wp2_with fail
  go_ret
  exact ⟨rfl, B1.trans (b3.mono zB1)⟩
 | true =>
 have h40 := hfb rfl
 clear hfb
 by_cases hlb : 1500 < body.length
 ·
  have hlbI : (1500 : Int) < (body.length : Int) := by omega
  go_wp2_with fail
  (with_reducible refine (awake22_any _).mono ?_)
  rintro e w3 ⟨rfl, b3⟩
  go_wp2_with fail
  go_ret
  exact ⟨rfl, B1.trans (b3.mono zB1)⟩
 have hlbI : ¬ (1500 : Int) < (body.length : Int) := by omega
 have hlb2 : body.length ≤ 1500 := by omega
 clear hlb
 go_wp2_with fail
 (with_reducible refine (of22_any pa cap rs _ h1 (by omega)).mono ?_)
 rintro e w3 ⟨⟨u, rfl, pa', cap', rfl, hpo⟩, b3⟩
 have z3 := b3.size
 have B3 := B1.trans (b3.mono zB1)
 have h3 := h1.below b3
 have rF3 := (row_below b3 (by omega)).trans rF1
 have hN := rNew_any 20 pa' cap' (rs.map (·.p)) w3 hpo (by rw [List.length_map]; omega)
 rw [List.length_map] at hN
 have HN := Lib.hid hN
 clear hN h1 rF1
 go_wp2_with fail
 (with_reducible refine HN.out.mono ?_)
 rintro e w4 (⟨_, rfl, b4⟩ | ⟨hok, A, rfl, hnb⟩)
 ·
  go_wp2_with fail
  go_ret
  exact ⟨rfl, B3.trans (b4.mono B3.size)⟩
 have B4 := B3.trans (hnb.below.mono B3.size)
 have z4 := hnb.below.size
 have h4 := h3.below hnb.below
 have rF4 := (row_below hnb.below (by omega)).trans rF3
 have hmu := lo_muts hnb.lo
 have hmw : ∀ x ∈ A.muts, w.heap.size < x := fun x hx => by have := hmu x hx; omega
 have hbr := hnb.br
 obtain ⟨ps, hps⟩ : ∃ x, rs.map (·.p) = x := ⟨_, rfl⟩
 have hpl : ps.length = rs.length := by rw [← hps, List.length_map]
 rw [hps] at hbr hok
 have hgd := newG 20 ps hok
 have hn32' : ps.length ≤ 32 := hgd.1.n32
 have hpos : 0 < rs.length := by rw [← hpl]; exact hgd.2.1
 have h01 : ((rs.length : Int) == 0) = false := beq_eq_false_iff_ne.2 (by omega)
 have hkm := rat_mod at_ rs.length hpos
 obtain ⟨k, hk⟩ : ∃ x, at_ % rs.length = x := ⟨_, rfl⟩
 have hkl : k < rs.length := by rw [← hk]; exact Nat.mod_lt _ hpos
 have hkI : (k : Int) < (rs.length : Int) := by omega
 rw [hk] at hkm
 have HBR := Lib.hid hbr
 have HOK := Lib.hid hok
 have HMW := Lib.hid hmw
 have HGD := Lib.hid hgd
 clear hbr hok hmw hnb hmu HN hk hgd h3 rF3 hpo
 go_wp2_with fail
 (with_reducible refine (of22_any pa cap rs _ h4 (by omega)).mono ?_)
 rintro e w5 ⟨⟨u, rfl, pa2, cap2, rfl, hpo⟩, b5⟩
 have z5 := b5.size
 have B5 := B4.trans (b5.mono B4.size)
 have rF5 := (row_below b5 (by omega)).trans rF4
 have T5 := HBR.out.below b5
 rw [hps] at hpo
 have hkp : k < ps.length := by omega
 obtain ⟨pb, po, ta, tc, rfl, hpb, hrd⟩ := hpo.get hkp
 obtain ⟨p, hp⟩ : ∃ x, ps[k] = x := ⟨_, rfl⟩
 rw [hp] at hrd
 have hld := run_loadS_at (P := Try.prog) (t := 74) (hrd w5 (Below.refl _ _)).1 (by simp [portV])
 unfold portV at hld
 obtain ⟨o, ho⟩ : ∃ o, po + k * 4 = o := ⟨_, rfl⟩
 rw [ho] at hld
 have HT5 := Lib.hid T5
 clear T5
 have hok1 : okPort p = true := by
  rw [← hp]
  exact HGD.out.2.2.1 _ (List.getElem_mem hkp)
 have hrp : rightP p.native p.tagged = true := by
  unfold okPort at hok1
  simp only [Bool.and_eq_true] at hok1
  exact hok1.1.1
 obtain ⟨w6, hw6⟩ : ∃ x, w5.alloc (.cells #[Value.int .i64 p.native, Value.slice ta p.tagged.length tc, Value.int .i64 p.hor, Value.int .i64 p.lim] 74) = x := ⟨_, rfl⟩
 have b6 : Below w5.heap.size w5 w6 := by rw [← hw6]; exact Below.alloc (Below.refl _ _) (Nat.le_refl _) _
 have z6 : w6.heap.size = w5.heap.size + 1 := by rw [← hw6]; exact alloc_sizeW _ _
 have rX6 : row w6 w5.heap.size = #[Value.int .i64 p.native, Value.slice ta p.tagged.length tc, Value.int .i64 p.hor, Value.int .i64 p.lim] := by rw [← hw6]; exact row_alloc_at _ _ _ rfl
 have rF6 := (row_below b6 (by omega)).trans rF5
 have hXm : w5.heap.size ∉ A.muts := by
  obtain ⟨l1, l2, l3, l4, l5, l6⟩ := HT5.out.lts
  intro hm
  simp only [BrA.muts, List.mem_cons, List.not_mem_nil, or_false] at hm
  omega
 have HXM := Lib.hid hXm
 have HT6 := Lib.hid (HT5.out.below b6)
 have B6 := B5.trans (b6.mono B5.size)
 have HP := Lib.hid hp
 have HRP := Lib.hid hrp
 clear hrd hpo HBR h4 rF4 hps b6 hXm HT5 hp hrp hok1
 have HTO := Lib.hid bTo_any
 obtain ⟨n0, hn0⟩ : ∃ x, src[0].toNat = x := ⟨_, rfl⟩
 have hn0l : n0 < 256 := by rw [← hn0]; exact src[0].toNat_lt
 have e0 : (u8v src)[0]'(by simp) = Value.int .u8 (n0 : Int) := by rw [← hn0]; simp [u8v, u8s]
 have hrem := rat_mod n0 2 (by decide)
 have hgn : grp src = (n0 % 2 == 1) := by unfold grp; rw [hn0]
 obtain ⟨m0, hm0⟩ : ∃ x, n0 % 2 = x := ⟨_, rfl⟩
 have hm0l : m0 < 2 := by rw [← hm0]; exact Nat.mod_lt _ (by decide)
 rw [hm0] at hrem hgn
 have hrem2 : (n0 : Int).tmod 2 = (m0 : Int) := hrem
 clear hrem hm0 hn0
 obtain ⟨dq, hdq⟩ : ∃ x, (dst == bpduTo) = x := ⟨_, rfl⟩
 by_cases hr : rightB ty (-1) 0 body.length = true
 case neg =>
  have HPR := Lib.hid (ethPrint_out dst src ty body (-1) 0 w6 (Bool.eq_false_iff.2 hr))
  unfold ethV at HPR
  clear hr
  go_wp2_with fail
  (try rw [hw6])
  (try clear hw6)
  (with_reducible refine HPR.out.mono ?_)
  rintro e w7 ⟨rfl, b7⟩
  have rX7 := (row_below b7 (by omega)).trans rX6
  have rF7 := (row_below b7 (by omega)).trans rF6
  have z7 := b7.size
  obtain ⟨X, hX⟩ : ∃ x, w5.heap.size = x := ⟨_, rfl⟩
  have hXl : X < w7.heap.size := by omega
  have hFl : w.heap.size < w7.heap.size := by omega
  rw [hX] at rX7
  go_wp2_with fail
  (try rw [hX])
  refine wp_region_beginR [(w.heap.size, (u8v dst ++ (u8v src ++ [Value.int .i64 ty, .string ⟨body.toArray⟩])).toArray), (X, #[Value.int .i64 p.native, Value.slice ta p.tagged.length tc, Value.int .i64 p.hor, Value.int .i64 p.lim])] rfl (by simp only [Rws]; (repeat (first | exact trivial | refine ⟨(by first | assumption | (simp [go_sem, *]; done)), (by first | omega | (simp; done) | (simp; omega)), ?_⟩))) (fun hS => ?_)
  refine qp 0 hS ?_
  refine qp 1 hS ?_
  refine qp 2 hS ?_
  refine wpAnyR_take (i := 3) (v := undef) (by simp only [List.getElem?_toArray, List.getElem?_cons_succ, List.getElem?_cons_zero]; rfl) (by kernel_rfl) (by kernel_rfl) (by kernel_rfl) (by first | exact fun _ _ _ h => h | exact fun _ _ _ h => by cases h.1) (Rws.grow _) (Or.inr ⟨by rfl, by rfl⟩) hS ?_
  (try simp only [Act.put, List.setIfInBounds_toArray, List.set_cons_zero, List.set_cons_succ])
  refine wpAnyR_take (i := 4) (v := undef) (by simp only [List.getElem?_toArray, List.getElem?_cons_succ, List.getElem?_cons_zero]; rfl) (by kernel_rfl) (by kernel_rfl) (by kernel_rfl) (by first | exact fun _ _ _ h => h | exact fun _ _ _ h => by cases h.1) (Rws.grow _) (Or.inr ⟨by rfl, by rfl⟩) hS ?_
  (try simp only [Act.put, List.setIfInBounds_toArray, List.set_cons_zero, List.set_cons_succ])
  refine wpAnyR_take (i := 5) (v := undef) (by simp only [List.getElem?_toArray, List.getElem?_cons_succ, List.getElem?_cons_zero]; rfl) (by kernel_rfl) (by kernel_rfl) (by kernel_rfl) (by first | exact fun _ _ _ h => h | exact fun _ _ _ h => by cases h.1) (Rws.grow _) (Or.inr ⟨by rfl, by rfl⟩) hS ?_
  (try simp only [Act.put, List.setIfInBounds_toArray, List.set_cons_zero, List.set_cons_succ])
  refine wpAnyR_take (i := 6) (v := undef) (by simp only [List.getElem?_toArray, List.getElem?_cons_succ, List.getElem?_cons_zero]; rfl) (by kernel_rfl) (by kernel_rfl) (by kernel_rfl) (by first | exact fun _ _ _ h => h | exact fun _ _ _ h => by cases h.1) (Rws.grow _) (Or.inr ⟨by rfl, by rfl⟩) hS ?_
  (try simp only [Act.put, List.setIfInBounds_toArray, List.set_cons_zero, List.set_cons_succ])
  refine wpAnyR_take (i := 7) (v := undef) (by simp only [List.getElem?_toArray, List.getElem?_cons_succ, List.getElem?_cons_zero]; rfl) (by kernel_rfl) (by kernel_rfl) (by kernel_rfl) (by first | exact fun _ _ _ h => h | exact fun _ _ _ h => by cases h.1) (Rws.grow _) (Or.inr ⟨by rfl, by rfl⟩) hS ?_
  (try simp only [Act.put, List.setIfInBounds_toArray, List.set_cons_zero, List.set_cons_succ])
  refine qp 8 hS ?_
  refine qp 9 hS ?_
  refine wpAnyR_take (i := 10) (v := undef) (by simp only [List.getElem?_toArray, List.getElem?_cons_succ, List.getElem?_cons_zero]; rfl) (by kernel_rfl) (by kernel_rfl) (by kernel_rfl) (by first | exact fun _ _ _ h => h | exact fun _ _ _ h => by cases h.1) (Rws.grow _) (Or.inr ⟨by rfl, by rfl⟩) hS ?_
  (try simp only [Act.put, List.setIfInBounds_toArray, List.set_cons_zero, List.set_cons_succ])
  refine wpAnyR_take (i := 11) (v := undef) (by simp only [List.getElem?_toArray, List.getElem?_cons_succ, List.getElem?_cons_zero]; rfl) (by kernel_rfl) (by kernel_rfl) (by kernel_rfl) (by first | exact fun _ _ _ h => h | exact fun _ _ _ h => by cases h.1) (Rws.grow _) (Or.inr ⟨by rfl, by rfl⟩) hS ?_
  (try simp only [Act.put, List.setIfInBounds_toArray, List.set_cons_zero, List.set_cons_succ])
  refine wpAnyR_take (i := 12) (v := undef) (by simp only [List.getElem?_toArray, List.getElem?_cons_succ, List.getElem?_cons_zero]; rfl) (by kernel_rfl) (by kernel_rfl) (by kernel_rfl) (by first | exact fun _ _ _ h => h | exact fun _ _ _ h => by cases h.1) (Rws.grow _) (Or.inr ⟨by rfl, by rfl⟩) hS ?_
  (try simp only [Act.put, List.setIfInBounds_toArray, List.set_cons_zero, List.set_cons_succ])
  refine wpAnyR_take (i := 13) (v := undef) (by simp only [List.getElem?_toArray, List.getElem?_cons_succ, List.getElem?_cons_zero]; rfl) (by kernel_rfl) (by kernel_rfl) (by kernel_rfl) (by first | exact fun _ _ _ h => h | exact fun _ _ _ h => by cases h.1) (Rws.grow _) (Or.inr ⟨by rfl, by rfl⟩) hS ?_
  (try simp only [Act.put, List.setIfInBounds_toArray, List.set_cons_zero, List.set_cons_succ])
  refine qp 14 hS ?_
  refine qp 15 hS ?_
  refine wpAnyR_take (i := 16) (v := undef) (by simp only [List.getElem?_toArray, List.getElem?_cons_succ, List.getElem?_cons_zero]; rfl) (by kernel_rfl) (by kernel_rfl) (by kernel_rfl) (by first | exact fun _ _ _ h => h | exact fun _ _ _ h => by cases h.1) (Rws.grow _) (Or.inr ⟨by rfl, by rfl⟩) hS ?_
  (try simp only [Act.put, List.setIfInBounds_toArray, List.set_cons_zero, List.set_cons_succ])
  refine wpAnyR_take (i := 17) (v := undef) (by simp only [List.getElem?_toArray, List.getElem?_cons_succ, List.getElem?_cons_zero]; rfl) (by kernel_rfl) (by kernel_rfl) (by kernel_rfl) (by first | exact fun _ _ _ h => h | exact fun _ _ _ h => by cases h.1) (Rws.grow _) (Or.inr ⟨by rfl, by rfl⟩) hS ?_
  (try simp only [Act.put, List.setIfInBounds_toArray, List.set_cons_zero, List.set_cons_succ])
  refine wpAnyR_take (i := 18) (v := undef) (by simp only [List.getElem?_toArray, List.getElem?_cons_succ, List.getElem?_cons_zero]; rfl) (by kernel_rfl) (by kernel_rfl) (by kernel_rfl) (by first | exact fun _ _ _ h => h | exact fun _ _ _ h => by cases h.1) (Rws.grow _) (Or.inr ⟨by rfl, by rfl⟩) hS ?_
  (try simp only [Act.put, List.setIfInBounds_toArray, List.set_cons_zero, List.set_cons_succ])
  refine wpAnyR_take (i := 19) (v := undef) (by simp only [List.getElem?_toArray, List.getElem?_cons_succ, List.getElem?_cons_zero]; rfl) (by kernel_rfl) (by kernel_rfl) (by kernel_rfl) (by first | exact fun _ _ _ h => h | exact fun _ _ _ h => by cases h.1) (Rws.grow _) (Or.inr ⟨by rfl, by rfl⟩) hS ?_
  (try simp only [Act.put, List.setIfInBounds_toArray, List.set_cons_zero, List.set_cons_succ])
  refine qp 20 hS ?_
  refine wpAnyR_done (by kernel_rfl) (fun w8 b8 => ?_) _
  replace b8 : Below (w7).heap.size (w7) w8 := below_step (Below.drew (Below.refl _ _)) b8
  have B7 := B6.trans (b7.mono B6.size)
  have B8 := B7.trans (b8.mono B7.size)
  go_wp2_with fail
  go_ret
  exact ⟨rfl, B8⟩
 have hlen := hr
 have HPR := Lib.hid (ethPrint_any dst src ty body (-1) 0 w6 hr)
 unfold ethV at HPR
 by_cases hm1 : m0 = 1
 ·
  subst hm1
  clear hr
  go_wp2_with fail
  (try rw [hw6])
  (try clear hw6)
  (with_reducible refine HPR.out.mono ?_)
  rintro e w7 ⟨rfl, b7⟩
  have rX7 := (row_below b7 (by omega)).trans rX6
  have rF7 := (row_below b7 (by omega)).trans rF6
  have z7 := b7.size
  obtain ⟨X, hX⟩ : ∃ x, w5.heap.size = x := ⟨_, rfl⟩
  have hXl : X < w7.heap.size := by omega
  have hFl : w.heap.size < w7.heap.size := by omega
  rw [hX] at rX7
  go_wp2_with fail
  (try rw [hX])
  refine wp_region_beginR [(w.heap.size, (u8v dst ++ (u8v src ++ [Value.int .i64 ty, .string ⟨body.toArray⟩])).toArray), (X, #[Value.int .i64 p.native, Value.slice ta p.tagged.length tc, Value.int .i64 p.hor, Value.int .i64 p.lim])] rfl (by simp only [Rws]; (repeat (first | exact trivial | refine ⟨(by first | assumption | (simp [go_sem, *]; done)), (by first | omega | (simp; done) | (simp; omega)), ?_⟩))) (fun hS => ?_)
  refine qp 0 hS ?_
  refine qp 1 hS ?_
  refine qp 2 hS ?_
  refine qp 3 hS ?_
  refine qp 4 hS ?_
  refine qp 5 hS ?_
  refine qp 6 hS ?_
  refine qp 7 hS ?_
  refine qp 8 hS ?_
  refine qp 9 hS ?_
  refine wpAnyR_take (i := 10) (v := undef) (by simp only [List.getElem?_toArray, List.getElem?_cons_succ, List.getElem?_cons_zero]; rfl) (by kernel_rfl) (by kernel_rfl) (by kernel_rfl) (by first | exact fun _ _ _ h => h | exact fun _ _ _ h => by cases h.1) (Rws.grow _) (Or.inr ⟨by rfl, by rfl⟩) hS ?_
  (try simp only [Act.put, List.setIfInBounds_toArray, List.set_cons_zero, List.set_cons_succ])
  refine wpAnyR_take (i := 11) (v := undef) (by simp only [List.getElem?_toArray, List.getElem?_cons_succ, List.getElem?_cons_zero]; rfl) (by kernel_rfl) (by kernel_rfl) (by kernel_rfl) (by first | exact fun _ _ _ h => h | exact fun _ _ _ h => by cases h.1) (Rws.grow _) (Or.inr ⟨by rfl, by rfl⟩) hS ?_
  (try simp only [Act.put, List.setIfInBounds_toArray, List.set_cons_zero, List.set_cons_succ])
  refine wpAnyR_take (i := 12) (v := undef) (by simp only [List.getElem?_toArray, List.getElem?_cons_succ, List.getElem?_cons_zero]; rfl) (by kernel_rfl) (by kernel_rfl) (by kernel_rfl) (by first | exact fun _ _ _ h => h | exact fun _ _ _ h => by cases h.1) (Rws.grow _) (Or.inr ⟨by rfl, by rfl⟩) hS ?_
  (try simp only [Act.put, List.setIfInBounds_toArray, List.set_cons_zero, List.set_cons_succ])
  refine wpAnyR_take (i := 13) (v := undef) (by simp only [List.getElem?_toArray, List.getElem?_cons_succ, List.getElem?_cons_zero]; rfl) (by kernel_rfl) (by kernel_rfl) (by kernel_rfl) (by first | exact fun _ _ _ h => h | exact fun _ _ _ h => by cases h.1) (Rws.grow _) (Or.inr ⟨by rfl, by rfl⟩) hS ?_
  (try simp only [Act.put, List.setIfInBounds_toArray, List.set_cons_zero, List.set_cons_succ])
  refine qp 14 hS ?_
  refine qp 15 hS ?_
  refine wpAnyR_take (i := 16) (v := undef) (by simp only [List.getElem?_toArray, List.getElem?_cons_succ, List.getElem?_cons_zero]; rfl) (by kernel_rfl) (by kernel_rfl) (by kernel_rfl) (by first | exact fun _ _ _ h => h | exact fun _ _ _ h => by cases h.1) (Rws.grow _) (Or.inr ⟨by rfl, by rfl⟩) hS ?_
  (try simp only [Act.put, List.setIfInBounds_toArray, List.set_cons_zero, List.set_cons_succ])
  refine wpAnyR_take (i := 17) (v := undef) (by simp only [List.getElem?_toArray, List.getElem?_cons_succ, List.getElem?_cons_zero]; rfl) (by kernel_rfl) (by kernel_rfl) (by kernel_rfl) (by first | exact fun _ _ _ h => h | exact fun _ _ _ h => by cases h.1) (Rws.grow _) (Or.inr ⟨by rfl, by rfl⟩) hS ?_
  (try simp only [Act.put, List.setIfInBounds_toArray, List.set_cons_zero, List.set_cons_succ])
  refine wpAnyR_take (i := 18) (v := undef) (by simp only [List.getElem?_toArray, List.getElem?_cons_succ, List.getElem?_cons_zero]; rfl) (by kernel_rfl) (by kernel_rfl) (by kernel_rfl) (by first | exact fun _ _ _ h => h | exact fun _ _ _ h => by cases h.1) (Rws.grow _) (Or.inr ⟨by rfl, by rfl⟩) hS ?_
  (try simp only [Act.put, List.setIfInBounds_toArray, List.set_cons_zero, List.set_cons_succ])
  refine wpAnyR_take (i := 19) (v := undef) (by simp only [List.getElem?_toArray, List.getElem?_cons_succ, List.getElem?_cons_zero]; rfl) (by kernel_rfl) (by kernel_rfl) (by kernel_rfl) (by first | exact fun _ _ _ h => h | exact fun _ _ _ h => by cases h.1) (Rws.grow _) (Or.inr ⟨by rfl, by rfl⟩) hS ?_
  (try simp only [Act.put, List.setIfInBounds_toArray, List.set_cons_zero, List.set_cons_succ])
  refine qp 20 hS ?_
  refine wpAnyR_done (by kernel_rfl) (fun w8 b8 => ?_) _
  replace b8 : Below (w7).heap.size (w7) w8 := below_step (Below.drew (Below.refl _ _)) b8
  have B7 := B6.trans (b7.mono B6.size)
  have B8 := B7.trans (b8.mono B7.size)
  go_wp2_with fail
  go_ret
  exact ⟨rfl, B8⟩
 obtain rfl : m0 = 0 := by omega
 have hg0 : grp src = false := hgn
 clear hm1 hgn
 rw [show ((0 : Nat) : Int) = 0 from rfl] at hrem2
 cases dq with
 | true =>
  clear hr
  go_wp2_with fail
  (try rw [hw6])
  (try clear hw6)
  (with_reducible refine HPR.out.mono ?_)
  rintro e w7 ⟨rfl, b7⟩
  have rX7 := (row_below b7 (by omega)).trans rX6
  have rF7 := (row_below b7 (by omega)).trans rF6
  have z7 := b7.size
  obtain ⟨X, hX⟩ : ∃ x, w5.heap.size = x := ⟨_, rfl⟩
  have hXl : X < w7.heap.size := by omega
  have hFl : w.heap.size < w7.heap.size := by omega
  rw [hX] at rX7
  go_wp2_with fail
  (try rw [hX])
  refine wp_region_beginR [(w.heap.size, (u8v dst ++ (u8v src ++ [Value.int .i64 ty, .string ⟨body.toArray⟩])).toArray), (X, #[Value.int .i64 p.native, Value.slice ta p.tagged.length tc, Value.int .i64 p.hor, Value.int .i64 p.lim])] rfl (by simp only [Rws]; (repeat (first | exact trivial | refine ⟨(by first | assumption | (simp [go_sem, *]; done)), (by first | omega | (simp; done) | (simp; omega)), ?_⟩))) (fun hS => ?_)
  refine qp 0 hS ?_
  refine qp 1 hS ?_
  refine qp 2 hS ?_
  refine qp 3 hS ?_
  refine qp 4 hS ?_
  refine qp 5 hS ?_
  refine qp 6 hS ?_
  refine qp 7 hS ?_
  refine qp 8 hS ?_
  refine qp 9 hS ?_
  refine qp 10 hS ?_
  refine qp 11 hS ?_
  refine qc 12 (v := ?_) hS ?_ ?_
  rotate_left
  ·
   intro w' hS'
   simp only [Rws] at hS'
   go_simp
   with_reducible refine (HTO.out _).mono ?_
   rintro e w'' ⟨rfl, hb⟩
   exact ⟨_, rfl, by rfl, hb⟩
  refine qp 13 hS ?_
  refine qp 14 hS ?_
  refine qp 15 hS ?_
  refine wpAnyR_take (i := 16) (v := undef) (by simp only [List.getElem?_toArray, List.getElem?_cons_succ, List.getElem?_cons_zero]; rfl) (by kernel_rfl) (by kernel_rfl) (by kernel_rfl) (by first | exact fun _ _ _ h => h | exact fun _ _ _ h => by cases h.1) (Rws.grow _) (Or.inr ⟨by rfl, by rfl⟩) hS ?_
  (try simp only [Act.put, List.setIfInBounds_toArray, List.set_cons_zero, List.set_cons_succ])
  refine wpAnyR_take (i := 17) (v := undef) (by simp only [List.getElem?_toArray, List.getElem?_cons_succ, List.getElem?_cons_zero]; rfl) (by kernel_rfl) (by kernel_rfl) (by kernel_rfl) (by first | exact fun _ _ _ h => h | exact fun _ _ _ h => by cases h.1) (Rws.grow _) (Or.inr ⟨by rfl, by rfl⟩) hS ?_
  (try simp only [Act.put, List.setIfInBounds_toArray, List.set_cons_zero, List.set_cons_succ])
  refine wpAnyR_take (i := 18) (v := undef) (by simp only [List.getElem?_toArray, List.getElem?_cons_succ, List.getElem?_cons_zero]; rfl) (by kernel_rfl) (by kernel_rfl) (by kernel_rfl) (by first | exact fun _ _ _ h => h | exact fun _ _ _ h => by cases h.1) (Rws.grow _) (Or.inr ⟨by rfl, by rfl⟩) hS ?_
  (try simp only [Act.put, List.setIfInBounds_toArray, List.set_cons_zero, List.set_cons_succ])
  refine wpAnyR_take (i := 19) (v := undef) (by simp only [List.getElem?_toArray, List.getElem?_cons_succ, List.getElem?_cons_zero]; rfl) (by kernel_rfl) (by kernel_rfl) (by kernel_rfl) (by first | exact fun _ _ _ h => h | exact fun _ _ _ h => by cases h.1) (Rws.grow _) (Or.inr ⟨by rfl, by rfl⟩) hS ?_
  (try simp only [Act.put, List.setIfInBounds_toArray, List.set_cons_zero, List.set_cons_succ])
  refine qp 20 hS ?_
  refine wpAnyR_done (by kernel_rfl) (fun w8 b8 => ?_) _
  replace b8 : Below (w7).heap.size (w7) w8 := below_step (Below.drew (Below.refl _ _)) b8
  have B7 := B6.trans (b7.mono B6.size)
  have B8 := B7.trans (b8.mono B7.size)
  go_wp2_with fail
  go_ret
  exact ⟨rfl, B8⟩
 | false =>
 by_cases hv : p.native = 0
 ·
  have hv1 : (p.native == 0) = true := by simp [hv]
  clear hr hv
  go_wp2_with fail
  (try rw [hw6])
  (try clear hw6)
  (with_reducible refine HPR.out.mono ?_)
  rintro e w7 ⟨rfl, b7⟩
  have rX7 := (row_below b7 (by omega)).trans rX6
  have rF7 := (row_below b7 (by omega)).trans rF6
  have z7 := b7.size
  obtain ⟨X, hX⟩ : ∃ x, w5.heap.size = x := ⟨_, rfl⟩
  have hXl : X < w7.heap.size := by omega
  have hFl : w.heap.size < w7.heap.size := by omega
  rw [hX] at rX7
  go_wp2_with fail
  (try rw [hX])
  refine wp_region_beginR [(w.heap.size, (u8v dst ++ (u8v src ++ [Value.int .i64 ty, .string ⟨body.toArray⟩])).toArray), (X, #[Value.int .i64 p.native, Value.slice ta p.tagged.length tc, Value.int .i64 p.hor, Value.int .i64 p.lim])] rfl (by simp only [Rws]; (repeat (first | exact trivial | refine ⟨(by first | assumption | (simp [go_sem, *]; done)), (by first | omega | (simp; done) | (simp; omega)), ?_⟩))) (fun hS => ?_)
  refine qp 0 hS ?_
  refine qp 1 hS ?_
  refine qp 2 hS ?_
  refine qp 3 hS ?_
  refine qp 4 hS ?_
  refine qp 5 hS ?_
  refine qp 6 hS ?_
  refine qp 7 hS ?_
  refine qp 8 hS ?_
  refine qp 9 hS ?_
  refine qp 10 hS ?_
  refine qp 11 hS ?_
  refine qc 12 (v := ?_) hS ?_ ?_
  rotate_left
  ·
   intro w' hS'
   simp only [Rws] at hS'
   go_simp
   with_reducible refine (HTO.out _).mono ?_
   rintro e w'' ⟨rfl, hb⟩
   exact ⟨_, rfl, by rfl, hb⟩
  refine qp 13 hS ?_
  refine qp 14 hS ?_
  refine qp 15 hS ?_
  refine qp 16 hS ?_
  refine qp 17 hS ?_
  refine qp 18 hS ?_
  refine qp 19 hS ?_
  refine qp 20 hS ?_
  refine wpAnyR_done (by kernel_rfl) (fun w8 b8 => ?_) _
  replace b8 : Below (w7).heap.size (w7) w8 := below_step (Below.drew (Below.refl _ _)) b8
  have B7 := B6.trans (b7.mono B6.size)
  have B8 := B7.trans (b8.mono B7.size)
  go_wp2_with fail
  go_ret
  exact ⟨rfl, B8⟩
 have hv1 : (p.native == 0) = false := by simpa using hv
 have HV := Lib.hid hv
 have HDQ := Lib.hid hdq
 have HG0 := Lib.hid hg0
 have HR := Lib.hid hr
 obtain ⟨ln, hln⟩ : ∃ x, ethS dst src ty body (-1) 0 = x := ⟨_, rfl⟩
 have HLN := Lib.hid hln
 have hdq3 := hdq
 rw [hln] at HPR
 clear hv hg0 hr hln
 go_wp2_with fail
 (try rw [hw6])
 (try clear hw6)
 (with_reducible refine HPR.out.mono ?_)
 rintro e w7 ⟨rfl, b7⟩
 have rX7 := (row_below b7 (by omega)).trans rX6
 have rF7 := (row_below b7 (by omega)).trans rF6
 have z7 := b7.size
 obtain ⟨X, hX⟩ : ∃ x, w5.heap.size = x := ⟨_, rfl⟩
 have hXl : X < w7.heap.size := by omega
 have hFl : w.heap.size < w7.heap.size := by omega
 rw [hX] at rX7
 go_wp2_with fail
 (try rw [hX])
 refine wp_region_beginR [(w.heap.size, (u8v dst ++ (u8v src ++ [Value.int .i64 ty, .string ⟨body.toArray⟩])).toArray), (X, #[Value.int .i64 p.native, Value.slice ta p.tagged.length tc, Value.int .i64 p.hor, Value.int .i64 p.lim])] rfl (by simp only [Rws]; (repeat (first | exact trivial | refine ⟨(by first | assumption | (simp [go_sem, *]; done)), (by first | omega | (simp; done) | (simp; omega)), ?_⟩))) (fun hS => ?_)
 refine qp 0 hS ?_
 refine qp 1 hS ?_
 refine qp 2 hS ?_
 refine qp 3 hS ?_
 refine qp 4 hS ?_
 refine qp 5 hS ?_
 refine qp 6 hS ?_
 refine qp 7 hS ?_
 refine qp 8 hS ?_
 refine qp 9 hS ?_
 refine qp 10 hS ?_
 refine qp 11 hS ?_
 refine qc 12 (v := ?_) hS ?_ ?_
 rotate_left
 ·
  intro w' hS'
  simp only [Rws] at hS'
  go_simp
  with_reducible refine (HTO.out _).mono ?_
  rintro e w'' ⟨rfl, hb⟩
  exact ⟨_, rfl, by rfl, hb⟩
 refine qp 13 hS ?_
 refine qp 14 hS ?_
 refine qp 15 hS ?_
 refine qp 16 hS ?_
 refine qp 17 hS ?_
 refine qp 18 hS ?_
 refine qp 19 hS ?_
 refine qp 20 hS ?_
 refine wpAnyR_done (by kernel_rfl) (fun w8 b8 => ?_) _
 replace b8 : Below (w7).heap.size (w7) w8 := below_step (Below.drew (Below.refl _ _)) b8
 have B7 := B6.trans (b7.mono B6.size)
 have B8 := B7.trans (b8.mono B7.size)
 have rX8 := (row_below b8 (by omega)).trans rX7
 have rF8 := (row_below b8 (by omega)).trans rF7
 have HT8 := Lib.hid ((HT6.out.below b7).below b8)
 have z8 := b8.size
 rw [hX] at HXM
 clear b7 b8 rX7 rF7 HT6 HPR B7 HTO
 obtain ⟨t, htc, _⟩ := talk_any dst src ty body (by omega)
 have HTC := Lib.hid htc
 clear htc
 go_wp2_with fail
 go_loopw [13] (fun i wr => ∃ j : Nat, j ≤ 4 ∧ i = .int .i64 j ∧ ∃ s, HearI ps (st1 p.lim p.native src k) t.ok j s ∧ BrT wr A s ∧ row wr X = #[Value.int .i64 p.native, Value.slice ta p.tagged.length tc, Value.int .i64 p.hor, Value.int .i64 p.lim] ∧ row wr w.heap.size = (u8v dst ++ (u8v src ++ [Value.int .i64 ty, .string ⟨body.toArray⟩])).toArray ∧ Below w.heap.size w wr ∧ X < wr.heap.size ∧ w.heap.size < wr.heap.size) (fun i _ => 4 - (intOf i).toNat)
 case atStart =>
  refine ⟨0, by omega, rfl, _, ⟨rfl, ?_, rfl, rfl, rfl, rfl, rfl, Int.le_refl 0, Int.le_refl 0, fun h => absurd rfl h, fun _ => rfl, HGD.out.1⟩, HT8.out, rX8, rF8, B8, by omega, by omega⟩
  simp [newS]
 case round =>
  clear HT8 rX8 rF8 B8
  obtain ⟨j, hj, rfl, s, hI, hT, rX, rF, cb, zX, zF⟩ := hrel
  have zb := cb.size
  by_cases hlt : j < 4
  ·
   have hltI : (j : Int) < 4 := by omega
   have hks : k < s.ports.length := by rw [hI.ports]; exact hkp
   have hnS : s.ports.length ≤ 32 := hI.g.n32
   have hS := rState_ok wr hT k (j : Int) hnS hks (by omega) (by omega) hI.g.std (Nat.le_trans hI.g.stn (by omega))
   have hpa := ethParse_print dst src ty body (-1) 0 HR.out
   have hsm := (ethS_small dst src ty body (-1) 0 HR.out).1
   rw [HLN.out] at hpa hsm
   obtain ⟨hI2, her⟩ := hears_step2 (s := s) (j := j) (d := ⟨dst, src, ty, body, -1, 0⟩) (t := t) hpa HG0.out HDQ.out hkp HP.out (inP_own HRP.out HV.out) hlt hI
   have hC := fun W (hW : BrT W A (stateS s k (j : Int))) => rCome_any W hW (N := j) (by omega) (stateS_good hI.g k _) k hks ln (by omega) t (fun d hd => by rw [hpa] at hd; cases hd; exact HTC.out)
   obtain ⟨s2, hs2⟩ : ∃ x, comeS (stateS s k (j : Int)) k ln t = x := ⟨_, rfl⟩
   rw [hs2] at hC hI2 her
   obtain ⟨s3, outs, er⟩ := s2
   dsimp only at hC hI2 her
   have hst3 := hI2.st
   have HS := Lib.hid hS
   have HC := Lib.hid hC
   have HI2 := Lib.hid hI2
   have HFI := Lib.hid (fun W (hW : BrT W A s3) => rFind_any W hW p.native src)
   have hfnd : ∃ f : Bool, (findL p.native src s3.st).isSome = f ∧ f = (decide (2 ≤ j) && decide (0 < p.lim)) ∧ (f = true → portL p.native src s3.st = (k : Int)) := by
    rw [hst3]
    by_cases h2 : 2 ≤ j
    ·
     rw [if_neg (by omega)]
     unfold st1
     by_cases hl : 0 < p.lim
     ·
      rw [if_pos hl]
      exact ⟨true, by simp [findL, LB.is], by simp [h2, hl], fun _ => by simp [portL, findL, LB.is]⟩
     ·
      rw [if_neg hl]
      exact ⟨false, rfl, by simp [hl], fun h => by cases h⟩
    ·
     rw [if_pos (by omega)]
     exact ⟨false, rfl, by simp [h2], fun h => by cases h⟩
   obtain ⟨f, hf1, hf2, hf3⟩ := hfnd
   rw [hf1] at HFI
   obtain ⟨po3, hpo3⟩ : ∃ x, portL p.native src s3.st = x := ⟨_, rfl⟩
   rw [hpo3] at HFI hf3
   clear hS hC hI2 hs2 hpa hsm hst3 hpo3 hf1
   have HF3 := Lib.hid hf3
   have HF2 := Lib.hid hf2
   have HER := Lib.hid her
   clear hf3 hf2 her hT
   go_wp2_with fail
   (with_reducible refine HS.out.mono ?_)
   rintro e w9 ⟨rfl, b9, t9⟩
   have z9 := b9.size
   have HT9 := Lib.hid t9
   have cb9 := cb.trans (b9.below zb (fun x hx => Nat.le_of_lt (HMW.out x hx)))
   have rX9 := (b9.row zX HXM.out).trans rX
   have rF9 := (b9.row zF (fun hm => by have := HMW.out _ hm; omega)).trans rF
   clear b9 t9 HS
   go_wp2_with fail
   (with_reducible refine (HC.out _ HT9.out).mono ?_)
   rintro e w10 ⟨⟨u, rfl, hown⟩, b10, t10⟩
   have z10 := b10.size
   have HT10 := Lib.hid t10
   have cb10 := cb9.trans (b10.below cb9.size (fun x hx => Nat.le_of_lt (HMW.out x hx)))
   have rX10 := (b10.row (by omega) HXM.out).trans rX9
   have rF10 := (b10.row (by omega) (fun hm => by have := HMW.out _ hm; omega)).trans rF9
   clear b10 t10 HC HT9 hown rX9 rF9
   go_wp2_with fail
   (with_reducible refine (HFI.out _ HT10.out).mono ?_)
   rintro e w11 ⟨rfl, b11⟩
   have z11 := b11.size
   have HT11 := Lib.hid (HT10.out.below b11)
   have cb11 := cb10.trans (b11.mono cb10.size)
   have rX11 := (row_below b11 (by omega)).trans rX10
   have rF11 := (row_below b11 (by omega)).trans rF10
   have zX11 : X < w11.heap.size := by omega
   have zF11 : w.heap.size < w11.heap.size := by omega
   clear b11 HT10 HFI rX10 rF10 rX rF
   by_cases hj2 : 2 ≤ j
   ·
    have hj2I : (2 : Int) ≤ (j : Int) := by omega
    by_cases hl : 0 < p.lim
    ·
     obtain rfl : f = true := by rw [HF2.out]; simp [hj2, hl]
     obtain rfl : po3 = (k : Int) := HF3.out rfl
     by_cases hj3 : j = 3
     ·
      have hj3I : ((j : Int) == 3) = true := by subst hj3; rfl
      obtain rfl : er = 0 := by rw [HER.out, if_pos hj3]
      clear hj2 hj3
      go_wp2_with fail
      go_roundw
      case rel => exact ⟨j + 1, by omega, by simp, s3, HI2.out, HT11.out, rX11, rF11, cb11, zX11, zF11⟩
      case measure => simp [intOf]; omega
     ·
      have hj3I : ((j : Int) == 3) = false := beq_eq_false_iff_ne.2 (by omega)
      obtain rfl : er = 7 := by rw [HER.out, if_neg hj3]
      clear hj2 hj3
      go_wp2_with fail
      go_roundw
      case rel => exact ⟨j + 1, by omega, by simp, s3, HI2.out, HT11.out, rX11, rF11, cb11, zX11, zF11⟩
      case measure => simp [intOf]; omega
    ·
     obtain rfl : f = false := by rw [HF2.out]; simp [hl]
     by_cases hj3 : j = 3
     ·
      have hj3I : ((j : Int) == 3) = true := by subst hj3; rfl
      obtain rfl : er = 0 := by rw [HER.out, if_pos hj3]
      clear hj2 hj3
      go_wp2_with fail
      go_roundw
      case rel => exact ⟨j + 1, by omega, by simp, s3, HI2.out, HT11.out, rX11, rF11, cb11, zX11, zF11⟩
      case measure => simp [intOf]; omega
     ·
      have hj3I : ((j : Int) == 3) = false := beq_eq_false_iff_ne.2 (by omega)
      obtain rfl : er = 7 := by rw [HER.out, if_neg hj3]
      clear hj2 hj3
      go_wp2_with fail
      go_roundw
      case rel => exact ⟨j + 1, by omega, by simp, s3, HI2.out, HT11.out, rX11, rF11, cb11, zX11, zF11⟩
      case measure => simp [intOf]; omega
   ·
    have hj2I : ¬ (2 : Int) ≤ (j : Int) := by omega
    obtain rfl : f = false := by rw [HF2.out]; simp [hj2]
    have hj3I : ((j : Int) == 3) = false := beq_eq_false_iff_ne.2 (by omega)
    obtain rfl : er = 7 := by rw [HER.out, if_neg (by omega)]
    clear hj2
    go_wp2_with fail
    go_roundw
    case rel => exact ⟨j + 1, by omega, by simp, s3, HI2.out, HT11.out, rX11, rF11, cb11, zX11, zF11⟩
    case measure => simp [intOf]; omega
  ·
   obtain rfl : j = 4 := by omega
   rw [show ((4 : Nat) : Int) = 4 from rfl]
   have HAN := Lib.hid (HTC.out.ann wr)
   unfold frameV at HAN
   obtain ⟨ok, hok⟩ : ∃ x, t.ok = x := ⟨_, rfl⟩
   rw [hok] at HAN hI
   have hst := hI.st
   rw [if_neg (by omega)] at hst
   have h0 := hI.c0
   have h1 := hI.c1
   have h2 := hI.c2
   have hcs := hI.cs
   have hp3 := hI.p3
   have hp4 := hI.p4
   have hans := hI.ans
   have hg := hI.g
   rw [if_neg (by omega)] at h2 hcs
   have hcl : ∀ W, BrT W A s → Calls Try.prog 38 #[.pointer (some ⟨A.B, 0, none⟩), .int .i64 0] W fun e w' => e = .returned (.int .i64 0) ∧ BelowS W.heap.size A.muts W w' := by
    intro W hW
    refine (rClear_any W hW hg.std (Nat.le_trans hg.stn (by omega)) 0).mono ?_
    rintro e w' ⟨⟨n, rfl, hn⟩, hb, _⟩
    rw [clearL_zero (by
     rw [hst]
     unfold st1
     split
     ·
      intro b hb
      rw [List.mem_singleton.1 hb]
     ·
      intro b hb
      cases hb)] at hn
    obtain rfl : n = 0 := by omega
    exact ⟨rfl, hb⟩
   have HCL := Lib.hid hcl
   have HT := Lib.hid hT
   have HKC := Lib.hid (fun W (hW : BrT W A s) => rCounts_any W hW)
   rw [h0, h1, h2] at HKC
   have hcase : (ok = true ∧ s.c3 = 0 ∧ s.c4 = 1) ∨ (s.c3 = 1 ∧ s.c4 = 0) := by
    by_cases h4 : s.c4 = 0
    ·
     exact .inr ⟨by omega, h4⟩
    ·
     exact .inl ⟨hans h4, by omega, by omega⟩
   clear hcl hst hg hans hcs hp3 hp4 h0 h1 h2 hI hT
   go_wp2_with fail
   (with_reducible refine HAN.out.mono ?_)
   rintro e w9 ⟨rfl, b9⟩
   have z9 := b9.size
   have cb9 := cb.trans (b9.mono zb)
   have rF9 := (row_below b9 zF).trans rF
   obtain ⟨w10, hw10⟩ : ∃ x, w9.alloc (.cells (Value.string ⟨t.ip.toArray⟩ :: u8v t.mac).toArray 38) = x := ⟨_, rfl⟩
   have b10 : Below w9.heap.size w9 w10 := by rw [← hw10]; exact Below.alloc (Below.refl _ _) (Nat.le_refl _) _
   have z10 := b10.size
   have cb10 := cb9.trans (b10.mono cb9.size)
   have rF10 := (row_below b10 (by omega)).trans rF9
   have HT10 := Lib.hid ((HT.out.below b9).below b10)
   clear HT HAN rF9 b9 b10
   go_wp2_with fail
   (try rw [hw10])
   (try clear hw10)
   (with_reducible refine (HKC.out _ HT10.out).mono ?_)
   rintro e w11 ⟨rfl, b11⟩
   have z11 := b11.size
   have cb11 := cb10.trans (b11.mono cb10.size)
   have rF11 := (row_below b11 (by omega)).trans rF10
   have HT11 := Lib.hid (HT10.out.below b11)
   obtain ⟨w12, hw12⟩ : ∃ x, w11.alloc (.cells #[.int .i64 0, .int .i64 0, .int .i64 3, .int .i64 s.c3, .int .i64 s.c4] 90) = x := ⟨_, rfl⟩
   have b12 : Below w11.heap.size w11 w12 := by rw [← hw12]; exact Below.alloc (Below.refl _ _) (Nat.le_refl _) _
   have z12 : w12.heap.size = w11.heap.size + 1 := by rw [← hw12]; exact alloc_sizeW _ _
   have rC12 : row w12 w11.heap.size = #[.int .i64 0, .int .i64 0, .int .i64 3, .int .i64 s.c3, .int .i64 s.c4] := by rw [← hw12]; exact row_alloc_at _ _ _ rfl
   have cb12 := cb11.trans (b12.mono cb11.size)
   have rF12 := (row_below b12 (by omega)).trans rF11
   have HT12 := Lib.hid (HT11.out.below b12)
   clear HT11 HT10 rF11 rF10 b11 b12 HKC
   rcases hcase with ⟨rfl, e3, e4⟩ | ⟨e3, e4⟩
   ·
    rw [e3, e4] at rC12 hw12 ⊢
    clear e3 e4
    go_wp2_with fail
    (try rw [hw12])
    (try clear hw12)
    (with_reducible refine (HCL.out _ HT12.out).mono ?_)
    rintro e w13 ⟨rfl, b13⟩
    have cb13 := cb12.trans (b13.below cb12.size (fun x hx => Nat.le_of_lt (HMW.out x hx)))
    go_wp2_with fail
    go_ret
    exact ⟨rfl, cb13⟩
   ·
    rw [e3, e4] at rC12 hw12 ⊢
    clear e3 e4
    cases ok with
    | true =>
     go_wp2_with fail
     (try rw [hw12])
     (try clear hw12)
     (with_reducible refine (HCL.out _ HT12.out).mono ?_)
     rintro e w13 ⟨rfl, b13⟩
     have cb13 := cb12.trans (b13.below cb12.size (fun x hx => Nat.le_of_lt (HMW.out x hx)))
     go_wp2_with fail
     go_ret
     exact ⟨rfl, cb13⟩
    | false =>
     go_wp2_with fail
     (try rw [hw12])
     (try clear hw12)
     (with_reducible refine (HCL.out _ HT12.out).mono ?_)
     rintro e w13 ⟨rfl, b13⟩
     have cb13 := cb12.trans (b13.below cb12.size (fun x hx => Nat.le_of_lt (HMW.out x hx)))
     go_wp2_with fail
     go_ret
     exact ⟨rfl, cb13⟩
end
end Go.Proofs.Ytckckabedgpbiaa
