/- Texts of this proof, merged: RlyA, RlyB, RlyE, RlyF, RlyG, RlyI, RlyK, RlyWK. -/
import Derived.Test.YtckckabedgpbiaaJ50
import Derived.Test.YtckckabedgpbiaaJ51
import Derived.Test.YtckckabedgpbiaaArgsJ
import Derived.Test.YtckckabedgpbiaaJ49
set_option linter.unusedSimpArgs false
set_option linter.unusedVariables false
set_option maxRecDepth 4000
namespace Go.Proofs.Ytckckabedgpbiaa
section
open Go.RowKit Go.Shelf
section
variable {P : Program} {ops : Array Oper} {Q : Exit → Act → World → Prop} {md : Region.Mode} {S : World → Prop}
theorem wpAnyR_op1 (i : Nat) {fuel : Nat} {listed : Array Bool} {a : Act} {w : World} (hr : Region.ready md ops listed = [i])
  (h : ∀ w1, Below w.heap.size w w1 → wpOp P ops Q i (fun a' w' => S w' ∧ wpAnyR P md ops Q S fuel (listed.setIfInBounds i true) a' w') a w1) : wpAnyR P md ops Q S (fuel + 1) listed a w := by
 intro w1 h1
 refine ⟨fun h0 => by rw [hr] at h0; simp at h0, fun j hj => ?_⟩
 rw [hr] at hj
 obtain rfl := List.mem_singleton.1 hj
 exact h w1 h1
end
theorem portsOf {S : List Nat} {w : World} {B : Nat} {pa : Option Addr} {n cap : Nat} {rows : List (List Value)} {ps : List PortD} (h : OwnL w B 74 4 (.slice pa n cap) rows) (hl : ps.length ≤ 1000) (hS : ∀ s ∈ S, s < B)
  (hr : ∀ (q : Nat) (p : PortD), ps[q]? = some p → ∃ ta tc, rows[q]? = some (portV ta tc p) ∧ ElemsOff S w ta 1 (p.tagged.map fun v => [Value.int .i64 v])) : PortsOff S w pa ps := by
 obtain ⟨a', c', e, he⟩ := h.off S (fun s hs => .inl (hS s hs))
 cases e
 refine ⟨by unfold maxLen; omega, fun q p hq => ?_⟩
 obtain ⟨ta, tc, e1, e2⟩ := hr q p hq
 obtain ⟨b, off, e3, hb, hn, hra⟩ := he.2 q _ e1
 exact ⟨b, off, ta, tc, e3, hb, hn, hra, e2⟩
def RPortsOff (S : List Nat) (w : World) (pa : Option Addr) (rs : List RPortD) : Prop :=
 rs.length ≤ maxLen ∧ ∀ (i : Nat) (r : RPortD), rs[i]? = some r → ∃ b off ta cap, pa = some ⟨b, off, none⟩ ∧ b < w.heap.size ∧
  (∀ W, blk W b = blk w b → W.rangeAt b (off + i * 5) (rportV ta cap r)) ∧ ElemsOff S w ta 1 (r.p.tagged.map fun v => [Value.int .i64 v])
theorem RPortsAt.off {w : World} {pa : Option Addr} {rs : List RPortD} (h : RPortsAt w pa rs) (S : List Nat) (hS : ∀ x ∈ S, w.heap.size ≤ x) : RPortsOff S w pa rs := by
 refine ⟨h.1, fun i r hr => ?_⟩
 obtain ⟨b, off, ta, cap, e, hl, hra, ht⟩ := h.2 i r hr
 refine ⟨b, off, ta, cap, e, hl, hra, ht.1, fun q x hx => ?_⟩
 obtain ⟨b', off', e4, hb', hr'⟩ := ht.2 q x hx
 exact ⟨b', off', e4, hb', fun hm => by have := hS b' hm; omega, hr'⟩
theorem RPortsOff.at {S : List Nat} {w : World} {pa : Option Addr} {rs : List RPortD} (h : RPortsOff S w pa rs) : RPortsAt w pa rs := by
 refine ⟨h.1, fun i r hr => ?_⟩
 obtain ⟨b, off, ta, cap, e, hl, hra, ht⟩ := h.2 i r hr
 exact ⟨b, off, ta, cap, e, hl, hra, ht.elems⟩
theorem RPortsOff.below {S : List Nat} {w w' : World} {pa : Option Addr} {rs : List RPortD} (h : RPortsOff S w pa rs) (hb : Below w.heap.size w w') : RPortsOff S w' pa rs := by
 refine ⟨h.1, fun i r hr => ?_⟩
 obtain ⟨b, off, ta, cap, e, hl, hra, ht⟩ := h.2 i r hr
 exact ⟨b, off, ta, cap, e, Nat.lt_of_lt_of_le hl hb.size, fun W hW => hra W (hW.trans (blk_below hb hl)), ht.below hb⟩
theorem RPortsOff.get {S : List Nat} {w : World} {pa : Option Addr} {rs : List RPortD} (h : RPortsOff S w pa rs) {k : Nat} (hk : k < rs.length) : ∃ b off ta cap, pa = some ⟨b, off, none⟩ ∧ b < w.heap.size ∧
  (∀ W, Below w.heap.size w W → W.rangeAt b (off + k * 5) (rportV ta cap rs[k]) ∧ ElemsOff S W ta 1 (rs[k].p.tagged.map fun v => [Value.int .i64 v])) := by
 obtain ⟨b, off, ta, cap, e, hl, hr, ht⟩ := h.2 k rs[k] (List.getElem?_eq_getElem hk)
 exact ⟨b, off, ta, cap, e, hl, fun W hW => ⟨hr W (blk_below hW hl), ht.below hW⟩⟩
set_option maxRecDepth 20000 in
set_option maxHeartbeats 2000000 in
theorem of22X_any (S : List Nat) (pa : Option Addr) (cap : Nat) (rs : List RPortD) (w : World) (h : RPortsOff S w pa rs) (hSl : ∀ s ∈ S, s < w.heap.size) (hn : rs.length ≤ 1000) :
  Calls Try.prog 29 #[.slice pa rs.length cap] w fun e w' => (∃ u, e = .returned u ∧ ∃ pa' cap', u = .slice pa' rs.length cap' ∧ PortsOff S w' pa' (rs.map (·.p))) ∧ Below w.heap.size w w' := by
 have hnI : (rs.length : Int) ≤ 1000 := by omega
 go_enter Try.func29, Try.ntmps29
 go_wp2_with fail
 go_loopw [3, 4] (fun u i wr => ∃ (k : Nat) (ppa : Option Addr) (ppc : Nat) (rows : List (List Value)), k ≤ rs.length ∧ i = .int .i64 k ∧ u = .slice ppa k ppc ∧ rows.length = k ∧ OwnL wr w.heap.size 74 4 (.slice ppa k ppc) rows ∧
  (∀ (q : Nat) (r : RPortD), q < k → rs[q]? = some r → ∃ ta tc, rows[q]? = some (portV ta tc r.p) ∧ ElemsOff S w ta 1 (r.p.tagged.map fun v => [Value.int .i64 v])) ∧ Below w.heap.size w wr) (fun _ i _ => rs.length - (intOf i).toNat)
 case atStart => exact ⟨0, none, 0, [], by omega, rfl, rfl, rfl, OwnL.nil _ _ _ _, (fun q r hq _ => by omega), Below.refl _ _⟩
 case round =>
  obtain ⟨k, ppa, ppc, rows, hk, rfl, rfl, hrl, hown, hrows, cb⟩ := hrel
  have zb := cb.size
  by_cases hlt : k < rs.length
  ·
   have hltI : (k : Int) < (rs.length : Int) := by omega
   obtain ⟨pb, po, ta, tc, rfl, hpb, hrd⟩ := h.get hlt
   obtain ⟨r, hr⟩ : ∃ x, rs[k] = x := ⟨_, rfl⟩
   rw [hr] at hrd
   have hit : ElemsOff S w ta 1 (r.p.tagged.map fun v => [Value.int .i64 v]) := (hrd w (Below.refl _ _)).2
   have g0 : ∀ W, Below w.heap.size w W → W.cell? ⟨pb, po + k * 5, none⟩ = some (.int .i64 r.p.native) := fun W hW => (hrd W hW).1 0 _ rfl
   have g1 : ∀ W, Below w.heap.size w W → W.cell? ⟨pb, po + k * 5 + 1, none⟩ = some (.slice ta r.p.tagged.length tc) := fun W hW => (hrd W hW).1 1 _ rfl
   have g2 : ∀ W, Below w.heap.size w W → W.cell? ⟨pb, po + k * 5 + 2, none⟩ = some (.int .i64 r.p.hor) := fun W hW => (hrd W hW).1 2 _ rfl
   have g3 : ∀ W, Below w.heap.size w W → W.cell? ⟨pb, po + k * 5 + 3, none⟩ = some (.int .i64 r.p.lim) := fun W hW => (hrd W hW).1 3 _ rfl
   obtain ⟨o, ho⟩ : ∃ o, po + k * 5 = o := ⟨_, rfl⟩
   rw [ho] at g0 g1 g2 g3
   have HIT := Lib.hid hit
   have HR := Lib.hid hr
   have HRW := Lib.hid hrows
   have HOW := Lib.hid hown
   clear hrd hit hr hrows hown
   go_wp2_with fail
   have hG : GrowP fun W => Below w.heap.size w W := grow_base w
   refine wp_region_beginX [] (fun W => Below w.heap.size w W) hG rfl (by simp only [Rws]; (repeat (first | exact trivial | refine ⟨(by first | assumption | (simp [go_sem, *]; done)), (by first | omega | (simp; done) | (simp; omega)), ?_⟩))) (cb) (fun hS => ?_)
   refine sp 0 hG hS ?_
   refine sp 1 hG hS ?_
   refine sp 2 hG hS ?_
   refine sp 3 hG hS ?_
   refine sp 4 hG hS ?_
   refine sp 5 hG hS ?_
   refine sp 6 hG hS ?_
   refine sp 7 hG hS ?_
   refine sp 8 hG hS ?_
   refine sp 9 hG hS ?_
   refine sp 10 hG hS ?_
   refine sp 11 hG hS ?_
   refine sp 12 hG hS ?_
   refine sp 13 hG hS ?_
   refine sp 14 hG hS ?_
   refine sp 15 hG hS ?_
   refine sp 16 hG hS ?_
   refine sp 17 hG hS ?_
   refine sp 18 hG hS ?_
   refine sp 19 hG hS ?_
   refine sp 20 hG hS ?_
   refine sp 21 hG hS ?_
   refine sp 22 hG hS ?_
   refine wpAnyR_op1 23 (by kernel_rfl) (fun u6 hu6 => ?_)
   refine wpOp_step rfl (fun K hK => ?_)
   clear hS
   go_simp
   replace hu6 : Below wr.heap.size wr u6 := below_step (Below.drew (Below.refl _ _)) hu6
   have zu6 := hu6.size
   have cb6 := cb.trans (hu6.mono zb)
   refine hK _ _ ⟨⟨trivial, Below.alloc cb6 (by omega) _⟩, ?_⟩
   clear hK K
   refine wpAnyR_op1 24 (by kernel_rfl) (fun u8 hu8 => ?_)
   have zu8 := hu8.size
   rw [alloc_sizeW] at zu8
   have b38 : Below wr.heap.size wr u8 := (Below.alloc hu6 (by omega) _).trans (hu8.mono (by rw [alloc_sizeW]; omega))
   have cb8 := cb.trans (b38.mono zb)
   have rN8 : row u8 u6.heap.size = #[Value.int .i64 r.p.native, Value.slice ta r.p.tagged.length tc, Value.int .i64 r.p.hor, Value.int .i64 r.p.lim] := by rw [row_below hu8 (by rw [alloc_sizeW]; omega)]; exact row_alloc_at _ _ _ rfl
   refine wpOp_wp (by simp only [List.getElem?_toArray, List.getElem?_cons_succ, List.getElem?_cons_zero]; rfl) rfl ?_
   refine wp_appendL (t := 64) rfl Try.underlying64 portInfo (by decide) (by decide) w.heap.size _ rows rfl (HOW.out.below b38) u6.heap.size 1 [Value.int .i64 r.p.native, Value.slice ta r.p.tagged.length tc, Value.int .i64 r.p.hor, Value.int .i64 r.p.lim] rfl rN8 rfl rfl (by omega) (by omega) ?_
   intro v' u9 hown9 hb9 _
   obtain ⟨ppa2, ppc2, hve2, _⟩ := hown9.elems
   rw [List.length_append, List.length_singleton, hrl] at hve2
   subst hve2
   have cb9 := cb8.trans hb9
   have HO9 := Lib.hid hown9
   clear hown9
   have hS : XS [] (fun W => Below w.heap.size w W) u9 := ⟨trivial, cb9⟩
   refine ⟨hS, ?_⟩
   (try simp only [Act.put, List.setIfInBounds_toArray, List.set_cons_zero, List.set_cons_succ])
   refine sp 25 hG hS ?_
   refine wpAnyR_done (by kernel_rfl) (fun w10 bw10 => ?_) _
   have z9 := cb9.size
   have cb10 := cb9.trans (bw10.mono z9)
   have HO10 := Lib.hid (HO9.out.below bw10)
   have hrows2 : ∀ (q : Nat) (r' : RPortD), q < k + 1 → rs[q]? = some r' → ∃ ta' tc', (rows ++ [[Value.int .i64 r.p.native, Value.slice ta r.p.tagged.length tc, Value.int .i64 r.p.hor, Value.int .i64 r.p.lim]])[q]? = some (portV ta' tc' r'.p) ∧ ElemsOff S w ta' 1 (r'.p.tagged.map fun v => [Value.int .i64 v]) := by
    intro q r' hq hr'
    by_cases hqk : q < k
    ·
     obtain ⟨ta', tc', e1, e2⟩ := HRW.out q r' hqk hr'
     exact ⟨ta', tc', by rw [List.getElem?_append_left (by omega)]; exact e1, e2⟩
    ·
     have hqe : q = k := by omega
     subst hqe
     rw [List.getElem?_eq_getElem hlt, HR.out] at hr'
     cases hr'
     exact ⟨ta, tc, by rw [List.getElem?_append_right (by omega), hrl, Nat.sub_self]; rfl, HIT.out⟩
   have HRW2 := Lib.hid hrows2
   clear hrows2 hS g0 g1 g2 g3 hu6 hu8 b38 rN8 hb9 bw10 HO9
   go_wp2_with fail
   go_roundw
   case rel => exact ⟨k + 1, ppa2, ppc2, _, by omega, by simp, rfl, by simp [hrl], HO10.out, HRW2.out, cb10⟩
   case measure => simp [intOf]; omega
  ·
   obtain rfl : k = rs.length := by omega
   have hltI : ¬ (rs.length : Int) < (rs.length : Int) := by omega
   have HOW := Lib.hid hown
   have HRW := Lib.hid hrows
   clear hown hrows
   go_wp2_with fail
   go_ret
   refine ⟨⟨_, rfl, ppa, ⟨ppc, rfl⟩, portsOf HOW.out (by rw [List.length_map]; exact hn) hSl ?_⟩, cb⟩
   intro q p hq
   rw [List.getElem?_map] at hq
   cases hr : rs[q]? with
   | none => rw [hr] at hq; cases hq
   | some r =>
    rw [hr] at hq
    simp only [Option.map_some, Option.some.injEq] at hq
    subst hq
    obtain ⟨ta, tc, e1, e2⟩ := HRW.out q r (List.getElem?_eq_some_iff.1 hr).1 hr
    exact ⟨ta, tc, e1, e2.below cb⟩
theorem of22_any (pa : Option Addr) (cap : Nat) (rs : List RPortD) (w : World) (h : RPortsAt w pa rs) (hn : rs.length ≤ 1000) :
  Calls Try.prog 29 #[.slice pa rs.length cap] w fun e w' => (∃ u, e = .returned u ∧ ∃ pa' cap', u = .slice pa' rs.length cap' ∧ PortsOff [] w' pa' (rs.map (·.p))) ∧ Below w.heap.size w w' :=
 of22X_any [] pa cap rs w (h.off [] (fun x hx => by cases hx)) (fun x hx => by cases hx) hn
end
section
open Go.RowKit Go.Shelf
structure Act22 where
 d : Nat
 port : Int
 n : Int
 s : List UInt8
def act22C (x : Act22) : List Value := [Value.int .u8 (x.d : Int), Value.int .i64 x.port, Value.int .i64 x.n, Value.string ⟨x.s.toArray⟩]
def Acts22 (w : World) (a : Option Addr) (l : List Act22) : Prop := ElemsAt w a 4 (l.map act22C)
theorem Acts22.below {w w' : World} {a : Option Addr} {l : List Act22} (h : Acts22 w a l) (hb : Below w.heap.size w w') : Acts22 w' a l := ElemsAt.below h hb
theorem Acts22.get {w : World} {a : Option Addr} {l : List Act22} (h : Acts22 w a l) {k : Nat} (hk : k < l.length) : ∃ b off, a = some ⟨b, off, none⟩ ∧ b < w.heap.size ∧ ∀ W, Below w.heap.size w W → W.rangeAt b (off + k * 4) (act22C l[k]) := by
 obtain ⟨b, off, e, hb, hr⟩ := h.2 k (act22C l[k]) (by rw [List.getElem?_map, List.getElem?_eq_getElem hk]; rfl)
 exact ⟨b, off, e, hb, fun W hW => hr W (blk_below hW hb)⟩
def fewP (rs : List RPortD) (acts : List Act22) (w : World) (e : Ending) (w' : World) : Prop := (∃ b, e = .returned (.bool b) ∧ (b = true → rs.length ≤ 40 ∧ acts.length ≤ 60 ∧ ∀ a ∈ acts, a.s.length ≤ 2000)) ∧ w' = w
set_option maxRecDepth 20000 in
set_option maxHeartbeats 1000000 in
theorem few22_any (pa : Option Addr) (cap : Nat) (rs : List RPortD) (aa : Option Addr) (acap : Nat) (acts : List Act22) (w : World) (h : RPortsAt w pa rs) (ha : Acts22 w aa acts) (hs : ∀ a ∈ acts, a.s.length ≤ maxLen) :
  Calls Try.prog 28 #[.slice pa rs.length cap, .slice aa acts.length acap] w fun e w' => fewP rs acts w e w' := by
 have hm := h.1
 have hm2 : (rs.length : Int) ≤ 9223372036854775807 := by unfold maxLen at hm; omega
 have am := ha.1
 rw [List.length_map] at am
 have am2 : (acts.length : Int) ≤ 9223372036854775807 := by unfold maxLen at am; omega
 go_enter Try.func28, Try.ntmps28
 go_wp2_with fail
 go_loopw [5] (fun i wr => ∃ k : Nat, k ≤ rs.length ∧ i = .int .i64 k ∧ wr = w) (fun i _ => rs.length - (intOf i).toNat)
 case atStart => exact ⟨0, by omega, rfl, rfl⟩
 case round =>
  obtain ⟨k, hk, rfl, rfl⟩ := hrel
  by_cases hlt : k < rs.length ∧ k ≤ 40
  ·
   obtain ⟨hlt, h40⟩ := hlt
   have hltI : (k : Int) < (rs.length : Int) := by omega
   have h40I : (k : Int) ≤ 40 := by omega
   obtain ⟨pb, po, ta, tc, rfl, hpb, hrd⟩ := h.get hlt
   obtain ⟨r, hr⟩ : ∃ x, rs[k] = x := ⟨_, rfl⟩
   rw [hr] at hrd
   have htm := (hrd wr (Below.refl _ _)).2.len
   have htm2 : (r.p.tagged.length : Int) ≤ 9223372036854775807 := by unfold maxLen at htm; omega
   have g1 : wr.cell? ⟨pb, po + k * 5 + 1, none⟩ = some (.slice ta r.p.tagged.length tc) := (hrd wr (Below.refl _ _)).1 1 _ rfl
   obtain ⟨o, ho⟩ : ∃ o, po + k * 5 = o := ⟨_, rfl⟩
   rw [ho] at g1
   clear hrd hr
   by_cases hbig : 100 < r.p.tagged.length
   ·
    have hbigI : (100 : Int) < (r.p.tagged.length : Int) := by omega
    go_wp2_with fail
    go_ret
    exact (show fewP _ _ _ _ _ from ⟨⟨false, rfl, fun h => by cases h⟩, rfl⟩)
   ·
    have hbigI : ¬ (100 : Int) < (r.p.tagged.length : Int) := by omega
    go_wp2_with fail
    go_roundw
    case rel => exact ⟨k + 1, by omega, by simp, by first | rfl | trivial⟩
    case measure => simp [intOf]; omega
  ·
   have hout : ¬ (k : Int) < (rs.length : Int) ∨ ((k : Int) < (rs.length : Int) ∧ ¬ (k : Int) ≤ 40) := by
    by_cases h1 : k < rs.length
    ·
     exact .inr ⟨by omega, by omega⟩
    ·
     exact .inl (by omega)
   clear hlt
   rcases hout with h1 | ⟨h1, h2⟩
   all_goals
    go_wp2_with fail
    go_loopw [6] (fun i wq => ∃ q : Nat, q ≤ acts.length ∧ i = .int .i64 q ∧ wq = wr ∧ ∀ (j : Nat) (hj : j < acts.length), j < q → acts[j].s.length ≤ 2000) (fun i _ => acts.length - (intOf i).toNat)
    case atStart => exact ⟨0, by omega, rfl, rfl, fun j _ hj => by omega⟩
    case round =>
     obtain ⟨q, hq, rfl, rfl, hall⟩ := hrel
     have HA := Lib.hid hall
     clear hall
     by_cases hlt : q < acts.length ∧ q ≤ 60
     ·
      obtain ⟨hlt, h60⟩ := hlt
      have hltI : (q : Int) < (acts.length : Int) := by omega
      have h60I : (q : Int) ≤ 60 := by omega
      obtain ⟨ab, ao, rfl, hab, har⟩ := ha.get hlt
      obtain ⟨x, hx⟩ : ∃ x, acts[q] = x := ⟨_, rfl⟩
      rw [hx] at har
      have hsm : x.s.length ≤ maxLen := hs x (by rw [← hx]; exact List.getElem_mem hlt)
      have hsm2 : (x.s.length : Int) ≤ 9223372036854775807 := by unfold maxLen at hsm; omega
      have g1 : wr.cell? ⟨ab, ao + q * 4 + 3, none⟩ = some (.string ⟨x.s.toArray⟩) := har wr (Below.refl _ _) 3 _ rfl
      obtain ⟨o, ho⟩ : ∃ o, ao + q * 4 = o := ⟨_, rfl⟩
      rw [ho] at g1
      have HX := Lib.hid hx
      clear har hx
      by_cases hbig : 2000 < x.s.length
      ·
       have hbigI : (2000 : Int) < (x.s.length : Int) := by omega
       go_wp2_with fail
       go_ret
       exact (show fewP _ _ _ _ _ from ⟨⟨false, rfl, fun h => by cases h⟩, rfl⟩)
      ·
       have hbigI : ¬ (2000 : Int) < (x.s.length : Int) := by omega
       go_wp2_with fail
       go_roundw
       case rel =>
        refine ⟨q + 1, by omega, by simp, by first | rfl | trivial, fun j hj hjq => ?_⟩
        rcases Nat.lt_or_ge j q with h3 | h3
        ·
         exact HA.out j hj h3
        ·
         obtain rfl : j = q := by omega
         rw [HX.out]
         omega
       case measure => simp [intOf]; omega
     ·
      have hout : ¬ (q : Int) < (acts.length : Int) ∨ ((q : Int) < (acts.length : Int) ∧ ¬ (q : Int) ≤ 60) := by
       by_cases h1 : q < acts.length
       ·
        exact .inr ⟨by omega, by omega⟩
       ·
        exact .inl (by omega)
      have hfin : acts.length ≤ 60 → ∀ a ∈ acts, a.s.length ≤ 2000 := fun h6 a haa => by
       obtain ⟨j, hj, rfl⟩ := List.getElem_of_mem haa
       exact HA.out j hj (by omega)
      have HF := Lib.hid hfin
      clear hlt hfin
      rcases hout with h3 | ⟨h3, h4⟩
      all_goals
       by_cases c1 : rs.length ≤ 40
       ·
        have c1I : (rs.length : Int) ≤ 40 := by omega
        by_cases c2 : acts.length ≤ 60
        ·
         have c2I : (acts.length : Int) ≤ 60 := by omega
         go_wp2_with fail
         go_ret
         exact (show fewP _ _ _ _ _ from ⟨⟨true, rfl, fun _ => ⟨c1, c2, HF.out c2⟩⟩, rfl⟩)
        ·
         have c2I : ¬ (acts.length : Int) ≤ 60 := by omega
         go_wp2_with fail
         go_ret
         exact (show fewP _ _ _ _ _ from ⟨⟨false, rfl, fun h => by cases h⟩, rfl⟩)
       ·
        have c1I : ¬ (rs.length : Int) ≤ 40 := by omega
        go_wp2_with fail
        go_ret
        exact (show fewP _ _ _ _ _ from ⟨⟨false, rfl, fun h => by cases h⟩, rfl⟩)
/-! ### the document's example -/
def pA : PortD := ⟨1, [], 0, 5⟩
def lineA : List UInt8 := ethS m2 m4 2048 [] (-1) 0
def brA : BrS := stateS (stateS (newS 10 [pA, pA]) 0 3) 1 3
theorem lineA_parse : ethParse lineA = .ok ⟨m2, m4, 2048, [], -1, 0⟩ := ethParse_print m2 m4 2048 [] (-1) 0 (by decide)
theorem comeA (t : TalkD) (ht : t.ask = none) : (comeS brA 0 lineA t).2 = ([(1, lineA)], 0) := by
 unfold comeS
 rw [lineA_parse]
 obtain ⟨ip, mac, ok, ask⟩ := t
 dsimp only at ht
 subst ht
 rfl
theorem talk_any (dst src : Vector UInt8 6) (ty : Int) (body : List UInt8) (hb : body.length ≤ 10000) : ∃ t, TalkC dst src ty body t ∧ (ty ≠ 2054 ∧ ty ≠ 34525 → t.ask = none) := by
 obtain ⟨ip, mac, ok, hA⟩ := ann_both dst src ty body hb
 rcases asks_any dst src ty body hb with hno | ⟨ipq, ans, hs⟩
 ·
  exact ⟨⟨ip, mac, ok, none⟩, ⟨hA.prog, fun _ => hno, fun _ _ h => by cases h⟩, fun _ => rfl⟩
 ·
  refine ⟨⟨ip, mac, ok, some (ipq, ans)⟩, ⟨hA.prog, (fun h => by cases h), fun a b h => by cases h; exact hs⟩, fun h => ?_⟩
  rcases hs.typ with e | e
  ·
   exact absurd e h.1
  ·
   exact absurd e h.2
end
section
open Go.RowKit Go.Shelf
theorem newG (ageing : Int) (ps : List PortD) (h : newOkB ageing ps = true) : BrG (newS ageing ps) 0 ∧ 0 < ps.length ∧ (∀ p ∈ ps, okPort p = true) ∧ (∀ p ∈ ps, 0 ≤ p.lim ∧ p.lim ≤ 65535) := by
 unfold newOkB newOkL at h
 simp only [Bool.and_eq_true, decide_eq_true_eq, List.length_map, Bool.not_eq_true', List.any_map] at h
 obtain ⟨⟨h1, ⟨⟨⟨h2, h3⟩, h4⟩, h5⟩⟩, h6⟩ := h
 refine ⟨⟨h4, List.Pairwise.nil, (fun b hb => by cases hb), Nat.le_refl _, (fun b hb => by cases hb), List.Pairwise.nil, (fun b hb => by cases hb), by simp [newS], by simp [newS], h2, h3⟩, by omega, fun p hp => List.all_eq_true.1 h1 p hp, fun p hp => ?_⟩
 have := List.any_eq_false.1 h5 p hp
 simp only [Function.comp, badLim, Bool.or_eq_true, decide_eq_true_eq, not_or] at this
 omega
theorem portsA {w : World} {g : Nat} (hr : row w g = #[Value.int .i64 1, Value.slice none 0 0, Value.int .i64 0, Value.int .i64 5, Value.int .i64 1, Value.slice none 0 0, Value.int .i64 0, Value.int .i64 5]) (hg : g < w.heap.size) : PortsOff [] w (some ⟨g, 0, none⟩) [pA, pA] := by
 refine ⟨by simp [maxLen], fun i p hp => ?_⟩
 have hi : i < 2 := (List.getElem?_eq_some_iff.1 hp).1
 have hpA : p = pA := by
  match i, hp with
  | 0, hp => exact (Option.some.inj hp).symm
  | 1, hp => exact (Option.some.inj hp).symm
  | n + 2, hp => simp at hp
 subst hpA
 refine ⟨g, 0, none, 0, rfl, hg, by simp, fun W hW j u hj => ?_, ElemsOff.nil _ _ _ _⟩
 have hjl : j < 4 := (List.getElem?_eq_some_iff.1 hj).1
 have hrW : row W g = _ := (row_of_block hW).trans hr
 rw [cell_of_row' (by rw [hrW]; simp; omega), hrW]
 match i, hi, j, hjl, hj with
 | 0, _, 0, _, hj => exact hj
 | 0, _, 1, _, hj => exact hj
 | 0, _, 2, _, hj => exact hj
 | 0, _, 3, _, hj => exact hj
 | 1, _, 0, _, hj => exact hj
 | 1, _, 1, _, hj => exact hj
 | 1, _, 2, _, hj => exact hj
 | 1, _, 3, _, hj => exact hj
set_option maxRecDepth 20000 in
set_option maxHeartbeats 2000000 in
theorem awake22_any (w : World) : Calls Try.prog 27 #[] w fun e w' => e = .returned (.bool true) ∧ Below w.heap.size w w' := by
 go_enter Try.func27, Try.ntmps27
 go_wp2_with fail
 refine (rNew_any 10 (some ⟨w.heap.size + 1, 0, none⟩) 2 [pA, pA] _ (portsA ((row_alloc_at _ _ _ (by simp)).trans rfl) (by simp)) (by decide)).mono ?_
 rintro e w1 (⟨h0, _⟩ | ⟨hok, A, rfl, hnb⟩)
 ·
  exact absurd h0 (by decide)
 have z1 := hnb.below.size
 simp only [alloc_sizeW] at z1
 have b1 : Below w.heap.size w w1 := Below.trans (Below.alloc (Below.alloc (Below.refl _ _) (Nat.le_refl _) _) (by rw [alloc_sizeW]; omega) _) (hnb.below.mono (by rw [alloc_sizeW, alloc_sizeW]; omega))
 obtain ⟨g1, _⟩ := newG 10 [pA, pA] hok
 have hlo := hnb.lo
 simp only [alloc_sizeW] at hlo
 have H1 : Calls Try.prog 31 #[.pointer (some ⟨A.B, 0, none⟩), .int .i64 0, .int .i64 3] w1 fun e w' => e = .returned (.int .i64 0) ∧ BelowS w1.heap.size A.muts w1 w' ∧ BrT w' A (stateS (newS 10 [pA, pA]) 0 3) := rState_ok w1 hnb.br 0 3 (by decide) (by decide) (by decide) (by decide) g1.std (by decide)
 have H2 : ∀ W, BrT W A (stateS (newS 10 [pA, pA]) 0 3) → Calls Try.prog 31 #[.pointer (some ⟨A.B, 0, none⟩), .int .i64 1, .int .i64 3] W fun e w' => e = .returned (.int .i64 0) ∧ BelowS W.heap.size A.muts W w' ∧ BrT w' A brA := fun W hW => rState_ok W hW 1 3 (by decide) (by decide) (by decide) (by decide) List.Pairwise.nil (by decide)
 obtain ⟨t, ht, htn⟩ := talk_any m2 m4 2048 [] (by simp)
 have hcA := comeA t (htn (by decide))
 have gA : BrG brA 0 := ⟨by decide, List.Pairwise.nil, (fun b hb => by cases hb), by decide, (fun b hb => by cases hb), List.Pairwise.nil, (fun b hb => by cases hb), by decide, by decide, by decide⟩
 have H3 : ∀ W, BrT W A brA → Calls Try.prog 33 #[.pointer (some ⟨A.B, 0, none⟩), .int .i64 0, .string ⟨lineA.toArray⟩] W fun e w' => (∃ u, e = .returned (.tuple #[u, .int .i64 0]) ∧ OwnL w' W.heap.size 84 2 u [outC (1, lineA)]) ∧ BelowS W.heap.size A.muts W w' ∧ ∃ s, BrT w' A s := fun W hW => by
  have := rCome_any W hW (Nat.zero_le _) gA 0 (by decide) lineA (by decide) t (fun d hd => by rw [lineA_parse] at hd; cases hd; exact ht)
  rw [hcA] at this
  exact this.mono fun e w' ⟨h1, h2, h3⟩ => ⟨h1, h2, _, h3⟩
 have H4 := fun W => ethPrint_any m2 m4 2048 [] (-1) 0 W (by decide)
 rw [show ethS m2 m4 2048 [] (-1) 0 = lineA from rfl] at H4
 obtain ⟨ln, hln⟩ : ∃ x, lineA = x := ⟨_, rfl⟩
 rw [hln] at H3 H4
 have HX1 := Lib.hid H1
 have HX2 := Lib.hid H2
 have HX3 := Lib.hid H3
 have HX4 := Lib.hid H4
 clear H1 H2 H3 H4 hln hcA htn ht gA g1 hok
 go_wp2_with fail
 (with_reducible refine HX1.out.mono ?_)
 rintro e w2 ⟨rfl, b2, t2⟩
 go_wp2_with fail
 (with_reducible refine (HX2.out _ t2).mono ?_)
 rintro e w3 ⟨rfl, b3, t3⟩
 unfold ethV at HX4
 go_wp2_with fail
 (with_reducible refine (HX4.out _).mono ?_)
 rintro e w4 ⟨rfl, b4⟩
 have t4 := t3.below b4
 go_wp2_with fail
 (with_reducible refine (HX3.out _ t4).mono ?_)
 rintro e w5 ⟨⟨u, rfl, hown⟩, b5, _⟩
 obtain ⟨a, c, rfl, hel⟩ := hown.elems
 obtain ⟨ob, oo, rfl, hob, hra⟩ := hel.2 0 _ rfl
 have k0 : w5.cell? ⟨ob, oo, none⟩ = some (.int .i64 1) := hra w5 rfl 0 _ rfl
 have k1 : w5.cell? ⟨ob, oo + 1, none⟩ = some (.string ⟨ln.toArray⟩) := hra w5 rfl 1 _ rfl
 have hB : Below w.heap.size w w5 := by
  have hmu : ∀ x ∈ A.muts, w.heap.size ≤ x := by
   intro x hx
   have := hlo x (by simp only [BrA.muts, List.mem_cons, List.not_mem_nil, or_false] at hx ⊢; omega)
   omega
  have q2 := b2.below (B' := w.heap.size) b1.size hmu
  have q3 := b3.below (B' := w.heap.size) (Nat.le_trans b1.size b2.size) hmu
  have s3 : w.heap.size ≤ w3.heap.size := Nat.le_trans b1.size (Nat.le_trans b2.size b3.size)
  have q5 := b5.below (B' := w.heap.size) (Nat.le_trans s3 b4.size) hmu
  exact (((b1.trans q2).trans q3).trans (b4.mono s3)).trans q5
 clear hown hel hra hob
 go_wp2_with fail
 go_ret
 exact ⟨rfl, hB⟩
end
section
open Go.RowKit Go.Shelf
def sJ (ageing : Int) (ps : List PortD) (f : Nat → Int) (j : Nat) : BrS := { newS ageing ps with states := (List.range ps.length).map fun i => if i < j then f i else 0 }
theorem sJ_zero (ageing : Int) (ps : List PortD) (f : Nat → Int) : sJ ageing ps f 0 = newS ageing ps := by
 have : (List.range ps.length).map (fun i => if i < 0 then f i else 0) = List.replicate ps.length 0 := by
  apply List.ext_getElem
  ·
   simp
  ·
   intro i h1 h2
   simp
 unfold sJ
 rw [this]
 rfl
theorem sJ_step (ageing : Int) (ps : List PortD) (f : Nat → Int) {j : Nat} (hj : j < ps.length) : stateS (sJ ageing ps f j) j (f j) = sJ ageing ps f (j + 1) := by
 unfold stateS sJ newS
 simp only [BrS.mk.injEq, true_and, and_true]
 refine ⟨?_, by split <;> rfl⟩
 apply List.ext_getElem
 ·
  simp
 ·
  intro i h1 h2
  simp only [List.length_map, List.length_range] at h2
  rw [List.getElem_set]
  simp only [List.getElem_map, List.getElem_range]
  by_cases e : j = i
  ·
   subst e; simp
  ·
   rw [if_neg e]
   by_cases h3 : i < j
   ·
    rw [if_pos h3, if_pos (by omega)]
   ·
    rw [if_neg h3, if_neg (by omega)]
theorem sJ_good (ageing : Int) (ps : List PortD) (f : Nat → Int) (j : Nat) (h : newOkB ageing ps = true) : BrG (sJ ageing ps f j) 0 := by
 have g := (newG ageing ps h).1
 exact ⟨g.n32, List.Pairwise.nil, (fun b hb => by cases hb), Nat.le_refl _, (fun b hb => by cases hb), List.Pairwise.nil, (fun b hb => by cases hb), g.bin, g.cs, g.age⟩
theorem rat_mod (n k : Nat) (hk : 0 < k) : ((n : Int)).tmod (k : Int) = ((n % k : Nat) : Int) := by
 rw [Int.tmod_eq_emod_of_nonneg (by omega)]
 omega
theorem Acts22.nil (w : World) (a : Option Addr) : Acts22 w a [] := by
 unfold Acts22
 exact ElemsAt.nil _ _ _
theorem few22_nil (pa : Option Addr) (cap : Nat) (rs : List RPortD) (w : World) (h : RPortsAt w pa rs) :
  Calls Try.prog 28 #[.slice pa rs.length cap, .slice none 0 0] w fun e w' => (∃ b, e = .returned (.bool b) ∧ (b = true → rs.length ≤ 40)) ∧ w' = w := by
 have := few22_any pa cap rs none 0 ([] : List Act22) w h (Acts22.nil _ _) (fun a ha => absurd ha List.not_mem_nil)
 exact this.mono fun e w' ⟨⟨b, h1, h2⟩, h3⟩ => ⟨⟨b, h1, fun hb => (h2 hb).1⟩, h3⟩
theorem lo_muts {w : World} {A : BrA} (h : ∀ b ∈ [A.B, A.SB, A.LT, A.LM, A.HT, A.HM], w.heap.size ≤ b) : ∀ x ∈ A.muts, w.heap.size ≤ x := by
 intro x hx
 refine h x ?_
 simp only [BrA.muts, List.mem_cons, List.not_mem_nil, or_false] at hx ⊢
 omega
end
section
open Go.RowKit Go.Shelf
def stC (f : Nat → Int) (n j : Nat) : Array Value := ints ((List.range n).map fun i => if i < j then f i else 0)
@[simp, go_sem] theorem stC_size (f : Nat → Int) (n j : Nat) : (stC f n j).size = n := by simp [stC, ints]
theorem PortsOff.nil {S : List Nat} {w : World} {pa : Option Addr} {ps : List PortD} (h : PortsOff S w pa ps) : PortsOff [] w pa ps := by
 refine ⟨h.1, fun i p hp => ?_⟩
 obtain ⟨b, off, ta, cap, e, hl, hn, hr, ht⟩ := h.2 i p hp
 refine ⟨b, off, ta, cap, e, hl, List.not_mem_nil, hr, ht.1, fun q x hx => ?_⟩
 obtain ⟨b', off', e', hl', _, hr'⟩ := ht.2 q x hx
 exact ⟨b', off', e', hl', List.not_mem_nil, hr'⟩
theorem rStateJ_any {ageing : Int} {ps : List PortD} {f : Nat → Int} {j : Nat} {A : BrA} (W : World) (hok : newOkB ageing ps = true) (hj : j < ps.length) (h0 : 0 ≤ f j) (h3 : f j ≤ 3) (hW : BrT W A (sJ ageing ps f j)) :
  Calls Try.prog 31 #[.pointer (some ⟨A.B, 0, none⟩), .int .i64 (j : Int), .int .i64 (f j)] W fun e w' => e = .returned (.int .i64 0) ∧ BelowS W.heap.size A.muts W w' ∧ BrT w' A (sJ ageing ps f (j + 1)) := by
 have h := rState_ok W hW j (f j) (newG ageing ps hok).1.n32 hj h0 h3 (sJ_good ageing ps _ j hok).std (Nat.zero_le _)
 rw [sJ_step ageing ps f hj] at h
 exact h
end
section
open Go.RowKit Go.Shelf
theorem isL_eq {c : LB} {v : Int} {mac : Vector UInt8 6} (h : c.is v mac = true) : v = c.v ∧ mac = c.mac := by
 unfold LB.is at h
 simpa [Bool.and_eq_true, beq_iff_eq] using h
theorem distL_put (c : LB) : ∀ {m : List LB}, DistL m → DistL (putL c m)
 | [], _ => by unfold putL DistL; simp
 | d :: m, h => by
  rw [DistL, List.pairwise_cons] at h
  rw [putL]
  by_cases hc : d.is c.v c.mac = true
  ·
   rw [if_pos hc, DistL, List.pairwise_cons]
   refine ⟨fun b hb => ?_, h.2⟩
   have h1 := h.1 b hb
   obtain ⟨e1, e2⟩ := isL_eq hc
   unfold LB.is at h1 ⊢
   rw [e1, e2]
   exact h1
  ·
   rw [if_neg hc, DistL, List.pairwise_cons]
   refine ⟨fun b hb => ?_, distL_put c h.2⟩
   rcases putL_mem hb with rfl | hb
   ·
    exact Bool.eq_false_iff.2 hc
   ·
    exact h.1 b hb
theorem lenL_put (c : LB) : ∀ m : List LB, (putL c m).length ≤ m.length + 1
 | [] => by simp [putL]
 | d :: m => by
  have h1 := lenL_put c m
  rw [putL]
  by_cases hc : d.is c.v c.mac = true
  ·
   rw [if_pos hc]; simp
  ·
   rw [if_neg hc]; simp; omega
theorem distL_hear {lim v : Int} {mac : Vector UInt8 6} {port : Int} {m : List LB} (h : DistL m) : DistL (hearL lim v mac port m) := by
 unfold hearL
 generalize ((match findL v mac m with | some b => b.port == port | none => false) || decide ((onL port m : Int) < lim)) = b
 cases b
 ·
  exact h
 ·
  exact distL_put _ h
theorem lenL_hear {lim v : Int} {mac : Vector UInt8 6} {port : Int} {m : List LB} : (hearL lim v mac port m).length ≤ m.length + 1 := by
 unfold hearL
 generalize ((match findL v mac m with | some b => b.port == port | none => false) || decide ((onL port m : Int) < lim)) = b
 cases b
 ·
  exact Nat.le_succ _
 ·
  exact lenL_put _ m
theorem keyL {time : Int} {a x : LB} (h : stepL time a = some x) : x.v = a.v ∧ x.mac = a.mac ∧ x.port = a.port ∧ x.age = a.age + 1 ∧ a.age + 1 < time := by
 unfold stepL at h
 split at h
 ·
  cases h
 ·
  cases h
  exact ⟨rfl, rfl, rfl, rfl, by omega⟩
theorem distL_tick (time : Int) {m : List LB} (h : DistL m) : DistL (tickL time m) := by
 unfold DistL tickL at *
 rw [List.pairwise_filterMap]
 refine h.imp fun {a b} hab x hx y hy => ?_
 obtain ⟨h1, h2, _⟩ := keyL hx
 obtain ⟨h3, h4, _⟩ := keyL hy
 unfold LB.is at *
 rw [h1, h2, h3, h4]
 exact hab
def tickS (s : BrS) : BrS := { s with st := tickL s.ageing s.st, bi := tickH s.ageing s.bi }
theorem tickS_good {s : BrS} {N : Nat} (g : BrG s N) : BrG (tickS s) N := by
 refine ⟨g.n32, distL_tick _ g.std, fun b hb => ?_, Nat.le_trans (List.length_filterMap_le _ _) g.stn, fun b hb => ?_, dist_tick _ g.bid, age_tick g.age.2 g.bia, Nat.le_trans (List.length_filterMap_le _ _) g.bin, g.cs, g.age⟩
 ·
  obtain ⟨a, ha, hab⟩ := List.mem_filterMap.1 hb
  obtain ⟨_, _, e, _⟩ := keyL hab
  obtain ⟨j, h1, h2⟩ := g.stp a ha
  exact ⟨j, e.trans h1, h2⟩
 ·
  obtain ⟨a, ha, hab⟩ := List.mem_filterMap.1 hb
  obtain ⟨_, _, _, e, hlt⟩ := keyL hab
  have := g.sta a ha
  have := g.age.2
  omega
theorem BrG.more {s : BrS} {N M : Nat} (g : BrG s N) (h : N ≤ M) : BrG s M :=
 ⟨g.n32, g.std, g.stp, Nat.le_trans g.stn h, g.sta, g.bid, g.bia, g.bin, by obtain ⟨h0, h1, h2, h3, h4⟩ := g.cs; omega, g.age⟩
theorem comeD_good {s : BrS} {N : Nat} (g : BrG s N) {k : Nat} (hk : k < s.ports.length) (d : EthD) (t : TalkD) : BrG (comeD s k d t).1 (N + 1) := by
 obtain ⟨h0, h1, h2, h3, h4⟩ := g.cs
 have hst : ∀ v : Int, DistL (hearL (s.port k).lim v d.src k s.st) ∧ (∀ b ∈ hearL (s.port k).lim v d.src k s.st, ∃ j : Nat, b.port = (j : Int) ∧ j < s.ports.length) ∧ (hearL (s.port k).lim v d.src k s.st).length ≤ N + 1 ∧ (∀ b ∈ hearL (s.port k).lim v d.src k s.st, 0 ≤ b.age ∧ b.age ≤ 1000000) := fun v => by
  refine ⟨distL_hear g.std, hear_ports g rfl hk, Nat.le_trans lenL_hear (by have := g.stn; omega), fun b hb => ?_⟩
  rcases hear_mem hb with e | e
  ·
   rw [e]; exact ⟨by simp, by simp⟩
  ·
   exact g.sta b e
 have hn := g.stn
 unfold comeD
 split
 ·
  exact ⟨g.n32, g.std, g.stp, by show s.st.length ≤ N + 1; omega, g.sta, g.bid, g.bia, g.bin, by dsimp only; omega, g.age⟩
 ·
  split
  ·
   exact ⟨g.n32, g.std, g.stp, by show s.st.length ≤ N + 1; omega, g.sta, g.bid, g.bia, g.bin, by dsimp only; omega, g.age⟩
  ·
   split
   ·
    exact ⟨g.n32, g.std, g.stp, by show s.st.length ≤ N + 1; omega, g.sta, g.bid, g.bia, g.bin, by dsimp only; omega, g.age⟩
   ·
    dsimp only
    obtain ⟨q1, q2, q3, q4⟩ := hst (inP (s.port k).native (s.port k).tagged d.vlan).1
    split
    ·
     exact ⟨g.n32, q1, q2, q3, q4, g.bid, g.bia, g.bin, by dsimp only; omega, g.age⟩
    ·
     split
     ·
      exact ⟨g.n32, q1, q2, q3, q4, dist_learn g.bid, age_learn g.bia, len_learn g.bin, by dsimp only; omega, g.age⟩
     ·
      exact ⟨g.n32, q1, q2, q3, q4, dist_learn g.bid, age_learn g.bia, len_learn g.bin, by dsimp only; omega, g.age⟩
theorem comeS_good {s : BrS} {N : Nat} (g : BrG s N) {k : Nat} (hk : k < s.ports.length) (l : List UInt8) (t : TalkD) : BrG (comeS s k l t).1 (N + 1) := by
 obtain ⟨h0, h1, h2, h3, h4⟩ := g.cs
 have hn := g.stn
 unfold comeS
 split
 ·
  exact ⟨g.n32, g.std, g.stp, by show s.st.length ≤ N + 1; omega, g.sta, g.bid, g.bia, g.bin, by dsimp only; omega, g.age⟩
 ·
  exact comeD_good g hk _ t
structure HearI (ps : List PortD) (st1 : List LB) (ok : Bool) (j : Nat) (s : BrS) : Prop where
 ports : s.ports = ps
 sts : s.states.length = ps.length
 st : s.st = if j ≤ 2 then [] else st1
 c0 : s.c0 = 0
 c1 : s.c1 = 0
 c2 : s.c2 = if j ≤ 3 then (j : Int) else 3
 cs : s.c3 + s.c4 = if j ≤ 3 then 0 else 1
 p3 : 0 ≤ s.c3
 p4 : 0 ≤ s.c4
 ans : s.c4 ≠ 0 → ok = true
 bi : j ≤ 3 → s.bi = []
 g : BrG s j
def st1 (lim v : Int) (mac : Vector UInt8 6) (k : Nat) : List LB := if 0 < lim then [⟨v, mac, k, 0⟩] else []
theorem hear_first (lim v : Int) (mac : Vector UInt8 6) (k : Nat) : hearL lim v mac k [] = st1 lim v mac k := by
 unfold hearL st1
 have : (onL (k : Int) [] : Int) = 0 := rfl
 rw [this]
 by_cases h : 0 < lim
 ·
  simp [h, findL, putL]
 ·
  simp [h, findL]
theorem inP_own {native : Int} {tagged : List Int} (hr : rightP native tagged = true) (h0 : native ≠ 0) : inP native tagged (-1) = (native, 0) := by
 unfold inP
 dsimp only
 rw [if_pos (Or.inl rfl)]
 unfold memberP
 rw [hr]
 simp [h0]
end
section
open Go.RowKit Go.Shelf
def m21 : Vector UInt8 6 := #v[2, 1, 0, 0, 0, 0]
def m22 : Vector UInt8 6 := #v[2, 2, 0, 0, 0, 0]
theorem comeP {s : BrS} {k : Nat} {l : List UInt8} {t : TalkD} {d : EthD} {v : Int} (hl : ethParse l = .ok d) (hg : grp d.src = false) (hd : (d.dst == bpduTo) = false) (hs : s.states.getD k 0 = 3)
  (hin : inP (s.port k).native (s.port k).tagged d.vlan = (v, 0)) (ht : t.ask = none) :
  comeS s k l t = (({ s with st := hearL (s.port k).lim v d.src k s.st, bi := learnH v t.ip t.mac t.ok s.bi, c3 := s.c3 + 1 }, relayedS s (hearL (s.port k).lim v d.src k s.st) k v d.dst d.src d.ty d.body d.prio, 0) : BrS × List (Nat × List UInt8) × Int) := by
 have ha : ∀ bi, askS v t bi = none := fun bi => by unfold askS; rw [ht]
 unfold comeS
 rw [hl]
 dsimp only
 unfold comeD
 rw [hg, hd, hs, hin]
 simp only [ha, Bool.false_eq_true, if_false]
 have hx : (decide ((3 : Int) < 2) || ((0 : Int) != 0)) = false := by decide
 have hy : ¬ (3 : Int) < 3 := by decide
 simp only [hx, Bool.false_eq_true, if_false, if_neg hy]
theorem relayed_congr {s s' : BrS} (hp : s'.ports = s.ports) (hs : s'.states = s.states) (st : List LB) (fr : Nat) (v : Int) (dst src : Vector UInt8 6) (ty : Int) (body : List UInt8) (prio : Int) : relayedS s' st fr v dst src ty body prio = relayedS s st fr v dst src ty body prio := by
 unfold relayedS
 rw [hp]
 congr 1
 funext i
 unfold relF goesTo mayB
 rw [hp, hs]
theorem inP_out {native : Int} {l : List Int} {v : Int} (hm : memberP native l v = true) : inP native l (outP native v 0).1 = (v, 0) := by
 have hv := member_range hm
 have e : ∀ vl, inP native l vl = if memberP native l (if vl = -1 ∨ vl = 0 then native else vl) = true then ((if vl = -1 ∨ vl = 0 then native else vl), 0) else (0, 12) := fun _ => rfl
 rw [e]
 have hx : (if (outP native v 0).1 = -1 ∨ (outP native v 0).1 = 0 then native else (outP native v 0).1) = v := by
  unfold outP
  by_cases h : v = native
  ·
   simp [h]
  ·
   rw [if_neg h]
   dsimp only
   rw [if_neg (by omega)]
 rw [hx, if_pos hm]
theorem outP_zero (native v : Int) : (outP native v 0).2 = 0 := by
 unfold outP
 split <;> rfl
structure KnowD (n : Int) (ps : List PortD) (p q : Nat) (P Q : PortD) : Prop where
 ok : newOkB n ps = true
 hp : ps[p]? = some P
 hq : ps[q]? = some Q
 ne : p ≠ q
 v : P.native ≠ 0
 lp : P.lim ≠ 0
 lq : Q.lim ≠ 0
 mem : memberP Q.native Q.tagged P.native = true
def allOn (n : Int) (ps : List PortD) : BrS := sJ n ps (fun _ => 3) ps.length
structure KnowI (n : Int) (ps : List PortD) (st : List LB) (N : Nat) (s : BrS) : Prop where
 ports : s.ports = ps
 age : s.ageing = n
 sts : ∀ i, i < ps.length → s.states.getD i 0 = 3
 stl : s.states = (allOn n ps).states
 st : s.st = st
 g : BrG s N
def kA (v : Int) (p : Nat) (a : Int) : LB := ⟨v, m21, p, a⟩
def kB (v : Int) (q : Nat) (a : Int) : LB := ⟨v, m22, q, a⟩
section
variable {n : Int} {ps : List PortD} {p q : Nat} {P Q : PortD} (K : KnowD n ps p q P Q)
include K
theorem KnowD.ltp : p < ps.length := (List.getElem?_eq_some_iff.1 K.hp).1
theorem KnowD.ltq : q < ps.length := (List.getElem?_eq_some_iff.1 K.hq).1
theorem KnowD.lims : 0 < P.lim ∧ 0 < Q.lim := by
 have h := (newG n ps K.ok).2.2.2
 have h1 := h P (List.mem_of_getElem? K.hp)
 have h2 := h Q (List.mem_of_getElem? K.hq)
 have := K.lp
 have := K.lq
 omega
theorem KnowD.right : rightP P.native P.tagged = true := by
 have h := (newG n ps K.ok).2.2.1 P (List.mem_of_getElem? K.hp)
 unfold okPort at h
 simp only [Bool.and_eq_true] at h
 exact h.1.1
theorem know_start : KnowI n ps [] 0 (allOn n ps) := by
 refine ⟨rfl, rfl, fun i hi => ?_, rfl, rfl, sJ_good n ps _ _ K.ok⟩
 unfold allOn sJ
 dsimp only
 rw [List.getD_eq_getElem?_getD, List.getElem?_map, List.getElem?_range hi]
 simp [hi]
theorem KnowI.port {s : BrS} {st : List LB} {N : Nat} (h : KnowI n ps st N s) : s.port p = P ∧ s.port q = Q := by
 unfold BrS.port
 rw [h.ports, List.getD_eq_getElem?_getD, List.getD_eq_getElem?_getD, K.hp, K.hq]
 exact ⟨rfl, rfl⟩
theorem know_first {s : BrS} {N : Nat} {l : List UInt8} {t : TalkD} (h : KnowI n ps [] N s) (hl : ethParse l = .ok ⟨m22, m21, 2048, [], -1, 0⟩) (ht : t.ask = none) :
  ∃ s', comeS s p l t = (s', relayedS (allOn n ps) [kA P.native p 0] p P.native m22 m21 2048 [] 0, 0) ∧ KnowI n ps [kA P.native p 0] (N + 1) s' := by
 obtain ⟨h1, h2⟩ := h.port K
 have e := comeP (s := s) (k := p) hl (by decide) (by decide) (h.sts p K.ltp) (v := P.native) (by rw [h1]; exact inP_own K.right K.v) ht
 have hst : hearL (s.port p).lim P.native m21 p s.st = [kA P.native p 0] := by
  rw [h1, h.st, hear_first]
  unfold st1
  rw [if_pos K.lims.1]
  rfl
 dsimp only at e
 rw [hst] at e
 have hg := comeS_good h.g (by rw [h.ports]; exact K.ltp : p < s.ports.length) l t
 rw [e] at hg
 refine ⟨{ s with st := [kA P.native p 0], bi := learnH P.native t.ip t.mac t.ok s.bi, c3 := s.c3 + 1 }, ?_, ⟨h.ports, h.age, h.sts, h.stl, rfl, hg⟩⟩
 rw [e, relayed_congr (s := allOn n ps) (s' := s) h.ports h.stl]
theorem hear_second : hearL Q.lim P.native m22 q [kA P.native p 0] = [kA P.native p 0, kB P.native q 0] := by
 have hne : ((p : Int) == (q : Int)) = false := by
  rw [beq_eq_false_iff_ne]
  have := K.ne
  omega
 have hm : (m22 == m21) = false := by decide
 have ho : (onL (q : Int) [kA P.native p 0] : Int) = 0 := by
  unfold onL kA
  simp [hne]
 have hf : findL P.native m22 [kA P.native p 0] = none := by
  unfold findL kA LB.is
  simp [hm]
 unfold hearL
 rw [ho, hf]
 have := K.lims.2
 simp only [this, decide_true, Bool.or_true, if_true]
 unfold putL kA LB.is
 simp only [hm, Bool.and_false, Bool.false_eq_true, if_false]
 rfl
def KnowD.may (_ : KnowD n ps p q P Q) : Bool := Q.hor == 0 || Q.hor != P.hor
theorem know_second {s : BrS} {N : Nat} {l : List UInt8} {t : TalkD} (h : KnowI n ps [kA P.native p 0] N s) (hl : ethParse l = .ok ⟨m21, m22, 2048, [], (outP Q.native P.native 0).1, (outP Q.native P.native 0).2⟩) (ht : t.ask = none) :
  ∃ s', comeS s q l t = (s', if K.may then [(p, ethS m21 m22 2048 [] (-1) 0)] else [], 0) ∧ KnowI n ps [kA P.native p 0, kB P.native q 0] (N + 1) s' := by
 obtain ⟨h1, h2⟩ := h.port K
 have e := comeP (s := s) (k := q) hl (show grp m22 = false by decide) (show (m21 == bpduTo) = false by decide) (h.sts q K.ltq) (v := P.native) (by rw [h2]; exact inP_out K.mem) ht
 have hst : hearL (s.port q).lim P.native m22 q s.st = [kA P.native p 0, kB P.native q 0] := by
  rw [h2, h.st]
  exact hear_second K
 dsimp only at e
 rw [hst, outP_zero] at e
 have hg := comeS_good h.g (by rw [h.ports]; exact K.ltq : q < s.ports.length) l t
 rw [e] at hg
 refine ⟨{ s with st := [kA P.native p 0, kB P.native q 0], bi := learnH P.native t.ip t.mac t.ok s.bi, c3 := s.c3 + 1 }, ?_, ⟨h.ports, h.age, h.sts, h.stl, rfl, hg⟩⟩
 rw [e]
 refine Prod.ext rfl (Prod.ext ?_ rfl)
 dsimp only
 have hfd : findL P.native m21 [kA P.native p 0, kB P.native q 0] = some (kA P.native p 0) := by
  unfold findL kA LB.is
  simp
 have hpq : s.ports.getD p ⟨0, [], 0, 0⟩ = P := h1
 have hqq : s.ports.getD q ⟨0, [], 0, 0⟩ = Q := h2
 have hone : ∀ i, i ≠ p → relF s [kA P.native p 0, kB P.native q 0] q P.native m21 m22 2048 [] 0 i = [] := by
  intro i hi
  unfold relF goesTo
  rw [hfd]
  have ha : atPort (some (kA P.native p 0)) i = false := by
   unfold atPort kA
   dsimp only
   rw [beq_eq_false_iff_ne]
   omega
  have hb : grp m21 = false := by decide
  rw [ha, hb]
  simp
 unfold relayedS
 rw [flat_range_one p hone, if_pos (by rw [h.ports]; exact K.ltp)]
 unfold relF goesTo
 rw [hfd]
 have ha : atPort (some (kA P.native p 0)) p = true := by
  unfold atPort kA
  simp
 rw [ha, Bool.or_true, Bool.and_true]
 have hmy : mayB s q p P.native (s.ports.getD q ⟨0, [], 0, 0⟩).hor = K.may := by
  unfold mayB KnowD.may
  rw [hpq, hqq, h.sts p K.ltp]
  have h3 : (q != p) = true := by
   rw [bne_iff_ne]
   exact Ne.symm K.ne
  have h4 : memberP P.native P.tagged P.native = true := by
   unfold memberP
   rw [K.right]
   have := K.v
   simp [this]
  rw [h3, h4, Bool.eq_iff_iff]
  simp only [beq_self_eq_true, Bool.and_true, Bool.true_and, Bool.or_eq_true, beq_iff_eq, bne_iff_ne]
  constructor
  ·
   rintro (h | h)
   ·
    exact .inl h
   ·
    exact .inr (Ne.symm h)
  ·
   rintro (h | h)
   ·
    exact .inl h
   ·
    exact .inr (Ne.symm h)
 rw [hmy, hpq]
 have hpr : printedS P p P.native m21 m22 2048 [] 0 = [(p, ethS m21 m22 2048 [] (-1) 0)] := by
  have ho : outP P.native P.native 0 = (-1, 0) := by unfold outP; rw [if_pos rfl]
  unfold printedS
  rw [ho]
  rfl
 rw [hpr]
omit K in
theorem know_tick {s : BrS} {N : Nat} {j : Nat} (hj : (j : Int) < n) (h : KnowI n ps [kA P.native p j, kB P.native q j] N s) :
  KnowI n ps (if ((j + 1 : Nat) : Int) < n then [kA P.native p ((j + 1 : Nat) : Int), kB P.native q ((j + 1 : Nat) : Int)] else []) N (tickS s) := by
 refine ⟨h.ports, h.age, h.sts, h.stl, ?_, tickS_good h.g⟩
 unfold tickS
 dsimp only
 rw [h.st, h.age]
 unfold tickL stepL kA kB
 by_cases hx : ((j + 1 : Nat) : Int) < n
 ·
  rw [if_pos hx]
  have h1 : ¬ n ≤ (j : Int) + 1 := by omega
  simp [h1]
 ·
  rw [if_neg hx]
  have h1 : n ≤ (j : Int) + 1 := by omega
  simp [h1]
end
end
section
open Go.RowKit Go.Shelf
set_option maxRecDepth 20000 in
set_option maxHeartbeats 8000000 in
theorem relayKnown_any (pa : Option Addr) (cap : Nat) (rs : List RPortD) (a_ c_ ag : Nat) (w : World) (h : RPortsAt w pa rs) (ha : a_ < 256) (hc : c_ < 256) (hag : ag < 256) :
  Calls Try.prog 11 #[.slice pa rs.length cap, .int .u8 (a_ : Int), .int .u8 (c_ : Int), .int .u8 (ag : Int)] w fun e w' => e = .returned (.bool true) ∧ Below w.heap.size w w' := by
 have hm := h.1
 have hm2 : (rs.length : Int) ≤ 9223372036854775807 := by unfold maxLen at hm; omega
 go_enter Try.func11, Try.ntmps11
 go_wp2_with fail
 (with_reducible refine (awake22_any _).mono ?_)
 rintro e w1 ⟨rfl, b1⟩
 have h1 := h.below b1
 have z1 := b1.size
 go_wp2_with fail
 (with_reducible refine (few22_nil pa cap rs _ h1).mono ?_)
 rintro e w2 hfew
 obtain ⟨⟨fb, rfl, hfb⟩, rfl⟩ := hfew
 cases fb with
 | false =>
  go_wp2_with fail
  (with_reducible refine (awake22_any _).mono ?_)
  rintro e w3 ⟨rfl, b3⟩
  go_wp2_with fail
  go_ret
  exact ⟨rfl, b1.trans (b3.mono z1)⟩
 | true =>
 have h40 := hfb rfl
 clear hfb
 by_cases h0 : rs.length = 0
 ·
  have h00 : (rs.length : Int) = 0 := by omega
  go_wp2_with fail
  (with_reducible refine (awake22_any _).mono ?_)
  rintro e w3 ⟨rfl, b3⟩
  go_wp2_with fail
  go_ret
  exact ⟨rfl, b1.trans (b3.mono z1)⟩
 have h01 : ((rs.length : Int) == 0) = false := by simp; exact fun e => h0 (by rw [e]; rfl)
 have hpos : 0 < rs.length := Nat.pos_of_ne_zero h0
 clear h0
 have hnm := rat_mod ag 20 (by decide)
 obtain ⟨n0, hn0⟩ : ∃ x, ag % 20 = x := ⟨_, rfl⟩
 have hn0l : n0 < 20 := by rw [← hn0]; exact Nat.mod_lt _ (by decide)
 rw [hn0] at hnm
 have hnm2 : (ag : Int).tmod 20 = (n0 : Int) := hnm
 obtain ⟨n, hn⟩ : ∃ x, n0 + 1 = x := ⟨_, rfl⟩
 have hnI : (1 : Int) + (n0 : Int) = (n : Int) := by omega
 have hn1 : 1 ≤ n := by omega
 have hn20 : n ≤ 20 := by omega
 clear hn0 hnm hn
 go_wp2_with fail
 (with_reducible refine (of22_any pa cap rs _ h1 (by omega)).mono ?_)
 rintro e w3 ⟨⟨u, rfl, pa', cap', rfl, hpo⟩, b3⟩
 have z3 := b3.size
 have B3 := b1.trans (b3.mono z1)
 have zB3 := B3.size
 have hN := rNew_any (n : Int) pa' cap' (rs.map (·.p)) w3 hpo (by rw [List.length_map]; omega)
 rw [List.length_map] at hN
 have HN := Lib.hid hN
 clear hN
 go_wp2_with fail
 (with_reducible refine HN.out.mono ?_)
 rintro e w4 (⟨_, rfl, b4⟩ | ⟨hok, A, rfl, hnb⟩)
 ·
  go_wp2_with fail
  go_ret
  exact ⟨rfl, B3.trans (b4.mono zB3)⟩
 have hmu := lo_muts hnb.lo
 have hbr := hnb.br
 have c4 : Below w3.heap.size w3 w4 := hnb.below
 obtain ⟨ps, hps⟩ : ∃ x, rs.map (·.p) = x := ⟨_, rfl⟩
 have hpl : ps.length = rs.length := by rw [← hps, List.length_map]
 rw [hps] at hbr hok hpo
 have hgd := newG (n : Int) ps hok
 have hn32' : ps.length ≤ 32 := hgd.1.n32
 have hplI : (rs.length : Int) ≤ 32 := by omega
 have hpmod := rat_mod a_ rs.length hpos
 obtain ⟨p, hpp⟩ : ∃ x, a_ % rs.length = x := ⟨_, rfl⟩
 have hpL : p < rs.length := by rw [← hpp]; exact Nat.mod_lt _ hpos
 rw [hpp] at hpmod
 have hqmod := rat_mod c_ rs.length hpos
 obtain ⟨q, hqq⟩ : ∃ x, c_ % rs.length = x := ⟨_, rfl⟩
 have hqL : q < rs.length := by rw [← hqq]; exact Nat.mod_lt _ hpos
 rw [hqq] at hqmod
 have hrn : ¬ rs = [] := by intro e; rw [e] at hpos; simp at hpos
 have hwa : IntKind.i64.wrap (a_ : Int) = (a_ : Int) := wraps_i64 _ (by omega) (by omega)
 have hwc : IntKind.i64.wrap (c_ : Int) = (c_ : Int) := wraps_i64 _ (by omega) (by omega)
 have hpLI : (p : Int) < (rs.length : Int) := by omega
 have hqLI : (q : Int) < (rs.length : Int) := by omega
 obtain ⟨pb, po, hpa, hpb⟩ : ∃ pb po, pa' = some ⟨pb, po, none⟩ ∧ pb < w3.heap.size := by
  obtain ⟨b, off, _, _, e, hl, _⟩ := hpo.get (k := p) (by omega)
  exact ⟨b, off, e, hl⟩
 subst hpa
 have hpg : ∀ i (hi : i < ps.length), ∃ ta tc, ∀ W, Below w3.heap.size w3 W → W.rangeAt pb (po + i * 4) (portV ta tc ps[i]) ∧ IntsAt W ta ps[i].tagged := by
  intro i hi
  obtain ⟨b, off, ta, tc, e, _, hr⟩ := hpo.get hi
  cases e
  exact ⟨ta, tc, hr⟩
 obtain ⟨pta, ptc, hrp⟩ := hpg p (by omega)
 obtain ⟨qta, qtc, hrq⟩ := hpg q (by omega)
 obtain ⟨P, hP⟩ : ∃ x, ps[p] = x := ⟨_, rfl⟩
 obtain ⟨Q, hQ⟩ : ∃ x, ps[q] = x := ⟨_, rfl⟩
 rw [hP] at hrp
 rw [hQ] at hrq
 have hP2 : ps[p]? = some P := by rw [List.getElem?_eq_getElem (by omega)]; exact congrArg some hP
 have hQ2 : ps[q]? = some Q := by rw [List.getElem?_eq_getElem (by omega)]; exact congrArg some hQ
 have HRP := Lib.hid hrp
 have HRQ := Lib.hid hrq
 have HP2 := Lib.hid hP2
 have HQ2 := Lib.hid hQ2
 have HBR := Lib.hid hbr
 have HOK := Lib.hid hok
 have HMU := Lib.hid hmu
 clear hbr hok hnb hmu HN hps hgd hpo hpg hrp hrq hP hQ hP2 hQ2 hpp hqq
 go_wp2_with fail
 go_loopw [13] (fun i wr => ∃ j : Nat, j ≤ rs.length ∧ i = .int .i64 j ∧ BrT wr A (sJ (n : Int) ps (fun _ => 3) j) ∧ Below w3.heap.size w3 wr) (fun i _ => rs.length - (intOf i).toNat)
 case atStart => exact ⟨0, by omega, rfl, by rw [sJ_zero]; exact HBR.out, c4⟩
 case round =>
  clear HBR
  obtain ⟨j, hj, rfl, hT, SS⟩ := hrel
  have zS := SS.size
  by_cases hlt : j < rs.length
  ·
   have hltI : (j : Int) < (rs.length : Int) := by omega
   have hS := rStateJ_any (f := fun _ => 3) wr HOK.out (by omega : j < ps.length) (by decide) (by decide) hT
   have HS := Lib.hid hS
   clear hS hT
   go_wp2_with fail
   (with_reducible refine HS.out.mono ?_)
   rintro e w5 ⟨rfl, b5, t5⟩
   have HT := Lib.hid t5
   have S5 := SS.trans (b5.below zS HMU.out)
   clear t5 HS b5
   go_wp2_with fail
   go_roundw
   case rel => exact ⟨j + 1, by omega, by simp, HT.out, S5⟩
   case measure => simp [intOf]; omega
  ·
   obtain rfl : j = rs.length := by omega
   have hltI : ¬ (rs.length : Int) < (rs.length : Int) := by omega
   have HT := Lib.hid (show BrT wr A (allOn (n : Int) ps) by unfold allOn; rw [hpl]; exact hT)
   have hG : GrowP fun W => Below w3.heap.size w3 W := grow_base w3
   clear hT
   go_wp2_with fail
   refine wp_region_beginX [] (fun W => Below w3.heap.size w3 W) hG rfl (by simp only [Rws]; (repeat (first | exact trivial | refine ⟨(by first | assumption | (simp [go_sem, *]; done)), (by first | omega | (simp; done) | (simp; omega)), ?_⟩))) (SS) (fun hS => ?_)
   refine sp 0 hG hS ?_
   refine sp 1 hG hS ?_
   refine sp 2 hG hS ?_
   refine sp 3 hG hS ?_
   refine sp 4 hG hS ?_
   refine sp 5 hG hS ?_
   refine sp 6 hG hS ?_
   refine sp 7 hG hS ?_
   refine sp 8 hG hS ?_
   refine sp 9 hG hS ?_
   refine sp 10 hG hS ?_
   refine sp 11 hG hS ?_
   refine wpAnyR_done (by kernel_rfl) (fun w5 bw5 => ?_) _
   have b5 := below_step (Below.drew (Below.refl _ _)) bw5
   have S5 := SS.trans (b5.mono zS)
   have HT5 := Lib.hid (HT.out.below b5)
   have z5 := S5.size
   clear bw5 b5 SS HT zS hS
   have gv : ∀ W, Below w3.heap.size w3 W → W.cell? ⟨pb, po + p * 4, none⟩ = some (.int .i64 P.native) := fun W hW => (HRP.out W hW).1 0 _ rfl
   have gl : ∀ W, Below w3.heap.size w3 W → W.cell? ⟨pb, po + p * 4 + 3, none⟩ = some (.int .i64 P.lim) := fun W hW => (HRP.out W hW).1 3 _ rfl
   have gh : ∀ W, Below w3.heap.size w3 W → W.cell? ⟨pb, po + p * 4 + 2, none⟩ = some (.int .i64 P.hor) := fun W hW => (HRP.out W hW).1 2 _ rfl
   have ql : ∀ W, Below w3.heap.size w3 W → W.cell? ⟨pb, po + q * 4 + 3, none⟩ = some (.int .i64 Q.lim) := fun W hW => (HRQ.out W hW).1 3 _ rfl
   have qh : ∀ W, Below w3.heap.size w3 W → W.cell? ⟨pb, po + q * 4 + 2, none⟩ = some (.int .i64 Q.hor) := fun W hW => (HRQ.out W hW).1 2 _ rfl
   have qload : ∀ W, Below w3.heap.size w3 W → (loadS 72 (.pointer (some ⟨pb, po + q * 4, none⟩))).run Try.prog W = .ok (.agg #[Value.int .i64 Q.native, Value.slice qta Q.tagged.length qtc]) W := fun W hW => by
    have h4 := (HRQ.out W hW).1
    exact run_loadS_at (l := [Value.int .i64 Q.native, Value.slice qta Q.tagged.length qtc]) (fun j u hj => h4 j u (by
     match j, hj with
     | 0, hj => exact hj
     | 1, hj => exact hj)) rfl
   obtain ⟨op_, hop⟩ : ∃ o, po + p * 4 = o := ⟨_, rfl⟩
   obtain ⟨oq, hoq⟩ : ∃ o, po + q * 4 = o := ⟨_, rfl⟩
   rw [hop] at gv gl gh
   rw [hoq] at ql qh qload
   have HME := Lib.hid (fun W (hW : Below w3.heap.size w3 W) => vMember_any Q.native qta qtc Q.tagged P.native W (HRQ.out W hW).2)
   obtain ⟨mb, hmb⟩ : ∃ x, memberP Q.native Q.tagged P.native = x := ⟨_, rfl⟩
   rw [hmb] at HME
   have gv5 := gv w5 S5
   have gl5 := gl w5 S5
   have ql5 := ql w5 S5
   have qld5 := qload w5 S5
   by_cases hpq : p = q
   ·
    have e1 : ((p : Int) == (q : Int)) = true := by simp [hpq]
    clear hpq
    go_wp2_with fail
    go_ret
    exact ⟨rfl, B3.trans (S5.mono zB3)⟩
   have e1 : ((p : Int) == (q : Int)) = false := beq_eq_false_iff_ne.2 (by omega)
   by_cases hv : P.native = 0
   ·
    have e2 : (P.native == 0) = true := by simp [hv]
    clear hv
    go_wp2_with fail
    go_ret
    exact ⟨rfl, B3.trans (S5.mono zB3)⟩
   have e2 : (P.native == 0) = false := by simpa using hv
   by_cases hlp : P.lim = 0
   ·
    have e3 : (P.lim == 0) = true := by simp [hlp]
    clear hlp
    go_wp2_with fail
    go_ret
    exact ⟨rfl, B3.trans (S5.mono zB3)⟩
   have e3 : (P.lim == 0) = false := by simpa using hlp
   by_cases hlq : Q.lim = 0
   ·
    have e4 : (Q.lim == 0) = true := by simp [hlq]
    clear hlq
    go_wp2_with fail
    go_ret
    exact ⟨rfl, B3.trans (S5.mono zB3)⟩
   have e4 : (Q.lim == 0) = false := by simpa using hlq
   cases mb with
   | false =>
    go_wp2_with fail
    (with_reducible refine (HME.out _ S5).mono ?_)
    rintro e w6 ⟨rfl, b6⟩
    go_wp2_with fail
    go_ret
    exact ⟨rfl, B3.trans ((S5.trans (b6.mono z5)).mono zB3)⟩
   | true =>
   have K : KnowD (n : Int) ps p q P Q := ⟨HOK.out, HP2.out, HQ2.out, hpq, hv, hlp, hlq, hmb⟩
   have HK := Lib.hid K
   clear K hpq hv hlp hlq
   go_wp2_with fail
   (with_reducible refine (HME.out _ S5).mono ?_)
   rintro e w6 ⟨rfl, b6⟩
   have S6 := S5.trans (b6.mono z5)
   have z6 := S6.size
   have HT6 := Lib.hid (HT5.out.below b6)
   clear b6 S5 HT5 gv5 gl5 ql5 qld5 z5
   obtain ⟨V, hV⟩ : ∃ x, (w6.alloc (.cells (u8v mac0).toArray 30)).alloc (.cells (u8v mac0).toArray 30) = x := ⟨_, rfl⟩
   have zV : V.heap.size = w6.heap.size + 1 + 1 := by rw [← hV]; simp
   have rV1 : row V w6.heap.size = (u8v mac0).toArray := by rw [← hV, row_alloc_past _ _ (by simp)]; exact row_alloc_at _ _ _ rfl
   have rV2 : row V (w6.heap.size + 1) = (u8v mac0).toArray := by rw [← hV]; exact row_alloc_at _ _ _ (by simp)
   have bV : Below w6.heap.size w6 V := by rw [← hV]; exact Below.alloc (Below.alloc (Below.refl _ _) (Nat.le_refl _) _) (by simp) _
   obtain ⟨w7, hw7⟩ : ∃ x, (V.setRow w6.heap.size (u8v m21).toArray).setRow (w6.heap.size + 1) (u8v m22).toArray = x := ⟨_, rfl⟩
   have b7 : Below w6.heap.size w6 w7 := by rw [← hw7]; exact Below.setRow (Below.setRow bV (Nat.le_refl _) _) (by omega) _
   have z7 : w7.heap.size = w6.heap.size + 1 + 1 := by rw [← hw7, setRow_size, setRow_size]; exact zV
   have hs1 : 0 < (row V w6.heap.size).size := by rw [rV1]; simp
   have rX7 : row w7 w6.heap.size = (u8v m21).toArray := by rw [← hw7, row_setRow_other _ _ _ (by omega)]; exact row_setRow_same hs1 (by rw [rV1]; simp)
   have hx2 : row (V.setRow w6.heap.size (u8v m21).toArray) (w6.heap.size + 1) = (u8v mac0).toArray := by rw [row_setRow_other _ _ _ (by omega)]; exact rV2
   have rY7 : row w7 (w6.heap.size + 1) = (u8v m22).toArray := by rw [← hw7]; exact row_setRow_same (by rw [hx2]; simp) (by rw [hx2]; simp)
   have k1 : List.take 1 (u8v m2) ++ Value.int .u8 1 :: List.drop 2 (u8v m2) = u8v m21 := rfl
   have k2 : List.take 1 (u8v m2) ++ Value.int .u8 2 :: List.drop 2 (u8v m2) = u8v m22 := rfl
   obtain ⟨t1, htc1, hta1⟩ := talk_any m22 m21 2048 [] (by simp)
   obtain ⟨t2, htc2, hta2⟩ := talk_any m21 m22 2048 [] (by simp)
   have hr1 : rightB 2048 (-1) 0 ([] : List UInt8).length = true := by decide
   have hpa1 := ethParse_print m22 m21 2048 [] (-1) 0 hr1
   have hsm1 := (ethS_small m22 m21 2048 [] (-1) 0 hr1).1
   have hvo := fun W (hW : Below w3.heap.size w3 W) => vOut_any Q.native qta qtc Q.tagged P.native m21 m22 2048 [] 0 W (HRQ.out W hW).2 HK.out.mem (by decide) (by decide)
   have hr2 : rightB 2048 (outP Q.native P.native 0).1 (outP Q.native P.native 0).2 ([] : List UInt8).length = true := by
    have hv := member_range HK.out.mem
    unfold outP
    by_cases e : P.native = Q.native
    ·
     rw [if_pos e]; rfl
    ·
     rw [if_neg e]
     simp [rightB]
     omega
   have hpa2 := ethParse_print m21 m22 2048 [] (outP Q.native P.native 0).1 (outP Q.native P.native 0).2 hr2
   have hsm2 := (ethS_small m21 m22 2048 [] (outP Q.native P.native 0).1 (outP Q.native P.native 0).2 hr2).1
   obtain ⟨s1, hc1, hi1⟩ := know_first HK.out (know_start HK.out) hpa1 (hta1 (by decide))
   obtain ⟨s2, hc2, hi2⟩ := know_second HK.out hi1 hpa2 (hta2 (by decide))
   have hC1 := fun W (hW : BrT W A (allOn (n : Int) ps)) => rCome_any W hW (Nat.zero_le _) (know_start HK.out).g p HK.out.ltp (ethS m22 m21 2048 [] (-1) 0) (by omega) t1 (fun d hd => by rw [hpa1] at hd; cases hd; exact htc1)
   have hC2 := fun W (hW : BrT W A s1) => rCome_any W hW (by decide) hi1.g q (by rw [hi1.ports]; exact HK.out.ltq) (ethS m21 m22 2048 [] (outP Q.native P.native 0).1 (outP Q.native P.native 0).2) (by omega) t2 (fun d hd => by rw [hpa2] at hd; cases hd; exact htc2)
   rw [hc1] at hC1
   rw [hc2] at hC2
   obtain ⟨od, hod⟩ : ∃ x, outP Q.native P.native 0 = x := ⟨_, rfl⟩
   rw [hod] at hvo hr2 hpa2 hsm2 hC2
   obtain ⟨ov, op⟩ := od
   dsimp only at hvo hr2 hC1 hC2
   have HPR1 := Lib.hid (ethPrint_any m22 m21 2048 [] (-1) 0 w7 hr1)
   have HPR2 := Lib.hid (fun W => ethPrint_any m21 m22 2048 [] ov op W hr2)
   obtain ⟨ln1, hln1⟩ : ∃ x, ethS m22 m21 2048 [] (-1) 0 = x := ⟨_, rfl⟩
   obtain ⟨ln2, hln2⟩ : ∃ x, ethS m21 m22 2048 [] ov op = x := ⟨_, rfl⟩
   rw [hln1] at HPR1 hC1
   rw [hln2] at HPR2 hC2
   unfold ethV at HPR1 HPR2 hvo
   unfold frameV at hvo
   have HVO := Lib.hid hvo
   have HC1 := Lib.hid hC1
   have HC2 := Lib.hid hC2
   have HI2 := Lib.hid hi2
   have HL1 := Lib.hid hln1
   have HTA1 := Lib.hid hta1
   have HTC1 := Lib.hid htc1
   clear hvo hC1 hC2 hi2 hi1 hc1 hc2 hpa1 hpa2 hsm1 hsm2 hr1 hr2 hln1 hln2 hta1 htc1 hta2 htc2 hod
   have S7 := S6.trans (b7.mono z6)
   have HT7 := Lib.hid (HT6.out.below b7)
   have z37 := S7.size
   clear HT6 S6
   go_wp2_with fail
   clear k1 k2 hV hx2 rV1 rV2 bV zV hs1 hw7 b7
   (with_reducible refine HPR1.out.mono ?_)
   rintro e w8 ⟨rfl, b8⟩
   have z8 := b8.size
   have S8 := S7.trans (b8.mono z37)
   have rX8 := (row_below b8 (by omega)).trans rX7
   have rY8 := (row_below b8 (by omega)).trans rY7
   have HT8 := Lib.hid (HT7.out.below b8)
   obtain ⟨X, hX⟩ : ∃ x, w6.heap.size = x := ⟨_, rfl⟩
   rw [hX] at rX8 rY8
   have zX8 : X < w8.heap.size := by omega
   have zY8 : X + 1 < w8.heap.size := by omega
   have z38 := S8.size
   clear HT7 HPR1 rX7 rY7 S7 b8
   go_wp2_with fail
   (try rw [hX])
   refine wp_region_beginX [(X, (u8v m21).toArray), (X + 1, (u8v m22).toArray)] (fun W => Below w3.heap.size w3 W) hG rfl (by simp only [Rws]; (repeat (first | exact trivial | refine ⟨(by first | assumption | (simp [go_sem, *]; done)), (by first | omega | (simp; done) | (simp; omega)), ?_⟩))) (S8) (fun hS => ?_)
   refine sp 0 hG hS ?_
   refine sp 1 hG hS ?_
   refine sp 2 hG hS ?_
   refine sp 3 hG hS ?_
   refine sp 4 hG hS ?_
   refine sp 5 hG hS ?_
   refine sp 6 hG hS ?_
   refine sp 7 hG hS ?_
   refine sp 8 hG hS ?_
   refine sc 9 (v := ?_) hG hS ?_ ?_
   rotate_left
   ·
    intro w' hS'
    obtain ⟨hS', hX'⟩ := hS'
    simp only [Rws] at hS'
    go_simp
    with_reducible refine (HVO.out _ hX').mono ?_
    rintro e w'' ⟨rfl, hb⟩
    exact ⟨_, rfl, by rfl, hb⟩
   refine sp 10 hG hS ?_
   refine sp 11 hG hS ?_
   refine sp 12 hG hS ?_
   refine wpAnyS_var (XS.grow hG) (i := 13) (k := 14) (zi := (u8v mac0 ++ (u8v mac0 ++ [Value.int .i64 0, .string ⟨#[]⟩, .int .i64 0, .int .i64 0])).toArray) (cA := (u8v m21 ++ (u8v m22 ++ [Value.int .i64 2048, .string ⟨#[]⟩, .int .i64 ov, .int .i64 op])).toArray) (by simp only [List.getElem?_toArray, List.getElem?_cons_succ, List.getElem?_cons_zero]; rfl) (by simp only [List.getElem?_toArray, List.getElem?_cons_succ, List.getElem?_cons_zero]; rfl) ⟨rfl, rfl, fun a w => by go_simp; (refine ⟨?_, ?_⟩ <;> rfl)⟩ (by kernel_rfl) (by kernel_rfl) rfl rfl (by simp [*]) (by simp) (fun A w1 hr => by
    simp only [Act.put, List.setIfInBounds_toArray, List.set_cons_zero, List.set_cons_succ, ptr]
    go_simp
    try rfl) hS (fun Z w9 gZ zZ bw9 rZ hS => ?_)
   (try simp only [Act.put, List.setIfInBounds_toArray, List.set_cons_zero, List.set_cons_succ])
   simp only [ptr]
   refine sp 15 hG hS ?_
   refine wpAnyR_done (by kernel_rfl) (fun w10 bw10 => ?_) _
   have z10 := bw10.size
   have b9 := below_step (Below.drew (Below.refl _ _)) bw9
   have b10 := b9.trans (bw10.mono b9.size)
   have S10 := S8.trans (b10.mono z38)
   have rZ10 := (row_below bw10 (by omega)).trans rZ
   have HT10 := Lib.hid (HT8.out.below b10)
   have z310 := S10.size
   have zZ10 : Z < w10.heap.size := by omega
   clear hS bw9 bw10 b9 b10 S8 rX8 rY8 HT8 rZ
   go_wp2_with fail
   (with_reducible refine (HPR2.out _).mono ?_)
   rintro e w11 ⟨rfl, b11⟩
   have S11 := S10.trans (b11.mono z310)
   have HT11 := Lib.hid (HT10.out.below b11)
   have z311 := S11.size
   clear b11 HT10 S10 rZ10 HPR2
   obtain ⟨O1, hO1⟩ : ∃ x, relayedS (allOn (n : Int) ps) [kA P.native p 0] p P.native m22 m21 2048 [] 0 = x := ⟨_, rfl⟩
   have HO1 := Lib.hid hO1
   have hC1 := HC1.out
   rw [hO1] at hC1
   have HC1' := Lib.hid hC1
   clear hC1 HC1 hO1
   go_wp2_with fail
   (with_reducible refine (HC1'.out _ HT11.out).mono ?_)
   rintro e w12 ⟨⟨u1, rfl, hown1⟩, b12, t12⟩
   obtain ⟨ua1, uc1, e1', _⟩ := hown1.elems
   rw [List.length_map] at e1'
   subst e1'
   have S12 := S11.trans (b12.below z311 HMU.out)
   have HT12 := Lib.hid t12
   have z312 := S12.size
   clear hown1 b12 t12 HC1' HT11 S11
   go_wp2_with fail
   (with_reducible refine (HC2.out _ HT12.out).mono ?_)
   rintro e w13 ⟨⟨u2, rfl, hown2⟩, b13, t13⟩
   obtain ⟨ua2, uc2, e2', hel2⟩ := hown2.elems
   rw [List.length_map] at e2'
   subst e2'
   have S13 := S12.trans (b13.below z312 HMU.out)
   have HT13 := Lib.hid t13
   have z313 := S13.size
   have hbmv : HK.out.may = (Q.hor == 0 || Q.hor != P.hor) := rfl
   obtain ⟨bm, hbm⟩ : ∃ x, HK.out.may = x := ⟨_, rfl⟩
   rw [hbm] at hel2 hbmv ⊢
   have HEL := Lib.hid hel2
   clear hown2 b13 t13 HC2 HT12 S12 hel2 hbm
   have hfin : KnowI (n : Int) ps (if ((0 : Nat) : Int) < (n : Int) then [kA P.native p ((0 : Nat) : Int), kB P.native q ((0 : Nat) : Int)] else []) 2 s2 := by
    rw [if_pos (by omega)]
    exact HI2.out
   have HFN := Lib.hid hfin
   clear hfin HI2
   by_cases hz : Q.hor = 0
   ·
    have f1 : (Q.hor == 0) = true := by simp [hz]
    obtain rfl : bm = true := by rw [hbmv, f1]; rfl
    clear hz hbmv
    go_wp2_with fail
    refine wp_region_beginX [] (fun W => Below w3.heap.size w3 W) hG rfl (by simp only [Rws]; (repeat (first | exact trivial | refine ⟨(by first | assumption | (simp [go_sem, *]; done)), (by first | omega | (simp; done) | (simp; omega)), ?_⟩))) (S13) (fun hS => ?_)
    refine sp 0 hG hS ?_
    refine sp 1 hG hS ?_
    refine sp 2 hG hS ?_
    refine sp 3 hG hS ?_
    refine sp 4 hG hS ?_
    refine sp 5 hG hS ?_
    refine sp 6 hG hS ?_
    refine sn 7 hG hS ?_
    refine sn 8 hG hS ?_
    refine sn 9 hG hS ?_
    refine sn 10 hG hS ?_
    refine sn 11 hG hS ?_
    refine sn 12 hG hS ?_
    refine sn 13 hG hS ?_
    refine sn 14 hG hS ?_
    refine sn 15 hG hS ?_
    refine sn 16 hG hS ?_
    refine sn 17 hG hS ?_
    refine sp 18 hG hS ?_
    refine sp 19 hG hS ?_
    refine wpAnyR_done (by kernel_rfl) (fun w14 bw14 => ?_) _
    have b14 := below_step (Below.drew (Below.refl _ _)) bw14
    have S14 := S13.trans (b14.mono z313)
    have HT14 := Lib.hid (HT13.out.below b14)
    have z314 := S14.size
    have z1314 := b14.size
    clear hS bw14 HT13
    have hl14 : ln1.length = 14 := by rw [← HL1.out]; rfl
    have hl12 : (12 : Int) ≤ (ln1.length : Int) := by omega
    have hl6 : (6 : Int) ≤ (ln1.length : Int) := by omega
    obtain ⟨bb, bo, hbe, hbl, hbc⟩ := HEL.out.2 0 _ rfl
    subst hbe
    have hbW : ∀ W, Below w14.heap.size w14 W → blk W bb = blk w13 bb := fun W hW => blk_below (b14.trans (hW.mono z1314)) hbl
    have gb0 : ∀ W, Below w14.heap.size w14 W → W.cell? ⟨bb, bo, none⟩ = some (.int .i64 (p : Int)) := fun W hW => (hbc W (hbW W hW)) 0 _ rfl
    have hE : ethS m21 m22 2048 [] (-1) 0 = List.take 6 (List.drop 6 ln1) ++ (List.take 6 ln1 ++ List.drop 12 ln1) := by rw [← HL1.out]; decide +kernel
    have gb1 : ∀ W, Below w14.heap.size w14 W → W.cell? ⟨bb, bo + 1, none⟩ = some (.string ⟨(List.take 6 (List.drop 6 ln1) ++ (List.take 6 ln1 ++ List.drop 12 ln1)).toArray⟩) := fun W hW => by
     rw [← hE]
     exact (hbc W (hbW W hW)) 1 _ rfl
    clear hE
    have hG14 : GrowP fun W => Below w14.heap.size w14 W := grow_base w14
    clear hG hbc hbW
    have hG := hG14
    go_wp2_with fail
    refine wp_region_beginX [] (fun W => Below w14.heap.size w14 W) hG rfl (by simp only [Rws]; (repeat (first | exact trivial | refine ⟨(by first | assumption | (simp [go_sem, *]; done)), (by first | omega | (simp; done) | (simp; omega)), ?_⟩))) ((Below.refl w14.heap.size w14)) (fun hS => ?_)
    refine sp 0 hG hS ?_
    refine sp 1 hG hS ?_
    refine sp 2 hG hS ?_
    refine sp 3 hG hS ?_
    refine sp 4 hG hS ?_
    refine sp 5 hG hS ?_
    refine sp 6 hG hS ?_
    refine sp 7 hG hS ?_
    refine sp 8 hG hS ?_
    refine sp 9 hG hS ?_
    refine sp 10 hG hS ?_
    refine sp 11 hG hS ?_
    refine sp 12 hG hS ?_
    refine sp 13 hG hS ?_
    refine sp 14 hG hS ?_
    refine sp 15 hG hS ?_
    refine sp 16 hG hS ?_
    refine sp 17 hG hS ?_
    refine sp 18 hG hS ?_
    refine sp 19 hG hS ?_
    refine sp 20 hG hS ?_
    refine sp 21 hG hS ?_
    refine sp 22 hG hS ?_
    refine sp 23 hG hS ?_
    refine sp 24 hG hS ?_
    refine sp 25 hG hS ?_
    refine sp 26 hG hS ?_
    refine sp 27 hG hS ?_
    refine sp 28 hG hS ?_
    refine sp 29 hG hS ?_
    refine sp 30 hG hS ?_
    refine sp 31 hG hS ?_
    refine sp 32 hG hS ?_
    refine sp 33 hG hS ?_
    refine sp 34 hG hS ?_
    refine sp 35 hG hS ?_
    refine sp 36 hG hS ?_
    refine sp 37 hG hS ?_
    refine sp 38 hG hS ?_
    refine sp 39 hG hS ?_
    refine sp 40 hG hS ?_
    refine sn 41 hG hS ?_
    refine sn 42 hG hS ?_
    refine sn 43 hG hS ?_
    refine sp 44 hG hS ?_
    refine sp 45 hG hS ?_
    refine wpAnyR_done (by kernel_rfl) (fun w15 bw15 => ?_) _
    have b15 := below_step (Below.drew (Below.refl _ _)) bw15
    have S15 := S14.trans (b15.mono z314)
    have HT15 := Lib.hid (HT14.out.below b15)
    clear hS bw15 HT14 S14 b15 b14
    go_wp2_with fail
    go_loopw [30] (fun i wr => ∃ j : Nat, j ≤ n ∧ i = .int .i64 j ∧ ∃ s, KnowI (n : Int) ps (if (j : Int) < (n : Int) then [kA P.native p (j : Int), kB P.native q (j : Int)] else []) 2 s ∧ BrT wr A s ∧ Below w3.heap.size w3 wr) (fun i _ => n - (intOf i).toNat)
    case atStart => exact ⟨0, by omega, rfl, s2, HFN.out, HT15.out, S15⟩
    case round =>
     clear HFN HT15 S15
     obtain ⟨j, hj, rfl, s, hI, hT, S16⟩ := hrel
     have z16 := S16.size
     by_cases hlt : j < n
     ·
      have hltI : (j : Int) < (n : Int) := by omega
      rw [if_pos hltI] at hI
      have hI2 := know_tick hltI hI
      have hTk := rTick_any wr hT hI.g.std (Nat.le_trans hI.g.stn (by omega)) hI.g.sta hI.g.bid hI.g.bia
      have HTK := Lib.hid hTk
      have HI2 := Lib.hid hI2
      clear hI hTk hT hI2
      go_wp2_with fail
      (with_reducible refine HTK.out.mono ?_)
      rintro e w17 ⟨rfl, b17, t17⟩
      have S17 := S16.trans (b17.below z16 HMU.out)
      have HT17 := Lib.hid t17
      clear b17 t17 HTK
      go_wp2_with fail
      go_roundw
      case rel => exact ⟨j + 1, by omega, by simp, tickS s, HI2.out, HT17.out, S17⟩
      case measure => simp [intOf]; omega
     ·
      obtain rfl : j = n := by omega
      have hltI : ¬ (j : Int) < (j : Int) := by omega
      rw [if_neg hltI] at hI
      have hr1 : rightB 2048 (-1) 0 ([] : List UInt8).length = true := by decide
      have hpa1 := ethParse_print m22 m21 2048 [] (-1) 0 hr1
      have hsm1 := (ethS_small m22 m21 2048 [] (-1) 0 hr1).1
      rw [HL1.out] at hpa1 hsm1
      obtain ⟨s4, hc4, _⟩ := know_first HK.out hI hpa1 (HTA1.out (by decide))
      have hC4 := rCome_any wr hT (by decide) hI.g p (by rw [hI.ports]; exact HK.out.ltp) ln1 (by omega) t1 (fun d hd => by rw [hpa1] at hd; cases hd; exact HTC1.out)
      rw [hc4, HO1.out] at hC4
      have HC4 := Lib.hid hC4
      clear hC4 hc4 hpa1 hsm1 hI hT hr1
      go_wp2_with fail
      (with_reducible refine HC4.out.mono ?_)
      rintro e w17 ⟨⟨u4, rfl, hown4⟩, b17, _⟩
      obtain ⟨ua4, uc4, e4', _⟩ := hown4.elems
      rw [List.length_map] at e4'
      subst e4'
      have S17 := S16.trans (b17.below z16 HMU.out)
      clear hown4 b17 HC4
      go_wp2_with fail
      go_ret
      exact ⟨by simp, B3.trans (S17.mono zB3)⟩
   have f1 : (Q.hor == 0) = false := by simpa using hz
   by_cases hz2 : Q.hor = P.hor
   ·
    have f2 : (Q.hor != P.hor) = false := by simp [hz2]
    obtain rfl : bm = false := by rw [hbmv, f1, f2]; rfl
    clear hz hz2 hbmv
    go_wp2_with fail
    refine wp_region_beginX [] (fun W => Below w3.heap.size w3 W) hG rfl (by simp only [Rws]; (repeat (first | exact trivial | refine ⟨(by first | assumption | (simp [go_sem, *]; done)), (by first | omega | (simp; done) | (simp; omega)), ?_⟩))) (S13) (fun hS => ?_)
    refine sp 0 hG hS ?_
    refine sp 1 hG hS ?_
    refine sp 2 hG hS ?_
    refine sp 3 hG hS ?_
    refine sp 4 hG hS ?_
    refine sp 5 hG hS ?_
    refine sp 6 hG hS ?_
    refine sp 7 hG hS ?_
    refine sp 8 hG hS ?_
    refine sp 9 hG hS ?_
    refine sp 10 hG hS ?_
    refine sp 11 hG hS ?_
    refine sp 12 hG hS ?_
    refine sp 13 hG hS ?_
    refine sp 14 hG hS ?_
    refine sp 15 hG hS ?_
    refine sp 16 hG hS ?_
    refine sp 17 hG hS ?_
    refine sp 18 hG hS ?_
    refine sp 19 hG hS ?_
    refine wpAnyR_done (by kernel_rfl) (fun w14 bw14 => ?_) _
    have b14 := below_step (Below.drew (Below.refl _ _)) bw14
    have S14 := S13.trans (b14.mono z313)
    have HT14 := Lib.hid (HT13.out.below b14)
    have z314 := S14.size
    have z1314 := b14.size
    clear hS bw14 HT13
    have hG14 : GrowP fun W => Below w14.heap.size w14 W := grow_base w14
    clear hG HEL
    have hG := hG14
    go_wp2_with fail
    refine wp_region_beginX [] (fun W => Below w14.heap.size w14 W) hG rfl (by simp only [Rws]; (repeat (first | exact trivial | refine ⟨(by first | assumption | (simp [go_sem, *]; done)), (by first | omega | (simp; done) | (simp; omega)), ?_⟩))) ((Below.refl w14.heap.size w14)) (fun hS => ?_)
    refine sp 0 hG hS ?_
    refine sp 1 hG hS ?_
    refine sp 2 hG hS ?_
    refine sp 3 hG hS ?_
    refine sp 4 hG hS ?_
    refine sp 5 hG hS ?_
    refine sp 6 hG hS ?_
    refine sp 7 hG hS ?_
    refine sp 8 hG hS ?_
    refine sn 9 hG hS ?_
    refine sn 10 hG hS ?_
    refine sn 11 hG hS ?_
    refine sn 12 hG hS ?_
    refine sn 13 hG hS ?_
    refine sn 14 hG hS ?_
    refine sn 15 hG hS ?_
    refine sn 16 hG hS ?_
    refine sn 17 hG hS ?_
    refine sn 18 hG hS ?_
    refine sn 19 hG hS ?_
    refine sn 20 hG hS ?_
    refine sn 21 hG hS ?_
    refine sn 22 hG hS ?_
    refine sn 23 hG hS ?_
    refine sn 24 hG hS ?_
    refine sn 25 hG hS ?_
    refine sn 26 hG hS ?_
    refine sn 27 hG hS ?_
    refine sn 28 hG hS ?_
    refine sn 29 hG hS ?_
    refine sn 30 hG hS ?_
    refine sn 31 hG hS ?_
    refine sn 32 hG hS ?_
    refine sn 33 hG hS ?_
    refine sn 34 hG hS ?_
    refine sp 35 hG hS ?_
    refine sp 36 hG hS ?_
    refine sp 37 hG hS ?_
    refine sp 38 hG hS ?_
    refine sp 39 hG hS ?_
    refine sp 40 hG hS ?_
    refine sp 41 hG hS ?_
    refine sp 42 hG hS ?_
    refine sp 43 hG hS ?_
    refine sp 44 hG hS ?_
    refine sp 45 hG hS ?_
    refine wpAnyR_done (by kernel_rfl) (fun w15 bw15 => ?_) _
    have b15 := below_step (Below.drew (Below.refl _ _)) bw15
    have S15 := S14.trans (b15.mono z314)
    have HT15 := Lib.hid (HT14.out.below b15)
    clear hS bw15 HT14 S14 b15 b14
    go_wp2_with fail
    go_loopw [30] (fun i wr => ∃ j : Nat, j ≤ n ∧ i = .int .i64 j ∧ ∃ s, KnowI (n : Int) ps (if (j : Int) < (n : Int) then [kA P.native p (j : Int), kB P.native q (j : Int)] else []) 2 s ∧ BrT wr A s ∧ Below w3.heap.size w3 wr) (fun i _ => n - (intOf i).toNat)
    case atStart => exact ⟨0, by omega, rfl, s2, HFN.out, HT15.out, S15⟩
    case round =>
     clear HFN HT15 S15
     obtain ⟨j, hj, rfl, s, hI, hT, S16⟩ := hrel
     have z16 := S16.size
     by_cases hlt : j < n
     ·
      have hltI : (j : Int) < (n : Int) := by omega
      rw [if_pos hltI] at hI
      have hI2 := know_tick hltI hI
      have hTk := rTick_any wr hT hI.g.std (Nat.le_trans hI.g.stn (by omega)) hI.g.sta hI.g.bid hI.g.bia
      have HTK := Lib.hid hTk
      have HI2 := Lib.hid hI2
      clear hI hTk hT hI2
      go_wp2_with fail
      (with_reducible refine HTK.out.mono ?_)
      rintro e w17 ⟨rfl, b17, t17⟩
      have S17 := S16.trans (b17.below z16 HMU.out)
      have HT17 := Lib.hid t17
      clear b17 t17 HTK
      go_wp2_with fail
      go_roundw
      case rel => exact ⟨j + 1, by omega, by simp, tickS s, HI2.out, HT17.out, S17⟩
      case measure => simp [intOf]; omega
     ·
      obtain rfl : j = n := by omega
      have hltI : ¬ (j : Int) < (j : Int) := by omega
      rw [if_neg hltI] at hI
      have hr1 : rightB 2048 (-1) 0 ([] : List UInt8).length = true := by decide
      have hpa1 := ethParse_print m22 m21 2048 [] (-1) 0 hr1
      have hsm1 := (ethS_small m22 m21 2048 [] (-1) 0 hr1).1
      rw [HL1.out] at hpa1 hsm1
      obtain ⟨s4, hc4, _⟩ := know_first HK.out hI hpa1 (HTA1.out (by decide))
      have hC4 := rCome_any wr hT (by decide) hI.g p (by rw [hI.ports]; exact HK.out.ltp) ln1 (by omega) t1 (fun d hd => by rw [hpa1] at hd; cases hd; exact HTC1.out)
      rw [hc4, HO1.out] at hC4
      have HC4 := Lib.hid hC4
      clear hC4 hc4 hpa1 hsm1 hI hT hr1
      go_wp2_with fail
      (with_reducible refine HC4.out.mono ?_)
      rintro e w17 ⟨⟨u4, rfl, hown4⟩, b17, _⟩
      obtain ⟨ua4, uc4, e4', _⟩ := hown4.elems
      rw [List.length_map] at e4'
      subst e4'
      have S17 := S16.trans (b17.below z16 HMU.out)
      clear hown4 b17 HC4
      go_wp2_with fail
      go_ret
      exact ⟨by simp, B3.trans (S17.mono zB3)⟩
   have f2 : (Q.hor != P.hor) = true := by simpa using hz2
   obtain rfl : bm = true := by rw [hbmv, f1, f2]; rfl
   clear hz hz2 hbmv
   go_wp2_with fail
   refine wp_region_beginX [] (fun W => Below w3.heap.size w3 W) hG rfl (by simp only [Rws]; (repeat (first | exact trivial | refine ⟨(by first | assumption | (simp [go_sem, *]; done)), (by first | omega | (simp; done) | (simp; omega)), ?_⟩))) (S13) (fun hS => ?_)
   refine sp 0 hG hS ?_
   refine sp 1 hG hS ?_
   refine sp 2 hG hS ?_
   refine sp 3 hG hS ?_
   refine sp 4 hG hS ?_
   refine sp 5 hG hS ?_
   refine sp 6 hG hS ?_
   refine sp 7 hG hS ?_
   refine sp 8 hG hS ?_
   refine sp 9 hG hS ?_
   refine sp 10 hG hS ?_
   refine sp 11 hG hS ?_
   refine sp 12 hG hS ?_
   refine sp 13 hG hS ?_
   refine sp 14 hG hS ?_
   refine sp 15 hG hS ?_
   refine sp 16 hG hS ?_
   refine sp 17 hG hS ?_
   refine sp 18 hG hS ?_
   refine sp 19 hG hS ?_
   refine wpAnyR_done (by kernel_rfl) (fun w14 bw14 => ?_) _
   have b14 := below_step (Below.drew (Below.refl _ _)) bw14
   have S14 := S13.trans (b14.mono z313)
   have HT14 := Lib.hid (HT13.out.below b14)
   have z314 := S14.size
   have z1314 := b14.size
   clear hS bw14 HT13
   have hl14 : ln1.length = 14 := by rw [← HL1.out]; rfl
   have hl12 : (12 : Int) ≤ (ln1.length : Int) := by omega
   have hl6 : (6 : Int) ≤ (ln1.length : Int) := by omega
   obtain ⟨bb, bo, hbe, hbl, hbc⟩ := HEL.out.2 0 _ rfl
   subst hbe
   have hbW : ∀ W, Below w14.heap.size w14 W → blk W bb = blk w13 bb := fun W hW => blk_below (b14.trans (hW.mono z1314)) hbl
   have gb0 : ∀ W, Below w14.heap.size w14 W → W.cell? ⟨bb, bo, none⟩ = some (.int .i64 (p : Int)) := fun W hW => (hbc W (hbW W hW)) 0 _ rfl
   have hE : ethS m21 m22 2048 [] (-1) 0 = List.take 6 (List.drop 6 ln1) ++ (List.take 6 ln1 ++ List.drop 12 ln1) := by rw [← HL1.out]; decide +kernel
   have gb1 : ∀ W, Below w14.heap.size w14 W → W.cell? ⟨bb, bo + 1, none⟩ = some (.string ⟨(List.take 6 (List.drop 6 ln1) ++ (List.take 6 ln1 ++ List.drop 12 ln1)).toArray⟩) := fun W hW => by
    rw [← hE]
    exact (hbc W (hbW W hW)) 1 _ rfl
   clear hE
   have hG14 : GrowP fun W => Below w14.heap.size w14 W := grow_base w14
   clear hG hbc hbW
   have hG := hG14
   go_wp2_with fail
   refine wp_region_beginX [] (fun W => Below w14.heap.size w14 W) hG rfl (by simp only [Rws]; (repeat (first | exact trivial | refine ⟨(by first | assumption | (simp [go_sem, *]; done)), (by first | omega | (simp; done) | (simp; omega)), ?_⟩))) ((Below.refl w14.heap.size w14)) (fun hS => ?_)
   refine sp 0 hG hS ?_
   refine sp 1 hG hS ?_
   refine sp 2 hG hS ?_
   refine sp 3 hG hS ?_
   refine sp 4 hG hS ?_
   refine sp 5 hG hS ?_
   refine sp 6 hG hS ?_
   refine sp 7 hG hS ?_
   refine sp 8 hG hS ?_
   refine sp 9 hG hS ?_
   refine sp 10 hG hS ?_
   refine sp 11 hG hS ?_
   refine sp 12 hG hS ?_
   refine sp 13 hG hS ?_
   refine sp 14 hG hS ?_
   refine sp 15 hG hS ?_
   refine sp 16 hG hS ?_
   refine sp 17 hG hS ?_
   refine sp 18 hG hS ?_
   refine sp 19 hG hS ?_
   refine sp 20 hG hS ?_
   refine sp 21 hG hS ?_
   refine sp 22 hG hS ?_
   refine sp 23 hG hS ?_
   refine sp 24 hG hS ?_
   refine sp 25 hG hS ?_
   refine sp 26 hG hS ?_
   refine sp 27 hG hS ?_
   refine sp 28 hG hS ?_
   refine sp 29 hG hS ?_
   refine sp 30 hG hS ?_
   refine sp 31 hG hS ?_
   refine sp 32 hG hS ?_
   refine sp 33 hG hS ?_
   refine sp 34 hG hS ?_
   refine sp 35 hG hS ?_
   refine sp 36 hG hS ?_
   refine sp 37 hG hS ?_
   refine sp 38 hG hS ?_
   refine sp 39 hG hS ?_
   refine sp 40 hG hS ?_
   refine sn 41 hG hS ?_
   refine sn 42 hG hS ?_
   refine sn 43 hG hS ?_
   refine sp 44 hG hS ?_
   refine sp 45 hG hS ?_
   refine wpAnyR_done (by kernel_rfl) (fun w15 bw15 => ?_) _
   have b15 := below_step (Below.drew (Below.refl _ _)) bw15
   have S15 := S14.trans (b15.mono z314)
   have HT15 := Lib.hid (HT14.out.below b15)
   clear hS bw15 HT14 S14 b15 b14
   go_wp2_with fail
   go_loopw [30] (fun i wr => ∃ j : Nat, j ≤ n ∧ i = .int .i64 j ∧ ∃ s, KnowI (n : Int) ps (if (j : Int) < (n : Int) then [kA P.native p (j : Int), kB P.native q (j : Int)] else []) 2 s ∧ BrT wr A s ∧ Below w3.heap.size w3 wr) (fun i _ => n - (intOf i).toNat)
   case atStart => exact ⟨0, by omega, rfl, s2, HFN.out, HT15.out, S15⟩
   case round =>
    clear HFN HT15 S15
    obtain ⟨j, hj, rfl, s, hI, hT, S16⟩ := hrel
    have z16 := S16.size
    by_cases hlt : j < n
    ·
     have hltI : (j : Int) < (n : Int) := by omega
     rw [if_pos hltI] at hI
     have hI2 := know_tick hltI hI
     have hTk := rTick_any wr hT hI.g.std (Nat.le_trans hI.g.stn (by omega)) hI.g.sta hI.g.bid hI.g.bia
     have HTK := Lib.hid hTk
     have HI2 := Lib.hid hI2
     clear hI hTk hT hI2
     go_wp2_with fail
     (with_reducible refine HTK.out.mono ?_)
     rintro e w17 ⟨rfl, b17, t17⟩
     have S17 := S16.trans (b17.below z16 HMU.out)
     have HT17 := Lib.hid t17
     clear b17 t17 HTK
     go_wp2_with fail
     go_roundw
     case rel => exact ⟨j + 1, by omega, by simp, tickS s, HI2.out, HT17.out, S17⟩
     case measure => simp [intOf]; omega
    ·
     obtain rfl : j = n := by omega
     have hltI : ¬ (j : Int) < (j : Int) := by omega
     rw [if_neg hltI] at hI
     have hr1 : rightB 2048 (-1) 0 ([] : List UInt8).length = true := by decide
     have hpa1 := ethParse_print m22 m21 2048 [] (-1) 0 hr1
     have hsm1 := (ethS_small m22 m21 2048 [] (-1) 0 hr1).1
     rw [HL1.out] at hpa1 hsm1
     obtain ⟨s4, hc4, _⟩ := know_first HK.out hI hpa1 (HTA1.out (by decide))
     have hC4 := rCome_any wr hT (by decide) hI.g p (by rw [hI.ports]; exact HK.out.ltp) ln1 (by omega) t1 (fun d hd => by rw [hpa1] at hd; cases hd; exact HTC1.out)
     rw [hc4, HO1.out] at hC4
     have HC4 := Lib.hid hC4
     clear hC4 hc4 hpa1 hsm1 hI hT hr1
     go_wp2_with fail
     (with_reducible refine HC4.out.mono ?_)
     rintro e w17 ⟨⟨u4, rfl, hown4⟩, b17, _⟩
     obtain ⟨ua4, uc4, e4', _⟩ := hown4.elems
     rw [List.length_map] at e4'
     subst e4'
     have S17 := S16.trans (b17.below z16 HMU.out)
     clear hown4 b17 HC4
     go_wp2_with fail
     go_ret
     exact ⟨by simp, B3.trans (S17.mono zB3)⟩
end
end Go.Proofs.Ytckckabedgpbiaa
