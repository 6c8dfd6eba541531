/- Texts of this proof, merged: RlyA, RlyB, RlyE, RlyF, RlyG, RlyI, RlyK, RlyQ. -/
import Derived.Test.YtckckabedgpbiaaGreatJ45
import Derived.Test.YtckckabedgpbiaaGreatJ46
import Derived.Test.YtckckabedgpbiaaGreatJ3
import Derived.Test.YtckckabedgpbiaaGreatJ44
set_option linter.unusedSimpArgs false
set_option linter.unusedVariables false
set_option maxRecDepth 4000
namespace Go.Proofs.YtckckabedgpbiaaGreat
section
open Go.RowKit Go.Shelf
section
variable {P : Program} {ops : Array Oper} {Q : Exit → Act → World → Prop} {md : Region.Mode} {S : World → Prop}
theorem wpAnyR_op1 (i : Nat) {fuel : Nat} {listed : Array Bool} {a : Act} {w : World} (hr : Region.ready md ops listed = [i])
  (h : ∀ w1, Below w.heap.size w w1 → wpOp P ops Q i (fun a' w' => S w' ∧ wpAnyR P md ops Q S fuel (listed.setIfInBounds i true) a' w') a w1) : wpAnyR P md ops Q S (fuel + 1) listed a w := by
 intro w1 h1
 refine ⟨fun h0 => by rw [hr] at h0; simp at h0, fun j hj => ?_⟩
 rw [hr] at hj
 obtain rfl := List.mem_singleton.1 hj
 exact h w1 h1
end
theorem portsOf {S : List Nat} {w : World} {B : Nat} {pa : Option Addr} {n cap : Nat} {rows : List (List Value)} {ps : List PortD} (h : OwnL w B 61 4 (.slice pa n cap) rows) (hl : ps.length ≤ 1000) (hS : ∀ s ∈ S, s < B)
  (hr : ∀ (q : Nat) (p : PortD), ps[q]? = some p → ∃ ta tc, rows[q]? = some (portV ta tc p) ∧ ElemsOff S w ta 1 (p.tagged.map fun v => [Value.int .i64 v])) : PortsOff S w pa ps := by
 obtain ⟨a', c', e, he⟩ := h.off S (fun s hs => .inl (hS s hs))
 cases e
 refine ⟨by unfold maxLen; omega, fun q p hq => ?_⟩
 obtain ⟨ta, tc, e1, e2⟩ := hr q p hq
 obtain ⟨b, off, e3, hb, hn, hra⟩ := he.2 q _ e1
 exact ⟨b, off, ta, tc, e3, hb, hn, hra, e2⟩
def RPortsOff (S : List Nat) (w : World) (pa : Option Addr) (rs : List RPortD) : Prop :=
 rs.length ≤ maxLen ∧ ∀ (i : Nat) (r : RPortD), rs[i]? = some r → ∃ b off ta cap, pa = some ⟨b, off, none⟩ ∧ b < w.heap.size ∧
  (∀ W, blk W b = blk w b → W.rangeAt b (off + i * 5) (rportV ta cap r)) ∧ ElemsOff S w ta 1 (r.p.tagged.map fun v => [Value.int .i64 v])
theorem RPortsAt.off {w : World} {pa : Option Addr} {rs : List RPortD} (h : RPortsAt w pa rs) (S : List Nat) (hS : ∀ x ∈ S, w.heap.size ≤ x) : RPortsOff S w pa rs := by
 refine ⟨h.1, fun i r hr => ?_⟩
 obtain ⟨b, off, ta, cap, e, hl, hra, ht⟩ := h.2 i r hr
 refine ⟨b, off, ta, cap, e, hl, hra, ht.1, fun q x hx => ?_⟩
 obtain ⟨b', off', e4, hb', hr'⟩ := ht.2 q x hx
 exact ⟨b', off', e4, hb', fun hm => by have := hS b' hm; omega, hr'⟩
theorem RPortsOff.at {S : List Nat} {w : World} {pa : Option Addr} {rs : List RPortD} (h : RPortsOff S w pa rs) : RPortsAt w pa rs := by
 refine ⟨h.1, fun i r hr => ?_⟩
 obtain ⟨b, off, ta, cap, e, hl, hra, ht⟩ := h.2 i r hr
 exact ⟨b, off, ta, cap, e, hl, hra, ht.elems⟩
theorem RPortsOff.below {S : List Nat} {w w' : World} {pa : Option Addr} {rs : List RPortD} (h : RPortsOff S w pa rs) (hb : Below w.heap.size w w') : RPortsOff S w' pa rs := by
 refine ⟨h.1, fun i r hr => ?_⟩
 obtain ⟨b, off, ta, cap, e, hl, hra, ht⟩ := h.2 i r hr
 exact ⟨b, off, ta, cap, e, Nat.lt_of_lt_of_le hl hb.size, fun W hW => hra W (hW.trans (blk_below hb hl)), ht.below hb⟩
theorem RPortsOff.get {S : List Nat} {w : World} {pa : Option Addr} {rs : List RPortD} (h : RPortsOff S w pa rs) {k : Nat} (hk : k < rs.length) : ∃ b off ta cap, pa = some ⟨b, off, none⟩ ∧ b < w.heap.size ∧
  (∀ W, Below w.heap.size w W → W.rangeAt b (off + k * 5) (rportV ta cap rs[k]) ∧ ElemsOff S W ta 1 (rs[k].p.tagged.map fun v => [Value.int .i64 v])) := by
 obtain ⟨b, off, ta, cap, e, hl, hr, ht⟩ := h.2 k rs[k] (List.getElem?_eq_getElem hk)
 exact ⟨b, off, ta, cap, e, hl, fun W hW => ⟨hr W (blk_below hW hl), ht.below hW⟩⟩
set_option maxRecDepth 20000 in
set_option maxHeartbeats 2000000 in
theorem of22X_any (S : List Nat) (pa : Option Addr) (cap : Nat) (rs : List RPortD) (w : World) (h : RPortsOff S w pa rs) (hSl : ∀ s ∈ S, s < w.heap.size) (hn : rs.length ≤ 1000) :
  Calls Tryz.prog 8 #[.slice pa rs.length cap] w fun e w' => (∃ u, e = .returned u ∧ ∃ pa' cap', u = .slice pa' rs.length cap' ∧ PortsOff S w' pa' (rs.map (·.p))) ∧ Below w.heap.size w w' := by
 have hnI : (rs.length : Int) ≤ 1000 := by omega
 go_enter Tryz.func8, Tryz.ntmps8
 go_wp2_with fail
 go_loopw [3, 4] (fun u i wr => ∃ (k : Nat) (ppa : Option Addr) (ppc : Nat) (rows : List (List Value)), k ≤ rs.length ∧ i = .int .i64 k ∧ u = .slice ppa k ppc ∧ rows.length = k ∧ OwnL wr w.heap.size 61 4 (.slice ppa k ppc) rows ∧
  (∀ (q : Nat) (r : RPortD), q < k → rs[q]? = some r → ∃ ta tc, rows[q]? = some (portV ta tc r.p) ∧ ElemsOff S w ta 1 (r.p.tagged.map fun v => [Value.int .i64 v])) ∧ Below w.heap.size w wr) (fun _ i _ => rs.length - (intOf i).toNat)
 case atStart => exact ⟨0, none, 0, [], by omega, rfl, rfl, rfl, OwnL.nil _ _ _ _, (fun q r hq _ => by omega), Below.refl _ _⟩
 case round =>
  obtain ⟨k, ppa, ppc, rows, hk, rfl, rfl, hrl, hown, hrows, cb⟩ := hrel
  have zb := cb.size
  by_cases hlt : k < rs.length
  ·
   have hltI : (k : Int) < (rs.length : Int) := by omega
   obtain ⟨pb, po, ta, tc, rfl, hpb, hrd⟩ := h.get hlt
   obtain ⟨r, hr⟩ : ∃ x, rs[k] = x := ⟨_, rfl⟩
   rw [hr] at hrd
   have hit : ElemsOff S w ta 1 (r.p.tagged.map fun v => [Value.int .i64 v]) := (hrd w (Below.refl _ _)).2
   have g0 : ∀ W, Below w.heap.size w W → W.cell? ⟨pb, po + k * 5, none⟩ = some (.int .i64 r.p.native) := fun W hW => (hrd W hW).1 0 _ rfl
   have g1 : ∀ W, Below w.heap.size w W → W.cell? ⟨pb, po + k * 5 + 1, none⟩ = some (.slice ta r.p.tagged.length tc) := fun W hW => (hrd W hW).1 1 _ rfl
   have g2 : ∀ W, Below w.heap.size w W → W.cell? ⟨pb, po + k * 5 + 2, none⟩ = some (.int .i64 r.p.hor) := fun W hW => (hrd W hW).1 2 _ rfl
   have g3 : ∀ W, Below w.heap.size w W → W.cell? ⟨pb, po + k * 5 + 3, none⟩ = some (.int .i64 r.p.lim) := fun W hW => (hrd W hW).1 3 _ rfl
   obtain ⟨o, ho⟩ : ∃ o, po + k * 5 = o := ⟨_, rfl⟩
   rw [ho] at g0 g1 g2 g3
   have HIT := Lib.hid hit
   have HR := Lib.hid hr
   have HRW := Lib.hid hrows
   have HOW := Lib.hid hown
   clear hrd hit hr hrows hown
   go_wp2_with fail
   have hG : GrowP fun W => Below w.heap.size w W := grow_base w
   refine wp_region_beginX [] (fun W => Below w.heap.size w W) hG rfl (by simp only [Rws]; (repeat (first | exact trivial | refine ⟨(by first | assumption | (simp [go_sem, *]; done)), (by first | omega | (simp; done) | (simp; omega)), ?_⟩))) (cb) (fun hS => ?_)
   refine sp 0 hG hS ?_
   refine sp 1 hG hS ?_
   refine sp 2 hG hS ?_
   refine sp 3 hG hS ?_
   refine sp 4 hG hS ?_
   refine sp 5 hG hS ?_
   refine sp 6 hG hS ?_
   refine sp 7 hG hS ?_
   refine sp 8 hG hS ?_
   refine sp 9 hG hS ?_
   refine sp 10 hG hS ?_
   refine sp 11 hG hS ?_
   refine sp 12 hG hS ?_
   refine sp 13 hG hS ?_
   refine sp 14 hG hS ?_
   refine sp 15 hG hS ?_
   refine sp 16 hG hS ?_
   refine sp 17 hG hS ?_
   refine sp 18 hG hS ?_
   refine sp 19 hG hS ?_
   refine sp 20 hG hS ?_
   refine sp 21 hG hS ?_
   refine sp 22 hG hS ?_
   refine wpAnyR_op1 23 (by kernel_rfl) (fun u6 hu6 => ?_)
   refine wpOp_step rfl (fun K hK => ?_)
   clear hS
   go_simp
   replace hu6 : Below wr.heap.size wr u6 := below_step (Below.drew (Below.refl _ _)) hu6
   have zu6 := hu6.size
   have cb6 := cb.trans (hu6.mono zb)
   refine hK _ _ ⟨⟨trivial, Below.alloc cb6 (by omega) _⟩, ?_⟩
   clear hK K
   refine wpAnyR_op1 24 (by kernel_rfl) (fun u8 hu8 => ?_)
   have zu8 := hu8.size
   rw [alloc_sizeW] at zu8
   have b38 : Below wr.heap.size wr u8 := (Below.alloc hu6 (by omega) _).trans (hu8.mono (by rw [alloc_sizeW]; omega))
   have cb8 := cb.trans (b38.mono zb)
   have rN8 : row u8 u6.heap.size = #[Value.int .i64 r.p.native, Value.slice ta r.p.tagged.length tc, Value.int .i64 r.p.hor, Value.int .i64 r.p.lim] := by rw [row_below hu8 (by rw [alloc_sizeW]; omega)]; exact row_alloc_at _ _ _ rfl
   refine wpOp_wp (by simp only [List.getElem?_toArray, List.getElem?_cons_succ, List.getElem?_cons_zero]; rfl) rfl ?_
   refine wp_appendL (t := 36) rfl Tryz.underlying36 portInfo (by decide) (by decide) w.heap.size _ rows rfl (HOW.out.below b38) u6.heap.size 1 [Value.int .i64 r.p.native, Value.slice ta r.p.tagged.length tc, Value.int .i64 r.p.hor, Value.int .i64 r.p.lim] rfl rN8 rfl rfl (by omega) (by omega) ?_
   intro v' u9 hown9 hb9 _
   obtain ⟨ppa2, ppc2, hve2, _⟩ := hown9.elems
   rw [List.length_append, List.length_singleton, hrl] at hve2
   subst hve2
   have cb9 := cb8.trans hb9
   have HO9 := Lib.hid hown9
   clear hown9
   have hS : XS [] (fun W => Below w.heap.size w W) u9 := ⟨trivial, cb9⟩
   refine ⟨hS, ?_⟩
   (try simp only [Act.put, List.setIfInBounds_toArray, List.set_cons_zero, List.set_cons_succ])
   refine sp 25 hG hS ?_
   refine wpAnyR_done (by kernel_rfl) (fun w10 bw10 => ?_) _
   have z9 := cb9.size
   have cb10 := cb9.trans (bw10.mono z9)
   have HO10 := Lib.hid (HO9.out.below bw10)
   have hrows2 : ∀ (q : Nat) (r' : RPortD), q < k + 1 → rs[q]? = some r' → ∃ ta' tc', (rows ++ [[Value.int .i64 r.p.native, Value.slice ta r.p.tagged.length tc, Value.int .i64 r.p.hor, Value.int .i64 r.p.lim]])[q]? = some (portV ta' tc' r'.p) ∧ ElemsOff S w ta' 1 (r'.p.tagged.map fun v => [Value.int .i64 v]) := by
    intro q r' hq hr'
    by_cases hqk : q < k
    ·
     obtain ⟨ta', tc', e1, e2⟩ := HRW.out q r' hqk hr'
     exact ⟨ta', tc', by rw [List.getElem?_append_left (by omega)]; exact e1, e2⟩
    ·
     have hqe : q = k := by omega
     subst hqe
     rw [List.getElem?_eq_getElem hlt, HR.out] at hr'
     cases hr'
     exact ⟨ta, tc, by rw [List.getElem?_append_right (by omega), hrl, Nat.sub_self]; rfl, HIT.out⟩
   have HRW2 := Lib.hid hrows2
   clear hrows2 hS g0 g1 g2 g3 hu6 hu8 b38 rN8 hb9 bw10 HO9
   go_wp2_with fail
   go_roundw
   case rel => exact ⟨k + 1, ppa2, ppc2, _, by omega, by simp, rfl, by simp [hrl], HO10.out, HRW2.out, cb10⟩
   case measure => simp [intOf]; omega
  ·
   obtain rfl : k = rs.length := by omega
   have hltI : ¬ (rs.length : Int) < (rs.length : Int) := by omega
   have HOW := Lib.hid hown
   have HRW := Lib.hid hrows
   clear hown hrows
   go_wp2_with fail
   go_ret
   refine ⟨⟨_, rfl, ppa, ⟨ppc, rfl⟩, portsOf HOW.out (by rw [List.length_map]; exact hn) hSl ?_⟩, cb⟩
   intro q p hq
   rw [List.getElem?_map] at hq
   cases hr : rs[q]? with
   | none => rw [hr] at hq; cases hq
   | some r =>
    rw [hr] at hq
    simp only [Option.map_some, Option.some.injEq] at hq
    subst hq
    obtain ⟨ta, tc, e1, e2⟩ := HRW.out q r (List.getElem?_eq_some_iff.1 hr).1 hr
    exact ⟨ta, tc, e1, e2.below cb⟩
theorem of22_any (pa : Option Addr) (cap : Nat) (rs : List RPortD) (w : World) (h : RPortsAt w pa rs) (hn : rs.length ≤ 1000) :
  Calls Tryz.prog 8 #[.slice pa rs.length cap] w fun e w' => (∃ u, e = .returned u ∧ ∃ pa' cap', u = .slice pa' rs.length cap' ∧ PortsOff [] w' pa' (rs.map (·.p))) ∧ Below w.heap.size w w' :=
 of22X_any [] pa cap rs w (h.off [] (fun x hx => by cases hx)) (fun x hx => by cases hx) hn
end
section
open Go.RowKit Go.Shelf
structure Act22 where
 d : Nat
 port : Int
 n : Int
 s : List UInt8
def act22C (x : Act22) : List Value := [Value.int .u8 (x.d : Int), Value.int .i64 x.port, Value.int .i64 x.n, Value.string ⟨x.s.toArray⟩]
def Acts22 (w : World) (a : Option Addr) (l : List Act22) : Prop := ElemsAt w a 4 (l.map act22C)
theorem Acts22.below {w w' : World} {a : Option Addr} {l : List Act22} (h : Acts22 w a l) (hb : Below w.heap.size w w') : Acts22 w' a l := ElemsAt.below h hb
theorem Acts22.get {w : World} {a : Option Addr} {l : List Act22} (h : Acts22 w a l) {k : Nat} (hk : k < l.length) : ∃ b off, a = some ⟨b, off, none⟩ ∧ b < w.heap.size ∧ ∀ W, Below w.heap.size w W → W.rangeAt b (off + k * 4) (act22C l[k]) := by
 obtain ⟨b, off, e, hb, hr⟩ := h.2 k (act22C l[k]) (by rw [List.getElem?_map, List.getElem?_eq_getElem hk]; rfl)
 exact ⟨b, off, e, hb, fun W hW => hr W (blk_below hW hb)⟩
def fewP (rs : List RPortD) (acts : List Act22) (w : World) (e : Ending) (w' : World) : Prop := (∃ b, e = .returned (.bool b) ∧ (b = true → rs.length ≤ 40 ∧ acts.length ≤ 60 ∧ ∀ a ∈ acts, a.s.length ≤ 2000)) ∧ w' = w
set_option maxRecDepth 20000 in
set_option maxHeartbeats 1000000 in
theorem few22_any (pa : Option Addr) (cap : Nat) (rs : List RPortD) (aa : Option Addr) (acap : Nat) (acts : List Act22) (w : World) (h : RPortsAt w pa rs) (ha : Acts22 w aa acts) (hs : ∀ a ∈ acts, a.s.length ≤ maxLen) :
  Calls Tryz.prog 5 #[.slice pa rs.length cap, .slice aa acts.length acap] w fun e w' => fewP rs acts w e w' := by
 have hm := h.1
 have hm2 : (rs.length : Int) ≤ 9223372036854775807 := by unfold maxLen at hm; omega
 have am := ha.1
 rw [List.length_map] at am
 have am2 : (acts.length : Int) ≤ 9223372036854775807 := by unfold maxLen at am; omega
 go_enter Tryz.func5, Tryz.ntmps5
 go_wp2_with fail
 go_loopw [5] (fun i wr => ∃ k : Nat, k ≤ rs.length ∧ i = .int .i64 k ∧ wr = w) (fun i _ => rs.length - (intOf i).toNat)
 case atStart => exact ⟨0, by omega, rfl, rfl⟩
 case round =>
  obtain ⟨k, hk, rfl, rfl⟩ := hrel
  by_cases hlt : k < rs.length ∧ k ≤ 40
  ·
   obtain ⟨hlt, h40⟩ := hlt
   have hltI : (k : Int) < (rs.length : Int) := by omega
   have h40I : (k : Int) ≤ 40 := by omega
   obtain ⟨pb, po, ta, tc, rfl, hpb, hrd⟩ := h.get hlt
   obtain ⟨r, hr⟩ : ∃ x, rs[k] = x := ⟨_, rfl⟩
   rw [hr] at hrd
   have htm := (hrd wr (Below.refl _ _)).2.len
   have htm2 : (r.p.tagged.length : Int) ≤ 9223372036854775807 := by unfold maxLen at htm; omega
   have g1 : wr.cell? ⟨pb, po + k * 5 + 1, none⟩ = some (.slice ta r.p.tagged.length tc) := (hrd wr (Below.refl _ _)).1 1 _ rfl
   obtain ⟨o, ho⟩ : ∃ o, po + k * 5 = o := ⟨_, rfl⟩
   rw [ho] at g1
   clear hrd hr
   by_cases hbig : 100 < r.p.tagged.length
   ·
    have hbigI : (100 : Int) < (r.p.tagged.length : Int) := by omega
    go_wp2_with fail
    go_ret
    exact (show fewP _ _ _ _ _ from ⟨⟨false, rfl, fun h => by cases h⟩, rfl⟩)
   ·
    have hbigI : ¬ (100 : Int) < (r.p.tagged.length : Int) := by omega
    go_wp2_with fail
    go_roundw
    case rel => exact ⟨k + 1, by omega, by simp, by first | rfl | trivial⟩
    case measure => simp [intOf]; omega
  ·
   have hout : ¬ (k : Int) < (rs.length : Int) ∨ ((k : Int) < (rs.length : Int) ∧ ¬ (k : Int) ≤ 40) := by
    by_cases h1 : k < rs.length
    ·
     exact .inr ⟨by omega, by omega⟩
    ·
     exact .inl (by omega)
   clear hlt
   rcases hout with h1 | ⟨h1, h2⟩
   all_goals
    go_wp2_with fail
    go_loopw [6] (fun i wq => ∃ q : Nat, q ≤ acts.length ∧ i = .int .i64 q ∧ wq = wr ∧ ∀ (j : Nat) (hj : j < acts.length), j < q → acts[j].s.length ≤ 2000) (fun i _ => acts.length - (intOf i).toNat)
    case atStart => exact ⟨0, by omega, rfl, rfl, fun j _ hj => by omega⟩
    case round =>
     obtain ⟨q, hq, rfl, rfl, hall⟩ := hrel
     have HA := Lib.hid hall
     clear hall
     by_cases hlt : q < acts.length ∧ q ≤ 60
     ·
      obtain ⟨hlt, h60⟩ := hlt
      have hltI : (q : Int) < (acts.length : Int) := by omega
      have h60I : (q : Int) ≤ 60 := by omega
      obtain ⟨ab, ao, rfl, hab, har⟩ := ha.get hlt
      obtain ⟨x, hx⟩ : ∃ x, acts[q] = x := ⟨_, rfl⟩
      rw [hx] at har
      have hsm : x.s.length ≤ maxLen := hs x (by rw [← hx]; exact List.getElem_mem hlt)
      have hsm2 : (x.s.length : Int) ≤ 9223372036854775807 := by unfold maxLen at hsm; omega
      have g1 : wr.cell? ⟨ab, ao + q * 4 + 3, none⟩ = some (.string ⟨x.s.toArray⟩) := har wr (Below.refl _ _) 3 _ rfl
      obtain ⟨o, ho⟩ : ∃ o, ao + q * 4 = o := ⟨_, rfl⟩
      rw [ho] at g1
      have HX := Lib.hid hx
      clear har hx
      by_cases hbig : 2000 < x.s.length
      ·
       have hbigI : (2000 : Int) < (x.s.length : Int) := by omega
       go_wp2_with fail
       go_ret
       exact (show fewP _ _ _ _ _ from ⟨⟨false, rfl, fun h => by cases h⟩, rfl⟩)
      ·
       have hbigI : ¬ (2000 : Int) < (x.s.length : Int) := by omega
       go_wp2_with fail
       go_roundw
       case rel =>
        refine ⟨q + 1, by omega, by simp, by first | rfl | trivial, fun j hj hjq => ?_⟩
        rcases Nat.lt_or_ge j q with h3 | h3
        ·
         exact HA.out j hj h3
        ·
         obtain rfl : j = q := by omega
         rw [HX.out]
         omega
       case measure => simp [intOf]; omega
     ·
      have hout : ¬ (q : Int) < (acts.length : Int) ∨ ((q : Int) < (acts.length : Int) ∧ ¬ (q : Int) ≤ 60) := by
       by_cases h1 : q < acts.length
       ·
        exact .inr ⟨by omega, by omega⟩
       ·
        exact .inl (by omega)
      have hfin : acts.length ≤ 60 → ∀ a ∈ acts, a.s.length ≤ 2000 := fun h6 a haa => by
       obtain ⟨j, hj, rfl⟩ := List.getElem_of_mem haa
       exact HA.out j hj (by omega)
      have HF := Lib.hid hfin
      clear hlt hfin
      rcases hout with h3 | ⟨h3, h4⟩
      all_goals
       by_cases c1 : rs.length ≤ 40
       ·
        have c1I : (rs.length : Int) ≤ 40 := by omega
        by_cases c2 : acts.length ≤ 60
        ·
         have c2I : (acts.length : Int) ≤ 60 := by omega
         go_wp2_with fail
         go_ret
         exact (show fewP _ _ _ _ _ from ⟨⟨true, rfl, fun _ => ⟨c1, c2, HF.out c2⟩⟩, rfl⟩)
        ·
         have c2I : ¬ (acts.length : Int) ≤ 60 := by omega
         go_wp2_with fail
         go_ret
         exact (show fewP _ _ _ _ _ from ⟨⟨false, rfl, fun h => by cases h⟩, rfl⟩)
       ·
        have c1I : ¬ (rs.length : Int) ≤ 40 := by omega
        go_wp2_with fail
        go_ret
        exact (show fewP _ _ _ _ _ from ⟨⟨false, rfl, fun h => by cases h⟩, rfl⟩)
/-! ### the document's example -/
def pA : PortD := ⟨1, [], 0, 5⟩
def lineA : List UInt8 := ethS m2 m4 2048 [] (-1) 0
def brA : BrS := stateS (stateS (newS 10 [pA, pA]) 0 3) 1 3
theorem lineA_parse : ethParse lineA = .ok ⟨m2, m4, 2048, [], -1, 0⟩ := ethParse_print m2 m4 2048 [] (-1) 0 (by decide)
theorem comeA (t : TalkD) (ht : t.ask = none) : (comeS brA 0 lineA t).2 = ([(1, lineA)], 0) := by
 unfold comeS
 rw [lineA_parse]
 obtain ⟨ip, mac, ok, ask⟩ := t
 dsimp only at ht
 subst ht
 rfl
theorem talk_any (dst src : Vector UInt8 6) (ty : Int) (body : List UInt8) (hb : body.length ≤ 10000) : ∃ t, TalkC dst src ty body t ∧ (ty ≠ 2054 ∧ ty ≠ 34525 → t.ask = none) := by
 obtain ⟨ip, mac, ok, hA⟩ := ann_both dst src ty body hb
 rcases asks_any dst src ty body hb with hno | ⟨ipq, ans, hs⟩
 ·
  exact ⟨⟨ip, mac, ok, none⟩, ⟨hA.prog, fun _ => hno, fun _ _ h => by cases h⟩, fun _ => rfl⟩
 ·
  refine ⟨⟨ip, mac, ok, some (ipq, ans)⟩, ⟨hA.prog, (fun h => by cases h), fun a b h => by cases h; exact hs⟩, fun h => ?_⟩
  rcases hs.typ with e | e
  ·
   exact absurd e h.1
  ·
   exact absurd e h.2
end
section
open Go.RowKit Go.Shelf
theorem newG (ageing : Int) (ps : List PortD) (h : newOkB ageing ps = true) : BrG (newS ageing ps) 0 ∧ 0 < ps.length ∧ (∀ p ∈ ps, okPort p = true) ∧ (∀ p ∈ ps, 0 ≤ p.lim ∧ p.lim ≤ 65535) := by
 unfold newOkB newOkL at h
 simp only [Bool.and_eq_true, decide_eq_true_eq, List.length_map, Bool.not_eq_true', List.any_map] at h
 obtain ⟨⟨h1, ⟨⟨⟨h2, h3⟩, h4⟩, h5⟩⟩, h6⟩ := h
 refine ⟨⟨h4, List.Pairwise.nil, (fun b hb => by cases hb), Nat.le_refl _, (fun b hb => by cases hb), List.Pairwise.nil, (fun b hb => by cases hb), by simp [newS], by simp [newS], h2, h3⟩, by omega, fun p hp => List.all_eq_true.1 h1 p hp, fun p hp => ?_⟩
 have := List.any_eq_false.1 h5 p hp
 simp only [Function.comp, badLim, Bool.or_eq_true, decide_eq_true_eq, not_or] at this
 omega
theorem portsA {w : World} {g : Nat} (hr : row w g = #[Value.int .i64 1, Value.slice none 0 0, Value.int .i64 0, Value.int .i64 5, Value.int .i64 1, Value.slice none 0 0, Value.int .i64 0, Value.int .i64 5]) (hg : g < w.heap.size) : PortsOff [] w (some ⟨g, 0, none⟩) [pA, pA] := by
 refine ⟨by simp [maxLen], fun i p hp => ?_⟩
 have hi : i < 2 := (List.getElem?_eq_some_iff.1 hp).1
 have hpA : p = pA := by
  match i, hp with
  | 0, hp => exact (Option.some.inj hp).symm
  | 1, hp => exact (Option.some.inj hp).symm
  | n + 2, hp => simp at hp
 subst hpA
 refine ⟨g, 0, none, 0, rfl, hg, by simp, fun W hW j u hj => ?_, ElemsOff.nil _ _ _ _⟩
 have hjl : j < 4 := (List.getElem?_eq_some_iff.1 hj).1
 have hrW : row W g = _ := (row_of_block hW).trans hr
 rw [cell_of_row' (by rw [hrW]; simp; omega), hrW]
 match i, hi, j, hjl, hj with
 | 0, _, 0, _, hj => exact hj
 | 0, _, 1, _, hj => exact hj
 | 0, _, 2, _, hj => exact hj
 | 0, _, 3, _, hj => exact hj
 | 1, _, 0, _, hj => exact hj
 | 1, _, 1, _, hj => exact hj
 | 1, _, 2, _, hj => exact hj
 | 1, _, 3, _, hj => exact hj
set_option maxRecDepth 20000 in
set_option maxHeartbeats 2000000 in
theorem awake22_any (w : World) : Calls Tryz.prog 4 #[] w fun e w' => e = .returned (.bool true) ∧ Below w.heap.size w w' := by
 go_enter Tryz.func4, Tryz.ntmps4
 go_wp2_with fail
 refine (rNew_any 10 (some ⟨w.heap.size + 1, 0, none⟩) 2 [pA, pA] _ (portsA ((row_alloc_at _ _ _ (by simp)).trans rfl) (by simp)) (by decide)).mono ?_
 rintro e w1 (⟨h0, _⟩ | ⟨hok, A, rfl, hnb⟩)
 ·
  exact absurd h0 (by decide)
 have z1 := hnb.below.size
 simp only [alloc_sizeW] at z1
 have b1 : Below w.heap.size w w1 := Below.trans (Below.alloc (Below.alloc (Below.refl _ _) (Nat.le_refl _) _) (by rw [alloc_sizeW]; omega) _) (hnb.below.mono (by rw [alloc_sizeW, alloc_sizeW]; omega))
 obtain ⟨g1, _⟩ := newG 10 [pA, pA] hok
 have hlo := hnb.lo
 simp only [alloc_sizeW] at hlo
 have H1 : Calls Tryz.prog 12 #[.pointer (some ⟨A.B, 0, none⟩), .int .i64 0, .int .i64 3] w1 fun e w' => e = .returned (.int .i64 0) ∧ BelowS w1.heap.size A.muts w1 w' ∧ BrT w' A (stateS (newS 10 [pA, pA]) 0 3) := rState_ok w1 hnb.br 0 3 (by decide) (by decide) (by decide) (by decide) g1.std (by decide)
 have H2 : ∀ W, BrT W A (stateS (newS 10 [pA, pA]) 0 3) → Calls Tryz.prog 12 #[.pointer (some ⟨A.B, 0, none⟩), .int .i64 1, .int .i64 3] W fun e w' => e = .returned (.int .i64 0) ∧ BelowS W.heap.size A.muts W w' ∧ BrT w' A brA := fun W hW => rState_ok W hW 1 3 (by decide) (by decide) (by decide) (by decide) List.Pairwise.nil (by decide)
 obtain ⟨t, ht, htn⟩ := talk_any m2 m4 2048 [] (by simp)
 have hcA := comeA t (htn (by decide))
 have gA : BrG brA 0 := ⟨by decide, List.Pairwise.nil, (fun b hb => by cases hb), by decide, (fun b hb => by cases hb), List.Pairwise.nil, (fun b hb => by cases hb), by decide, by decide, by decide⟩
 have H3 : ∀ W, BrT W A brA → Calls Tryz.prog 14 #[.pointer (some ⟨A.B, 0, none⟩), .int .i64 0, .string ⟨lineA.toArray⟩] W fun e w' => (∃ u, e = .returned (.tuple #[u, .int .i64 0]) ∧ OwnL w' W.heap.size 51 2 u [outC (1, lineA)]) ∧ BelowS W.heap.size A.muts W w' ∧ ∃ s, BrT w' A s := fun W hW => by
  have := rCome_any W hW (Nat.zero_le _) gA 0 (by decide) lineA (by decide) t (fun d hd => by rw [lineA_parse] at hd; cases hd; exact ht)
  rw [hcA] at this
  exact this.mono fun e w' ⟨h1, h2, h3⟩ => ⟨h1, h2, _, h3⟩
 have H4 := fun W => ethPrint_any m2 m4 2048 [] (-1) 0 W (by decide)
 rw [show ethS m2 m4 2048 [] (-1) 0 = lineA from rfl] at H4
 obtain ⟨ln, hln⟩ : ∃ x, lineA = x := ⟨_, rfl⟩
 rw [hln] at H3 H4
 have HX1 := Lib.hid H1
 have HX2 := Lib.hid H2
 have HX3 := Lib.hid H3
 have HX4 := Lib.hid H4
 clear H1 H2 H3 H4 hln hcA htn ht gA g1 hok
 go_wp2_with fail
 (with_reducible refine HX1.out.mono ?_)
 rintro e w2 ⟨rfl, b2, t2⟩
 go_wp2_with fail
 (with_reducible refine (HX2.out _ t2).mono ?_)
 rintro e w3 ⟨rfl, b3, t3⟩
 unfold ethV at HX4
 go_wp2_with fail
 (with_reducible refine (HX4.out _).mono ?_)
 rintro e w4 ⟨rfl, b4⟩
 have t4 := t3.below b4
 go_wp2_with fail
 (with_reducible refine (HX3.out _ t4).mono ?_)
 rintro e w5 ⟨⟨u, rfl, hown⟩, b5, _⟩
 obtain ⟨a, c, rfl, hel⟩ := hown.elems
 obtain ⟨ob, oo, rfl, hob, hra⟩ := hel.2 0 _ rfl
 have k0 : w5.cell? ⟨ob, oo, none⟩ = some (.int .i64 1) := hra w5 rfl 0 _ rfl
 have k1 : w5.cell? ⟨ob, oo + 1, none⟩ = some (.string ⟨ln.toArray⟩) := hra w5 rfl 1 _ rfl
 have hB : Below w.heap.size w w5 := by
  have hmu : ∀ x ∈ A.muts, w.heap.size ≤ x := by
   intro x hx
   have := hlo x (by simp only [BrA.muts, List.mem_cons, List.not_mem_nil, or_false] at hx ⊢; omega)
   omega
  have q2 := b2.below (B' := w.heap.size) b1.size hmu
  have q3 := b3.below (B' := w.heap.size) (Nat.le_trans b1.size b2.size) hmu
  have s3 : w.heap.size ≤ w3.heap.size := Nat.le_trans b1.size (Nat.le_trans b2.size b3.size)
  have q5 := b5.below (B' := w.heap.size) (Nat.le_trans s3 b4.size) hmu
  exact (((b1.trans q2).trans q3).trans (b4.mono s3)).trans q5
 clear hown hel hra hob
 go_wp2_with fail
 go_ret
 exact ⟨rfl, hB⟩
end
section
open Go.RowKit Go.Shelf
def sJ (ageing : Int) (ps : List PortD) (f : Nat → Int) (j : Nat) : BrS := { newS ageing ps with states := (List.range ps.length).map fun i => if i < j then f i else 0 }
theorem stateS_good {s : BrS} {N : Nat} (g : BrG s N) (k : Nat) (x : Int) : BrG (stateS s k x) N := by
 have hsub : ∀ b ∈ (stateS s k x).st, b ∈ s.st := by
  intro b hb
  unfold stateS at hb
  dsimp only at hb
  by_cases hx : x = 0
  ·
   rw [if_pos hx] at hb
   exact (List.mem_filter.1 hb).1
  ·
   rw [if_neg hx] at hb
   exact hb
 refine ⟨g.n32, ?_, fun b hb => g.stp b (hsub b hb), ?_, fun b hb => g.sta b (hsub b hb), g.bid, g.bia, g.bin, g.cs, g.age⟩
 ·
  unfold stateS
  dsimp only
  by_cases hx : x = 0
  ·
   rw [if_pos hx]; exact g.std.filter _
  ·
   rw [if_neg hx]; exact g.std
 ·
  unfold stateS
  dsimp only
  by_cases hx : x = 0
  ·
   rw [if_pos hx]; exact Nat.le_trans (List.length_filter_le _ _) g.stn
  ·
   rw [if_neg hx]; exact g.stn
theorem rat_mod (n k : Nat) (hk : 0 < k) : ((n : Int)).tmod (k : Int) = ((n % k : Nat) : Int) := by
 rw [Int.tmod_eq_emod_of_nonneg (by omega)]
 omega
theorem Acts22.nil (w : World) (a : Option Addr) : Acts22 w a [] := by
 unfold Acts22
 exact ElemsAt.nil _ _ _
theorem lo_muts {w : World} {A : BrA} (h : ∀ b ∈ [A.B, A.SB, A.LT, A.LM, A.HT, A.HM], w.heap.size ≤ b) : ∀ x ∈ A.muts, w.heap.size ≤ x := by
 intro x hx
 refine h x ?_
 simp only [BrA.muts, List.mem_cons, List.not_mem_nil, or_false] at hx ⊢
 omega
end
section
open Go.RowKit Go.Shelf
def stC (f : Nat → Int) (n j : Nat) : Array Value := ints ((List.range n).map fun i => if i < j then f i else 0)
@[simp, go_sem] theorem stC_size (f : Nat → Int) (n j : Nat) : (stC f n j).size = n := by simp [stC, ints]
theorem PortsOff.nil {S : List Nat} {w : World} {pa : Option Addr} {ps : List PortD} (h : PortsOff S w pa ps) : PortsOff [] w pa ps := by
 refine ⟨h.1, fun i p hp => ?_⟩
 obtain ⟨b, off, ta, cap, e, hl, hn, hr, ht⟩ := h.2 i p hp
 refine ⟨b, off, ta, cap, e, hl, List.not_mem_nil, hr, ht.1, fun q x hx => ?_⟩
 obtain ⟨b', off', e', hl', _, hr'⟩ := ht.2 q x hx
 exact ⟨b', off', e', hl', List.not_mem_nil, hr'⟩
theorem rNewX2_any (ageing : Int) (pa : Option Addr) (pcap : Nat) (ps : List PortD) (w : World) (xs : List Nat) (hxs : ∀ x ∈ xs, x < w.heap.size) (h : PortsOff [] w pa ps) (hn : ps.length ≤ 1000) :
  Calls Tryz.prog 7 #[.slice pa ps.length pcap, .int .i64 ageing] w fun e w' =>
   (newOkB ageing ps = false ∧ e = .returned (.tuple #[.pointer none, .int .i64 1]) ∧ Below w.heap.size w w') ∨
   (newOkB ageing ps = true ∧ ∃ A, e = .returned (.tuple #[.pointer (some ⟨A.B, 0, none⟩), .int .i64 0]) ∧ NewB w w' A ageing ps ∧ A.ex = w'.heap.size :: xs ∧ ∀ x ∈ [A.B, A.SB, A.LT, A.LM, A.HT, A.HM], x < w'.heap.size) :=
 (rNewX_any ageing pa pcap ps w xs hxs h hn).mono fun e w' h => h.imp id fun ⟨h1, A, h2, h3, h4⟩ => ⟨h1, { A with ex := w'.heap.size :: A.ex }, h2, ⟨h3.below, h3.br.more _ (Nat.le_refl _), h3.lo⟩, by rw [h4], by
  obtain ⟨l1, l2, l3, l4, l5, l6⟩ := h3.br.lts
  intro x hx
  simp only [List.mem_cons, List.not_mem_nil, or_false] at hx
  rcases hx with rfl | rfl | rfl | rfl | rfl | rfl <;> assumption⟩
end
section
open Go.RowKit Go.Shelf
theorem isL_eq {c : LB} {v : Int} {mac : Vector UInt8 6} (h : c.is v mac = true) : v = c.v ∧ mac = c.mac := by
 unfold LB.is at h
 simpa [Bool.and_eq_true, beq_iff_eq] using h
theorem distL_put (c : LB) : ∀ {m : List LB}, DistL m → DistL (putL c m)
 | [], _ => by unfold putL DistL; simp
 | d :: m, h => by
  rw [DistL, List.pairwise_cons] at h
  rw [putL]
  by_cases hc : d.is c.v c.mac = true
  ·
   rw [if_pos hc, DistL, List.pairwise_cons]
   refine ⟨fun b hb => ?_, h.2⟩
   have h1 := h.1 b hb
   obtain ⟨e1, e2⟩ := isL_eq hc
   unfold LB.is at h1 ⊢
   rw [e1, e2]
   exact h1
  ·
   rw [if_neg hc, DistL, List.pairwise_cons]
   refine ⟨fun b hb => ?_, distL_put c h.2⟩
   rcases putL_mem hb with rfl | hb
   ·
    exact Bool.eq_false_iff.2 hc
   ·
    exact h.1 b hb
theorem lenL_put (c : LB) : ∀ m : List LB, (putL c m).length ≤ m.length + 1
 | [] => by simp [putL]
 | d :: m => by
  have h1 := lenL_put c m
  rw [putL]
  by_cases hc : d.is c.v c.mac = true
  ·
   rw [if_pos hc]; simp
  ·
   rw [if_neg hc]; simp; omega
theorem distL_hear {lim v : Int} {mac : Vector UInt8 6} {port : Int} {m : List LB} (h : DistL m) : DistL (hearL lim v mac port m) := by
 unfold hearL
 generalize ((match findL v mac m with | some b => b.port == port | none => false) || decide ((onL port m : Int) < lim)) = b
 cases b
 ·
  exact h
 ·
  exact distL_put _ h
theorem lenL_hear {lim v : Int} {mac : Vector UInt8 6} {port : Int} {m : List LB} : (hearL lim v mac port m).length ≤ m.length + 1 := by
 unfold hearL
 generalize ((match findL v mac m with | some b => b.port == port | none => false) || decide ((onL port m : Int) < lim)) = b
 cases b
 ·
  exact Nat.le_succ _
 ·
  exact lenL_put _ m
theorem keyL {time : Int} {a x : LB} (h : stepL time a = some x) : x.v = a.v ∧ x.mac = a.mac ∧ x.port = a.port ∧ x.age = a.age + 1 ∧ a.age + 1 < time := by
 unfold stepL at h
 split at h
 ·
  cases h
 ·
  cases h
  exact ⟨rfl, rfl, rfl, rfl, by omega⟩
theorem distL_tick (time : Int) {m : List LB} (h : DistL m) : DistL (tickL time m) := by
 unfold DistL tickL at *
 rw [List.pairwise_filterMap]
 refine h.imp fun {a b} hab x hx y hy => ?_
 obtain ⟨h1, h2, _⟩ := keyL hx
 obtain ⟨h3, h4, _⟩ := keyL hy
 unfold LB.is at *
 rw [h1, h2, h3, h4]
 exact hab
def tickS (s : BrS) : BrS := { s with st := tickL s.ageing s.st, bi := tickH s.ageing s.bi }
theorem tickS_good {s : BrS} {N : Nat} (g : BrG s N) : BrG (tickS s) N := by
 refine ⟨g.n32, distL_tick _ g.std, fun b hb => ?_, Nat.le_trans (List.length_filterMap_le _ _) g.stn, fun b hb => ?_, dist_tick _ g.bid, age_tick g.age.2 g.bia, Nat.le_trans (List.length_filterMap_le _ _) g.bin, g.cs, g.age⟩
 ·
  obtain ⟨a, ha, hab⟩ := List.mem_filterMap.1 hb
  obtain ⟨_, _, e, _⟩ := keyL hab
  obtain ⟨j, h1, h2⟩ := g.stp a ha
  exact ⟨j, e.trans h1, h2⟩
 ·
  obtain ⟨a, ha, hab⟩ := List.mem_filterMap.1 hb
  obtain ⟨_, _, _, e, hlt⟩ := keyL hab
  have := g.sta a ha
  have := g.age.2
  omega
theorem BrG.more {s : BrS} {N M : Nat} (g : BrG s N) (h : N ≤ M) : BrG s M :=
 ⟨g.n32, g.std, g.stp, Nat.le_trans g.stn h, g.sta, g.bid, g.bia, g.bin, by obtain ⟨h0, h1, h2, h3, h4⟩ := g.cs; omega, g.age⟩
theorem comeD_good {s : BrS} {N : Nat} (g : BrG s N) {k : Nat} (hk : k < s.ports.length) (d : EthD) (t : TalkD) : BrG (comeD s k d t).1 (N + 1) := by
 obtain ⟨h0, h1, h2, h3, h4⟩ := g.cs
 have hst : ∀ v : Int, DistL (hearL (s.port k).lim v d.src k s.st) ∧ (∀ b ∈ hearL (s.port k).lim v d.src k s.st, ∃ j : Nat, b.port = (j : Int) ∧ j < s.ports.length) ∧ (hearL (s.port k).lim v d.src k s.st).length ≤ N + 1 ∧ (∀ b ∈ hearL (s.port k).lim v d.src k s.st, 0 ≤ b.age ∧ b.age ≤ 1000000) := fun v => by
  refine ⟨distL_hear g.std, hear_ports g rfl hk, Nat.le_trans lenL_hear (by have := g.stn; omega), fun b hb => ?_⟩
  rcases hear_mem hb with e | e
  ·
   rw [e]; exact ⟨by simp, by simp⟩
  ·
   exact g.sta b e
 have hn := g.stn
 unfold comeD
 split
 ·
  exact ⟨g.n32, g.std, g.stp, by show s.st.length ≤ N + 1; omega, g.sta, g.bid, g.bia, g.bin, by dsimp only; omega, g.age⟩
 ·
  split
  ·
   exact ⟨g.n32, g.std, g.stp, by show s.st.length ≤ N + 1; omega, g.sta, g.bid, g.bia, g.bin, by dsimp only; omega, g.age⟩
  ·
   split
   ·
    exact ⟨g.n32, g.std, g.stp, by show s.st.length ≤ N + 1; omega, g.sta, g.bid, g.bia, g.bin, by dsimp only; omega, g.age⟩
   ·
    dsimp only
    obtain ⟨q1, q2, q3, q4⟩ := hst (inP (s.port k).native (s.port k).tagged d.vlan).1
    split
    ·
     exact ⟨g.n32, q1, q2, q3, q4, g.bid, g.bia, g.bin, by dsimp only; omega, g.age⟩
    ·
     split
     ·
      exact ⟨g.n32, q1, q2, q3, q4, dist_learn g.bid, age_learn g.bia, len_learn g.bin, by dsimp only; omega, g.age⟩
     ·
      exact ⟨g.n32, q1, q2, q3, q4, dist_learn g.bid, age_learn g.bia, len_learn g.bin, by dsimp only; omega, g.age⟩
theorem comeS_good {s : BrS} {N : Nat} (g : BrG s N) {k : Nat} (hk : k < s.ports.length) (l : List UInt8) (t : TalkD) : BrG (comeS s k l t).1 (N + 1) := by
 obtain ⟨h0, h1, h2, h3, h4⟩ := g.cs
 have hn := g.stn
 unfold comeS
 split
 ·
  exact ⟨g.n32, g.std, g.stp, by show s.st.length ≤ N + 1; omega, g.sta, g.bid, g.bia, g.bin, by dsimp only; omega, g.age⟩
 ·
  exact comeD_good g hk _ t
theorem comeD_ports (s : BrS) (k : Nat) (d : EthD) (t : TalkD) : (comeD s k d t).1.ports = s.ports ∧ (comeD s k d t).1.states = s.states ∧ (comeD s k d t).1.ageing = s.ageing := by
 unfold comeD
 split
 ·
  exact ⟨rfl, rfl, rfl⟩
 ·
  split
  ·
   exact ⟨rfl, rfl, rfl⟩
  ·
   split
   ·
    exact ⟨rfl, rfl, rfl⟩
   ·
    dsimp only
    split
    ·
     exact ⟨rfl, rfl, rfl⟩
    ·
     split <;> exact ⟨rfl, rfl, rfl⟩
theorem comeS_ports (s : BrS) (k : Nat) (l : List UInt8) (t : TalkD) : (comeS s k l t).1.ports = s.ports ∧ (comeS s k l t).1.states = s.states ∧ (comeS s k l t).1.ageing = s.ageing := by
 unfold comeS
 split
 ·
  exact ⟨rfl, rfl, rfl⟩
 ·
  exact comeD_ports s k _ t
structure HearI (ps : List PortD) (st1 : List LB) (ok : Bool) (j : Nat) (s : BrS) : Prop where
 ports : s.ports = ps
 sts : s.states.length = ps.length
 st : s.st = if j ≤ 2 then [] else st1
 c0 : s.c0 = 0
 c1 : s.c1 = 0
 c2 : s.c2 = if j ≤ 3 then (j : Int) else 3
 cs : s.c3 + s.c4 = if j ≤ 3 then 0 else 1
 p3 : 0 ≤ s.c3
 p4 : 0 ≤ s.c4
 ans : s.c4 ≠ 0 → ok = true
 bi : j ≤ 3 → s.bi = []
 g : BrG s j
def st1 (lim v : Int) (mac : Vector UInt8 6) (k : Nat) : List LB := if 0 < lim then [⟨v, mac, k, 0⟩] else []
end
section
open Go.RowKit Go.Shelf
structure KnowD (n : Int) (ps : List PortD) (p q : Nat) (P Q : PortD) : Prop where
 ok : newOkB n ps = true
 hp : ps[p]? = some P
 hq : ps[q]? = some Q
 ne : p ≠ q
 v : P.native ≠ 0
 lp : P.lim ≠ 0
 lq : Q.lim ≠ 0
 mem : memberP Q.native Q.tagged P.native = true
def allOn (n : Int) (ps : List PortD) : BrS := sJ n ps (fun _ => 3) ps.length
structure KnowI (n : Int) (ps : List PortD) (st : List LB) (N : Nat) (s : BrS) : Prop where
 ports : s.ports = ps
 age : s.ageing = n
 sts : ∀ i, i < ps.length → s.states.getD i 0 = 3
 stl : s.states = (allOn n ps).states
 st : s.st = st
 g : BrG s N
section
variable {n : Int} {ps : List PortD} {p q : Nat} {P Q : PortD} (K : KnowD n ps p q P Q)
include K
theorem KnowD.lims : 0 < P.lim ∧ 0 < Q.lim := by
 have h := (newG n ps K.ok).2.2.2
 have h1 := h P (List.mem_of_getElem? K.hp)
 have h2 := h Q (List.mem_of_getElem? K.hq)
 have := K.lp
 have := K.lq
 omega
theorem KnowD.right : rightP P.native P.tagged = true := by
 have h := (newG n ps K.ok).2.2.1 P (List.mem_of_getElem? K.hp)
 unfold okPort at h
 simp only [Bool.and_eq_true] at h
 exact h.1.1
theorem KnowI.port {s : BrS} {st : List LB} {N : Nat} (h : KnowI n ps st N s) : s.port p = P ∧ s.port q = Q := by
 unfold BrS.port
 rw [h.ports, List.getD_eq_getElem?_getD, List.getD_eq_getElem?_getD, K.hp, K.hq]
 exact ⟨rfl, rfl⟩
def KnowD.may (_ : KnowD n ps p q P Q) : Bool := Q.hor == 0 || Q.hor != P.hor
end
end
section
open Go.RowKit Go.Shelf
structure OutOk (s : BrS) (k : Nat) (d : EthD) (v : Int) (ans : Bool) (n : Nat) (x : Nat × List UInt8) (dst src : Vector UInt8 6) (ty : Int) (body : List UInt8) : Prop where
 str : x.2 = ethS dst src ty body (outP (s.port x.1).native v d.prio).1 (outP (s.port x.1).native v d.prio).2
 right : rightB ty (outP (s.port x.1).native v d.prio).1 (outP (s.port x.1).native v d.prio).2 body.length = true
 lt : x.1 < s.ports.length
 mem : memberP (s.port x.1).native (s.port x.1).tagged v = true
 st : s.states.getD x.1 0 = 3
 yes : ans = true → x.1 = k ∧ dst = d.src ∧ n = 1
 no : ans = false → x.1 ≠ k ∧ dst = d.dst ∧ src = d.src ∧ ty = d.ty ∧ body = d.body
structure OnceI (s : BrS) (k : Nat) (d : EthD) (outs : List (Nat × List UInt8)) (ans : Bool) (v : Int) : Prop where
 st : s.states.getD k 0 = 3
 inp : inP (s.port k).native (s.port k).tagged d.vlan = (v, 0)
 each : ∀ x ∈ outs, ∃ dst src ty body, OutOk s k d v ans outs.length x dst src ty body
 asc : outs.Pairwise fun a b => a.1 < b.1
end
end Go.Proofs.YtckckabedgpbiaaGreat
