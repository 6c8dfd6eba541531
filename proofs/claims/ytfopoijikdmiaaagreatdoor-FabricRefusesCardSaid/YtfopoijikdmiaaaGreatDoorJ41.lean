/- Texts of this proof, merged: OfC, FabA, FabB, RefC. -/
import Derived.Test.YtfopoijikdmiaaaGreatDoorJ28
import Derived.Test.YtfopoijikdmiaaaGreatDoorJ38
import Derived.Test.YtfopoijikdmiaaaGreatDoorCfaJ
import Derived.Test.YtfopoijikdmiaaaGreatDoorJ27
import Derived.Test.YtfopoijikdmiaaaGreatDoorJ9
set_option linter.unusedSimpArgs false
set_option linter.unusedVariables false
set_option maxHeartbeats 8000000
set_option maxRecDepth 20000
namespace Go.Proofs.YtfopoijikdmiaaaGreatDoor
section
open Go.RowKit Go.Shelf
theorem xportInfo : (Tryz.prog.info? 137).map (fun i => (i.zero.map (·.cells.size), i.size, i.bytes)) = some (some 39, 39, 104) := by kernel_rfl
theorem pxr_load {W : World} {b o : Nat} {ta : Option Addr} {cap : Nat} {x : PortX} (h : W.rangeAt b o (portXV ta cap x)) : (loadS 58 (.pointer (some ⟨b, o, none⟩))).run Tryz.prog W = .ok (.agg (portXV ta cap x).toArray) W := run_loadS_at h (by simp [portXV])
def fewC (ps : List PortX) : Bool := decide (ps.length ≤ 50) && ps.all fun x => decide (x.p.tagged.length ≤ 100)
def PXOwn (w0 w : World) (B : Nat) (pa : Option Addr) (cap : Nat) (ps : List PortX) : Prop :=
 ∃ prow : List (List Value), OwnL w B 137 39 (.slice pa ps.length cap) prow ∧ ∀ (q : Nat) (x : PortX), ps[q]? = some x → ∃ ta tc, prow[q]? = some (portXV ta tc x) ∧ ElemsOff [] w0 ta 1 (x.p.tagged.map fun v => [Value.int .i64 v])
theorem PXOwn.px {w0 w : World} {B : Nat} {pa : Option Addr} {cap : Nat} {ps : List PortX} (h : PXOwn w0 w B pa cap ps) (hb : Below w0.heap.size w0 w) (hn : ps.length ≤ 1000) : PXOff [] w pa ps := by
 obtain ⟨prow, ho, hr⟩ := h
 obtain ⟨a', c', e, he⟩ := ho.off [] (fun s hs => by cases hs)
 simp only [Value.slice.injEq] at e
 obtain ⟨rfl, _, rfl⟩ := e
 refine ⟨by unfold maxLen; omega, fun q r hq => ?_⟩
 obtain ⟨ta, tc, e1, e2⟩ := hr q r hq
 obtain ⟨b, off, e3, hb2, hn2, hra⟩ := he.2 q _ e1
 exact ⟨b, off, ta, tc, e3, hb2, hn2, hra, e2.below hb⟩
theorem ofCO_any (id : Vector UInt8 8) (ma he de ageing : Int) (pa : Option Addr) (cap : Nat) (ps : List PortX) (wA w : World) (hA : Below wA.heap.size wA w) (h : PXOff [] wA pa ps) (hn : ps.length ≤ 1000) :
  Calls Tryz.prog 39 #[.agg (confV id ma he de ageing pa ps.length cap).toArray] w fun e w' => (∃ pa' cap', e = .returned (.agg (confV id ma he de ageing pa' ps.length cap').toArray) ∧ PXOwn wA w' w.heap.size pa' cap' ps) ∧ Below w.heap.size w w' := by
 have hnI : (ps.length : Int) ≤ 1000 := by omega
 unfold confV
 go_enter Tryz.func39, Tryz.ntmps39
 obtain ⟨w1, hw1⟩ : ∃ x, w.alloc (.cells (u8v id ++ [Value.int .i64 ma, Value.int .i64 he, Value.int .i64 de, Value.int .i64 ageing, Value.slice pa ps.length cap]).toArray 54) = x := ⟨_, rfl⟩
 have b1 : Below w.heap.size w w1 := by rw [← hw1]; exact ba_
 have z1 : w1.heap.size = w.heap.size + 1 := by rw [← hw1, alloc_sizeW]
 have rC1 : row w1 w.heap.size = (u8v id ++ [Value.int .i64 ma, Value.int .i64 he, Value.int .i64 de, Value.int .i64 ageing, Value.slice pa ps.length cap]).toArray := by rw [← hw1]; exact row_alloc_at _ _ _ rfl
 have hz : (zeros 1 (Value.int .i64 0)).tail = [] := rfl
 have hz2 : (zeros 1 (Value.int .i64 0) ++ [Value.slice none 0 0]).tail = [Value.slice none 0 0] := rfl
 go_wp2_with fail
 obtain ⟨w3, hw3⟩ : ∃ x, (w1.alloc (.cells (zeros 8 (Value.int .u8 0) ++ (zeros 4 (Value.int .i64 0) ++ [Value.slice none 0 0])).toArray 106)).alloc (.cells (u8v id ++ [Value.int .i64 ma, Value.int .i64 he, Value.int .i64 de, Value.int .i64 ageing, Value.slice none 0 0]).toArray 106) = x := ⟨_, rfl⟩
 have b3 : Below w1.heap.size w1 w3 := by rw [← hw3]; exact Below.alloc (ba_) (by simp) _
 have z3 : w3.heap.size = w.heap.size + 3 := by rw [← hw3, alloc_sizeW, alloc_sizeW, z1]
 have rR3 : row w3 (w.heap.size + 1) = (zeros 8 (Value.int .u8 0) ++ (zeros 4 (Value.int .i64 0) ++ [Value.slice none 0 0])).toArray := by rw [← hw3]; simp [go_sem, z1]
 have rX3 : row w3 (w.heap.size + 1 + 1) = (u8v id ++ [Value.int .i64 ma, Value.int .i64 he, Value.int .i64 de, Value.int .i64 ageing, Value.slice none 0 0]).toArray := by rw [← hw3]; simp [go_sem, z1]
 have rC3 := (row_below b3 (by omega)).trans rC1
 have B3 : Below w.heap.size w w3 := b1.trans (b3.mono (by omega))
 rw [hw3]
 (try clear hw1)
 have q0 : w.heap.size + 1 + 1 < w3.heap.size := by omega
 clear hw3 rC1 b1 b3 hz hz2 z1 z3
 go_loopw [4] (fun i wr => ∃ (k : Nat) (ppa : Option Addr) (ppc : Nat) (rows : List (List Value)), k ≤ ps.length ∧ i = .int .i64 k ∧ rows.length = k ∧ OwnL wr w3.heap.size 137 39 (.slice ppa k ppc) rows ∧
  (∀ (q : Nat) (r : PortX), q < k → ps[q]? = some r → ∃ ta tc, rows[q]? = some (portXV ta tc r) ∧ ElemsOff [] wA ta 1 (r.p.tagged.map fun v => [Value.int .i64 v])) ∧ row wr (w.heap.size + 1 + 1) = (u8v id ++ [Value.int .i64 ma, Value.int .i64 he, Value.int .i64 de, Value.int .i64 ageing, Value.slice ppa k ppc]).toArray ∧ BelowBut w3.heap.size (w.heap.size + 1 + 1) w3 wr) (fun i _ => ps.length - (intOf i).toNat)
 case atStart => exact ⟨0, none, 0, [], by omega, rfl, rfl, OwnL.nil _ _ _ _, (fun q r hq _ => by omega), rX3, BelowBut.of (Below.refl _ _)⟩
 case round =>
  obtain ⟨k, ppa, ppc, rows, hk, rfl, hrl, hown, hrows, rX, cb⟩ := hrel
  have zb := cb.size
  have rC := (cb.row (show w.heap.size < w3.heap.size by omega) (by omega)).trans rC3
  have rR := (cb.row (show w.heap.size + 1 < w3.heap.size by omega) (by omega)).trans rR3
  have cbw : Below w.heap.size w wr := B3.trans ((cb.mono (show w.heap.size ≤ w3.heap.size by omega)).below (by omega))
  by_cases hlt : k < ps.length
  ·
   have hltI : (k : Int) < (ps.length : Int) := by omega
   obtain ⟨pb, po, ta, tc, rfl, hpb, hrd⟩ := h.get hlt
   obtain ⟨x, hx⟩ : ∃ x, ps[k] = x := ⟨_, rfl⟩
   rw [hx] at hrd
   have hld := pxr_load (hrd wr (BelowS.of (hA.trans (cbw.mono hA.size)))).1
   have hit := (hrd wA (BelowS.of (Below.refl _ _))).2
   obtain ⟨o, ho⟩ : ∃ o, po + k * 39 = o := ⟨_, rfl⟩
   rw [ho] at hld
   have HIT := h_ hit
   have HX := h_ hx
   have HRW := h_ hrows
   have HOW := h_ hown
   clear hrd hit hx hrows hown
   unfold portXV at hld
   obtain ⟨w4, hw4⟩ : ∃ y, wr.alloc (.cells (Value.int .i64 x.p.native :: Value.slice ta x.p.tagged.length tc :: Value.int .i64 x.p.hor :: Value.int .i64 x.p.lim :: Value.bool x.link :: Value.int .i64 x.rate :: Value.bool x.greets :: u8v x.psk).toArray 58) = y := ⟨_, rfl⟩
   have b4 : Below wr.heap.size wr w4 := by rw [← hw4]; exact ba_
   have z4 : w4.heap.size = wr.heap.size + 1 := by rw [← hw4, alloc_sizeW]
   have r4 : row w4 wr.heap.size = (Value.int .i64 x.p.native :: Value.slice ta x.p.tagged.length tc :: Value.int .i64 x.p.hor :: Value.int .i64 x.p.lim :: Value.bool x.link :: Value.int .i64 x.rate :: Value.bool x.greets :: u8v x.psk).toArray := by rw [← hw4]; exact row_alloc_at _ _ _ rfl
   have rX4 := (row_below b4 (show w.heap.size + 1 + 1 < wr.heap.size by omega)).trans rX
   have own4 := HOW.out.below b4
   have HO4 := h_ own4
   have hle10 : rows.length ≤ 10000 := by omega
   have HL := h_ hle10
   have k34 : w3.heap.size ≤ w4.heap.size := by omega
   have HZ4 := h_ z4
   clear own4 hle10 z4
   have hf : List.foldl (fun (cs : Array Value) (y : Value × Nat) => cs.setIfInBounds y.2 y.1) #[Value.int .i64 x.p.native, Value.slice ta x.p.tagged.length tc, Value.int .i64 x.p.hor, Value.int .i64 x.p.lim, Value.bool x.link, Value.int .i64 x.rate, Value.bool x.greets, Value.int .u8 0, Value.int .u8 0, Value.int .u8 0, Value.int .u8 0, Value.int .u8 0, Value.int .u8 0, Value.int .u8 0, Value.int .u8 0, Value.int .u8 0, Value.int .u8 0, Value.int .u8 0, Value.int .u8 0, Value.int .u8 0, Value.int .u8 0, Value.int .u8 0, Value.int .u8 0, Value.int .u8 0, Value.int .u8 0, Value.int .u8 0, Value.int .u8 0, Value.int .u8 0, Value.int .u8 0, Value.int .u8 0, Value.int .u8 0, Value.int .u8 0, Value.int .u8 0, Value.int .u8 0, Value.int .u8 0, Value.int .u8 0, Value.int .u8 0, Value.int .u8 0, Value.int .u8 0] ((u8v x.psk).zipIdx 7) = (Value.int .i64 x.p.native :: Value.slice ta x.p.tagged.length tc :: Value.int .i64 x.p.hor :: Value.int .i64 x.p.lim :: Value.bool x.link :: Value.int .i64 x.rate :: Value.bool x.greets :: u8v x.psk).toArray := fold_at (u8v x.psk) [Value.int .i64 x.p.native, Value.slice ta x.p.tagged.length tc, Value.int .i64 x.p.hor, Value.int .i64 x.p.lim, Value.bool x.link, Value.int .i64 x.rate, Value.bool x.greets] [Value.int .u8 0, Value.int .u8 0, Value.int .u8 0, Value.int .u8 0, Value.int .u8 0, Value.int .u8 0, Value.int .u8 0, Value.int .u8 0, Value.int .u8 0, Value.int .u8 0, Value.int .u8 0, Value.int .u8 0, Value.int .u8 0, Value.int .u8 0, Value.int .u8 0, Value.int .u8 0, Value.int .u8 0, Value.int .u8 0, Value.int .u8 0, Value.int .u8 0, Value.int .u8 0, Value.int .u8 0, Value.int .u8 0, Value.int .u8 0, Value.int .u8 0, Value.int .u8 0, Value.int .u8 0, Value.int .u8 0, Value.int .u8 0, Value.int .u8 0, Value.int .u8 0, Value.int .u8 0] (by simp)
   have hx39 : (Value.int .i64 x.p.native :: Value.slice ta x.p.tagged.length tc :: Value.int .i64 x.p.hor :: Value.int .i64 x.p.lim :: Value.bool x.link :: Value.int .i64 x.rate :: Value.bool x.greets :: u8v x.psk).length = 39 := by simp
   have hx1 : ones (Value.int .i64 x.p.native :: Value.slice ta x.p.tagged.length tc :: Value.int .i64 x.p.hor :: Value.int .i64 x.p.lim :: Value.bool x.link :: Value.int .i64 x.rate :: Value.bool x.greets :: u8v x.psk) = true := by simp
   have HX39 := h_ hx39
   have HX1 := h_ hx1
   clear hx39 hx1
   go_wp2_with (at_builtin; (refine wpList_appendB rfl rfl Tryz.underlying104 xportInfo (by decide) (by decide) w3.heap.size _ _ rfl HO4.out (Value.int .i64 x.p.native :: Value.slice ta x.p.tagged.length tc :: Value.int .i64 x.p.hor :: Value.int .i64 x.p.lim :: Value.bool x.link :: Value.int .i64 x.rate :: Value.bool x.greets :: u8v x.psk) rfl HX39.out HX1.out HL.out k34 ?_))
   intro v5 w5 hown5 b5 hk5
   obtain ⟨ppa5, ppc5, hv5, _⟩ := hown5.elems
   simp only [List.length_append, List.length_singleton, hrl] at hv5
   subst hv5
   have z5 : w4.heap.size ≤ w5.heap.size := b5.size
   have rX5 := (row_beside HO4.out (show w.heap.size + 1 + 1 < w4.heap.size by omega) (show w.heap.size + 1 + 1 < w3.heap.size by omega) hk5).trans rX4
   obtain ⟨w6, hw6⟩ : ∃ y, w5.setRow (w.heap.size + 1 + 1) (u8v id ++ [Value.int .i64 ma, Value.int .i64 he, Value.int .i64 de, Value.int .i64 ageing, Value.slice ppa5 (k + 1) ppc5]).toArray = y := ⟨_, rfl⟩
   have rX6 : row w6 (w.heap.size + 1 + 1) = (u8v id ++ [Value.int .i64 ma, Value.int .i64 he, Value.int .i64 de, Value.int .i64 ageing, Value.slice ppa5 (k + 1) ppc5]).toArray := by rw [← hw6]; exact row_setRow_same (by rw [rX5]; simp) (by rw [rX5]; simp)
   have hk6 : ∀ X, w3.heap.size ≤ X → w6.heap[X]? = w5.heap[X]? := fun X hX => by rw [← hw6]; exact setRow_block_other _ _ _ (by omega)
   have cb6 : BelowBut w3.heap.size (w.heap.size + 1 + 1) w3 w6 := by rw [← hw6]; exact ((cb.trans ((BelowBut.of b4).mono (by omega))).trans (BelowBut.of b5)).trans (BelowBut.set _ _)
   have HO6 := h_ (hown5.keep fun X hX => hk6 X (hown5.blk hX).1)
   have hrows6 : ∀ (q : Nat) (r : PortX), q < k + 1 → ps[q]? = some r → ∃ ta' tc', (rows ++ [(Value.int .i64 x.p.native :: Value.slice ta x.p.tagged.length tc :: Value.int .i64 x.p.hor :: Value.int .i64 x.p.lim :: Value.bool x.link :: Value.int .i64 x.rate :: Value.bool x.greets :: u8v x.psk)])[q]? = some (portXV ta' tc' r) ∧ ElemsOff [] wA ta' 1 (r.p.tagged.map fun v => [Value.int .i64 v]) := by
    intro q r hq hr
    by_cases hqk : q < k
    ·
     obtain ⟨ta', tc', e1, e2⟩ := HRW.out q r hqk hr
     exact ⟨ta', tc', by rw [List.getElem?_append_left (by omega)]; exact e1, e2⟩
    ·
     have hqe : q = k := by omega
     subst hqe
     rw [List.getElem?_eq_getElem hlt, HX.out] at hr
     cases hr
     exact ⟨ta, tc, by rw [List.getElem?_append_right (by omega), hrl, Nat.sub_self]; rfl, HIT.out⟩
   have HRW6 := h_ hrows6
   clear hrows6 hown5 hk5 hk6 HRW HO4 HOW b4 b5 rX4 rX r4 hld
   go_wp2_with fail
   (try rw [hw6])
   (try clear hw6)
   go_roundw
   case rel => exact ⟨k + 1, ppa5, ppc5, _, by omega, by simp, by simp [hrl], HO6.out, HRW6.out, rX6, cb6⟩
   case measure => simp [intOf]; omega
  ·
   obtain rfl : k = ps.length := by omega
   have hltI : ¬ (ps.length : Int) < (ps.length : Int) := by omega
   have HOW := h_ hown
   have HRW := h_ hrows
   have hC1 : ones (u8v id ++ [Value.int .i64 ma, Value.int .i64 he, Value.int .i64 de, Value.int .i64 ageing, Value.slice ppa ps.length ppc]) = true := by simp
   clear hown hrows
   obtain ⟨w7, hw7⟩ : ∃ y, wr.setRow (w.heap.size + 1) (u8v id ++ [Value.int .i64 ma, Value.int .i64 he, Value.int .i64 de, Value.int .i64 ageing, Value.slice ppa ps.length ppc]).toArray = y := ⟨_, rfl⟩
   have rR7 : row w7 (w.heap.size + 1) = (u8v id ++ [Value.int .i64 ma, Value.int .i64 he, Value.int .i64 de, Value.int .i64 ageing, Value.slice ppa ps.length ppc]).toArray := by rw [← hw7]; exact row_setRow_same (by rw [rR]; simp) (by rw [rR]; simp)
   have B7 : Below w.heap.size w w7 := by rw [← hw7]; exact Below.setRow cbw (by omega) _
   have hk7 : ∀ X, w3.heap.size ≤ X → w7.heap[X]? = wr.heap[X]? := fun X hX => by rw [← hw7]; exact setRow_block_other _ _ _ (by omega)
   have HO7 := h_ (HOW.out.keep fun X hX => hk7 X (HOW.out.blk hX).1)
   clear hk7
   go_wp2_with fail
   (try rw [hw7])
   (try clear hw7)
   (try simp only [Exit.inBlock, Exit.then])
   refine bodyPost_ret (results_1 rfl (resOk_row rfl ?_)) rfl ?_
   ·
    rw [rR7]; simp
   exact ⟨⟨ppa, ppc, by rw [rR7], _, HO7.out.lower (by omega), fun q r hr => HRW.out q r (List.getElem?_eq_some_iff.1 hr).1 hr⟩, B7⟩
end
section
open Go.RowKit Go.Shelf
structure ConfX where
 id : Vector UInt8 8
 ma : Int
 he : Int
 de : Int
 ageing : Int
 ps : List PortX
def confXV (pa : Option Addr) (cap : Nat) (c : ConfX) : List Value := confV c.id c.ma c.he c.de c.ageing pa c.ps.length cap
def ConfsAt (w : World) (ca : Option Addr) (cs : List ConfX) : Prop :=
 ∃ rows : List (List Value), rows.length = cs.length ∧ ElemsAt w ca 13 rows ∧ ∀ (i : Nat) (c : ConfX), cs[i]? = some c → ∃ pa cap, rows[i]? = some (confXV pa cap c) ∧ PXOff [] w pa c.ps
theorem ConfsAt.below {w w' : World} {ca : Option Addr} {cs : List ConfX} (h : ConfsAt w ca cs) (hb : Below w.heap.size w w') : ConfsAt w' ca cs := by
 obtain ⟨rows, h1, h2, h3⟩ := h
 refine ⟨rows, h1, h2.below hb, fun i c hc => ?_⟩
 obtain ⟨pa, cap, e1, e2⟩ := h3 i c hc
 exact ⟨pa, cap, e1, e2.below hb⟩
theorem ConfsAt.get {w : World} {ca : Option Addr} {cs : List ConfX} (h : ConfsAt w ca cs) {k : Nat} (hk : k < cs.length) : ∃ b off pa cap, ca = some ⟨b, off, none⟩ ∧ b < w.heap.size ∧
  (∀ W, Below w.heap.size w W → W.rangeAt b (off + k * 13) (confXV pa cap cs[k]) ∧ PXOff [] W pa cs[k].ps) := by
 obtain ⟨rows, h1, h2, h3⟩ := h
 obtain ⟨pa, cap, e1, e2⟩ := h3 k cs[k] (List.getElem?_eq_getElem hk)
 obtain ⟨b, off, e3, hb, hr⟩ := h2.2 k _ e1
 exact ⟨b, off, pa, cap, e3, hb, fun W hW => ⟨hr W (blk_below hW hb), e2.below hW⟩⟩
theorem ConfsAt.len {w : World} {ca : Option Addr} {cs : List ConfX} (h : ConfsAt w ca cs) : cs.length ≤ maxLen := by
 obtain ⟨rows, h1, h2, _⟩ := h
 rw [← h1]
 exact h2.1
structure WireX where
 a : Int
 i : Int
 b : Int
 j : Int
def wireC (x : WireX) : List Value := [.int .i64 x.a, .int .i64 x.i, .int .i64 x.b, .int .i64 x.j]
def WiresAt (w : World) (wa : Option Addr) (ws : List WireX) : Prop := ElemsAt w wa 4 (ws.map wireC)
theorem WiresAt.below {w w' : World} {wa : Option Addr} {ws : List WireX} (h : WiresAt w wa ws) (hb : Below w.heap.size w w') : WiresAt w' wa ws := ElemsAt.below h hb
theorem WiresAt.get {w : World} {wa : Option Addr} {ws : List WireX} (h : WiresAt w wa ws) {k : Nat} (hk : k < ws.length) : ∃ b off, wa = some ⟨b, off, none⟩ ∧ b < w.heap.size ∧ ∀ W, Below w.heap.size w W → W.rangeAt b (off + k * 4) (wireC ws[k]) := by
 obtain ⟨b, off, e, hb, hr⟩ := h.2 k (wireC ws[k]) (by rw [List.getElem?_map, List.getElem?_eq_getElem hk]; rfl)
 exact ⟨b, off, e, hb, fun W hW => hr W (blk_below hW hb)⟩
def planV (ca : Option Addr) (nc cc : Nat) (wa : Option Addr) (nw wc : Nat) (r k p d room : Int) (seed : List UInt8) : List Value :=
 [.slice ca nc cc, .slice wa nw wc, .int .i64 r, .int .i64 k, .int .i64 p, .int .i64 d, .int .i64 room, .string ⟨seed.toArray⟩]
section
variable {H : Type} {enc : TypeId × Value → H} {P : Program} {w : World} {base : Nat} {spare : Nat → Bool} {held : Bool} {fuel : Nat} {t e : TypeId}
theorem open_sliceN {n : Nat} {c : Value} {x : DataW H × List MemPlace} (hu : P.underlying t = some (.slice e)) (hc : P.cellsOf e = n) (hn : 0 < n) (Good : List Value → Prop)
  (he : ∀ fuel cs x, DataW.trod enc P w base spare held fuel e cs = some x → Good cs ∧ cs.length = n) (h : DataW.trod enc P w base spare held fuel t [c] = some x) :
  ∃ a l cap, c = .slice a (List.length (α := List Value) l) cap ∧ ElemsAt w a n l ∧ ∀ y ∈ l, Good y := by
 rcases Go.Deep.open_slice hu h with ⟨h1, _⟩ | ⟨a', len, cap, m, n', D, Pl, h1, hb, hl, hm, hmm, _, hxx⟩
 ·
  rw [List.cons.injEq] at h1
  exact ⟨none, [], 0, h1.1, ElemsAt.nil _ _ _, fun y hy => by cases hy⟩
 ·
  rw [List.cons.injEq] at h1
  obtain ⟨rfl, _⟩ := h1
  have hlm : len ≤ m := by rw [hmm]; split <;> omega
  have hget : ∀ i, i < len → ∃ cs : List Value, w.cells? base (Addr.add a' (i * n)) n = some cs ∧ Good cs ∧ cs.length = n := by
   intro i hi
   obtain ⟨cs', c1, c2⟩ := hxx i (by omega)
   rw [hc] at c1
   obtain ⟨g1, g2⟩ := he _ _ _ c2
   exact ⟨cs', c1, g1, g2⟩
  obtain ⟨f, hf⟩ : ∃ f : Nat → List Value, ∀ i, i < len → w.cells? base (Addr.add a' (i * n)) n = some (f i) ∧ Good (f i) ∧ (f i).length = n := by
   refine ⟨fun i => if hi : i < len then Classical.choose (hget i hi) else [], fun i hi => ?_⟩
   dsimp only
   rw [dif_pos hi]
   exact Classical.choose_spec (hget i hi)
  refine ⟨some a', (List.range len).map f, cap, by simp, ⟨by simp; omega, fun i r hr => ?_⟩, fun y hy => ?_⟩
  ·
   rw [List.getElem?_map] at hr
   have hi : i < len := by
    rcases Nat.lt_or_ge i len with h | h
    ·
     exact h
    ·
     rw [List.getElem?_eq_none (by simpa using h)] at hr; simp at hr
   rw [List.getElem?_range hi] at hr
   simp only [Option.map_some, Option.some.injEq] at hr
   subst hr
   obtain ⟨g1, g2, g3⟩ := hf i hi
   obtain ⟨_, hlen, c3⟩ := World.cells?_some g1
   have h0 := c3 0 (by omega)
   have hsp : a'.spot = none := by
    obtain ⟨q1, _, q5⟩ := hf 0 (by omega)
    obtain ⟨_, _, q3⟩ := World.cells?_some q1
    have q4 := q3 0 (by omega)
    rw [Nat.zero_mul, addr_add0, addr_add0, List.getElem?_eq_getElem (by omega)] at q4
    exact cell_spot q4
   obtain ⟨b, off, sp⟩ := a'
   dsimp only at hsp
   subst hsp
   have hlt : b < w.heap.size := by
    rcases Nat.lt_or_ge b w.heap.size with hlt | hge
    ·
     exact hlt
    ·
     rw [addr_add, addr_add, List.getElem?_eq_getElem (by omega)] at h0
     simp [World.cell?, Array.getElem?_eq_none hge] at h0
   refine ⟨b, off, rfl, hlt, fun W hW j u hj => ?_⟩
   have hjl := (List.getElem?_eq_some_iff.1 hj).1
   have c4 := c3 j (by omega)
   rw [hj, addr_add, addr_add] at c4
   rw [← c4]
   have hW2 : W.heap[b]? = w.heap[b]? := hW
   simp only [World.cell?, hW2]
  ·
   obtain ⟨i, hi, rfl⟩ := List.mem_map.1 hy
   exact (hf i (by simpa using hi)).2.1
end
theorem confs_of {w : World} : ∀ (l : List (List Value)), (∀ y ∈ l, ∃ (c : ConfX) (pa : Option Addr) (cap : Nat), y = confXV pa cap c ∧ PXOff [] w pa c.ps) → ∃ cs : List ConfX, l.length = cs.length ∧ ∀ (i : Nat) (c : ConfX), cs[i]? = some c → ∃ pa cap, l[i]? = some (confXV pa cap c) ∧ PXOff [] w pa c.ps
 | [], _ => ⟨[], rfl, fun i c h => by simp at h⟩
 | y :: l, h => by
  obtain ⟨c, pa, cap, e1, e2⟩ := h y (by simp)
  obtain ⟨cs, h1, h2⟩ := confs_of l fun z hz => h z (by simp [hz])
  refine ⟨c :: cs, by simp [h1], fun i d hd => ?_⟩
  cases i with
  | zero =>
   simp only [List.getElem?_cons_zero, Option.some.injEq] at hd ⊢
   subst hd
   exact ⟨pa, cap, e1, e2⟩
  | succ i =>
   simp only [List.getElem?_cons_succ] at hd ⊢
   exact h2 i d hd
theorem wires_of : ∀ (l : List (List Value)), (∀ y ∈ l, ∃ x : WireX, y = wireC x) → ∃ ws : List WireX, l = ws.map wireC
 | [], _ => ⟨[], rfl⟩
 | y :: l, h => by
  obtain ⟨x, e1⟩ := h y (by simp)
  obtain ⟨ws, e2⟩ := wires_of l fun z hz => h z (by simp [hz])
  exact ⟨x :: ws, by rw [e1, e2]; rfl⟩
end
section
open Go.RowKit Go.Shelf
theorem good_w4 : GoodT Tryz.prog 24 (leaves 4 (.int .i64)) :=
 good_array (good_int Tryz.underlying3 kr_) Tryz.underlying24 kr_
theorem four_of {l : List Value} (h : goods (leaves 4 (.int .i64)) l) : ∃ a b c d : Int, l = [.int .i64 a, .int .i64 b, .int .i64 c, .int .i64 d] := by
 have hg : goods (leaves 4 (.int .i64)) l := h
 simp only [leaves] at hg
 obtain ⟨t0, q, rfl, _, hg⟩ := goods_int hg
 obtain ⟨t1, q, rfl, _, hg⟩ := goods_int hg
 obtain ⟨t2, q, rfl, _, hg⟩ := goods_int hg
 obtain ⟨t3, q, rfl, _, hg⟩ := goods_int hg
 have := goods_nil hg
 subst this
 exact ⟨t0, t1, t2, t3, rfl⟩
section
variable {H : Type} {enc : TypeId × Value → H} {w : World} {base : Nat} {spare : Nat → Bool} {held : Bool} {fuel : Nat}
theorem open_planT {cs : List Value} {x : DataW H × List MemPlace} (h : DataW.trod enc Tryz.prog w base spare held fuel 26 cs = some x) :
  ∃ ca cl cc wa wl wc r k p d room seed, cs = planV ca (List.length (α := ConfX) cl) cc wa (List.length (α := WireX) wl) wc r k p d room seed ∧ ConfsAt w ca cl ∧ WiresAt w wa wl := by
 have hc8 : Tryz.prog.cellsOf 26 = 8 := by kernel_rfl
 have hc1 : Tryz.prog.cellsOf 3 = 1 := by kernel_rfl
 have hcc : Tryz.prog.cellsOf 22 = 1 := by kernel_rfl
 have hcw : Tryz.prog.cellsOf 23 = 1 := by kernel_rfl
 have hc4 : Tryz.prog.cellsOf 24 = 4 := by kernel_rfl
 have hcs : Tryz.prog.cellsOf 9 = 1 := by kernel_rfl
 have hcf : Tryz.prog.cellsOf 54 = 13 := by kernel_rfl
 obtain ⟨xs, n2, _, _, hl2, hxl, hxs⟩ := DataW.trod_struct Tryz.underlying26 h
 rw [hc8] at hl2
 have f0 : DataW.trod enc Tryz.prog w base spare held n2 22 ((cs.drop 0).take (Tryz.prog.cellsOf 22)) = xs[0]? := hxs 0 _ rfl
 have f1 : DataW.trod enc Tryz.prog w base spare held n2 23 ((cs.drop 1).take (Tryz.prog.cellsOf 23)) = xs[1]? := hxs 1 _ rfl
 have f2 : DataW.trod enc Tryz.prog w base spare held n2 24 ((cs.drop 2).take (Tryz.prog.cellsOf 24)) = xs[2]? := hxs 2 _ rfl
 have f3 : DataW.trod enc Tryz.prog w base spare held n2 3 ((cs.drop 6).take (Tryz.prog.cellsOf 3)) = xs[3]? := hxs 3 _ rfl
 have f4 : DataW.trod enc Tryz.prog w base spare held n2 9 ((cs.drop 7).take (Tryz.prog.cellsOf 9)) = xs[4]? := hxs 4 _ rfl
 have hxl5 : xs.length = 5 := by rw [hxl]; rfl
 rw [List.getElem?_eq_getElem (by omega)] at f0 f1 f2 f3 f4
 rw [hcc] at f0
 rw [hcw] at f1
 rw [hc4] at f2
 rw [hc1] at f3
 rw [hcs] at f4
 have hd : ∀ k, k < 8 → ∃ c, (cs.drop k).take 1 = [c] ∧ cs.drop k = c :: cs.drop (k + 1) := fun k hk => by
  rw [List.drop_eq_getElem_cons (by omega)]
  exact ⟨_, rfl, rfl⟩
 obtain ⟨c0, d0, g0⟩ := hd 0 (by omega)
 obtain ⟨c1, d1, g1⟩ := hd 1 (by omega)
 obtain ⟨c6, d6, g6⟩ := hd 6 (by omega)
 obtain ⟨c7, d7, g7⟩ := hd 7 (by omega)
 rw [d0] at f0
 rw [d1] at f1
 rw [d6] at f3
 rw [d7] at f4
 obtain ⟨ca, l0, cc, e0, he0, hg0⟩ := open_sliceN (n := 13) Tryz.underlying22 hcf (by decide) (fun y => ∃ (c : ConfX) (pa : Option Addr) (cap : Nat), y = confXV pa cap c ∧ PXOff [] w pa c.ps) (fun fuel ys x hy => by
  obtain ⟨id, ma, he, de, ageing, pa, ps, cap, e, hp⟩ := open_confT hy
  exact ⟨⟨⟨id, ma, he, de, ageing, ps⟩, pa, cap, e, hp⟩, by rw [e]; simp [confV]⟩) f0
 obtain ⟨cl, q1, q2⟩ := confs_of l0 hg0
 obtain ⟨wa, l1, wc, e1, he1, hg1⟩ := open_sliceN (n := 4) Tryz.underlying23 hc4 (by decide) (fun y => ∃ x : WireX, y = wireC x) (fun fuel ys x hy => by
  obtain ⟨a, b, c, d, e⟩ := four_of (good_w4.2 _ _ _ _ _ _ _ _ _ hy)
  exact ⟨⟨⟨a, b, c, d⟩, e⟩, by rw [e]; rfl⟩) f1
 obtain ⟨wl, rfl⟩ := wires_of l1 hg1
 obtain ⟨r, k, p, d, e2⟩ := four_of (good_w4.2 _ _ _ _ _ _ _ _ _ f2)
 obtain ⟨room, e3, _, _⟩ := DataW.trod_int Tryz.underlying3 f3
 obtain ⟨sd, e4, _⟩ := DataW.trod_string Tryz.underlying9 f4
 simp only [List.cons.injEq, and_true] at e3 e4
 refine ⟨ca, cl, cc, wa, wl, wc, r, k, p, d, room, sd.data.toList, ?_, ⟨l0, q1, he0, q2⟩, he1⟩
 have hend : cs.drop 8 = [] := List.drop_eq_nil_of_le (by omega)
 have h26 : cs.drop 2 = (cs.drop 2).take 4 ++ cs.drop 6 := by
  have := (List.take_append_drop 4 (cs.drop 2)).symm
  rwa [List.drop_drop] at this
 have hcs2 : cs = cs.drop 0 := rfl
 rw [hcs2, g0, g1, h26, g6, g7, hend, e2, e0, e1, e3, e4, List.length_map, ← q1]
 rfl
end
theorem open_plan {w : World} {v : Value} {r : Reach} {base : Nat} (hv : Value.okWide Tryz.prog w r base 26 v) (hr : Reads Tryz.prog w 26 v) :
  ∃ ca cl cc wa wl wc r k p d room seed, v = .agg (planV ca (List.length (α := ConfX) cl) cc wa (List.length (α := WireX) wl) wc r k p d room seed).toArray ∧ ConfsAt w ca cl ∧ WiresAt w wa wl := by
 obtain ⟨H, enc, base', spare, held, fuel, x, hx⟩ := hr
 obtain ⟨cs, rfl⟩ : ∃ cs, v = .agg cs := by
  unfold Value.okWide at hv
  rw [Tryz.underlying26] at hv
  obtain ⟨cs, h1, _⟩ := hv
  exact ⟨cs, h1⟩
 have hx' : DataW.trod enc Tryz.prog w base' spare held fuel 26 cs.toList = some x := by simpa [Value.cells] using hx
 obtain ⟨ca, cl, cc, wa, wl, wc, r, k, p, d, room, seed, e, h1, h2⟩ := open_planT hx'
 exact ⟨ca, cl, cc, wa, wl, wc, r, k, p, d, room, seed, by rw [← e], h1, h2⟩
end
section
open Go.RowKit Go.Shelf
theorem fewC_any (id : Vector UInt8 8) (ma he de ageing : Int) (pa : Option Addr) (cap : Nat) (ps : List PortX) (w : World) (h : PXOff [] w pa ps) :
  Calls Tryz.prog 22 #[.agg (confV id ma he de ageing pa ps.length cap).toArray] w fun e w' => e = .returned (.int .i64 (if fewC ps then 1 else 0)) ∧ Below w.heap.size w w' := by
 obtain ⟨q, hq⟩ : ∃ q, fewC ps = q := ⟨_, rfl⟩
 rw [hq]
 have HQ := h_ hq
 clear hq
 unfold confV
 go_enter Tryz.func22, Tryz.ntmps22
 obtain ⟨w1, hw1⟩ : ∃ x, w.alloc (.cells (u8v id ++ [Value.int .i64 ma, Value.int .i64 he, Value.int .i64 de, Value.int .i64 ageing, Value.slice pa ps.length cap]).toArray 54) = x := ⟨_, rfl⟩
 have b1 : Below w.heap.size w w1 := by rw [← hw1]; exact ba_
 have z1 : w1.heap.size = w.heap.size + 1 := by rw [← hw1, alloc_sizeW]
 have r1 : row w1 w.heap.size = (u8v id ++ [Value.int .i64 ma, Value.int .i64 he, Value.int .i64 de, Value.int .i64 ageing, Value.slice pa ps.length cap]).toArray := by rw [← hw1]; exact row_alloc_at _ _ _ rfl
 by_cases h50 : 50 < ps.length
 ·
  have h50I : (50 : Int) < (ps.length : Int) := by omega
  have hqf : q = false := by rw [← HQ.out]; unfold fewC; rw [decide_eq_false (by omega)]; rfl
  subst hqf
  go_wp2_with fail
  go_ret
  exact ⟨rfl, b1⟩
 ·
  have h50I : ¬ (50 : Int) < (ps.length : Int) := by omega
  have hnI : (ps.length : Int) ≤ 50 := by omega
  go_wp2_with fail
  (try rw [hw1])
  (try clear hw1)
  have HZ1 := h_ z1
  clear z1
  go_loopw [3] (fun i wr => ∃ k : Nat, k ≤ ps.length ∧ i = .int .i64 k ∧ (∀ (i : Nat) (hi : i < ps.length), i < k → ps[i].p.tagged.length ≤ 100) ∧ wr = w1) (fun i _ => ps.length - (intOf i).toNat)
  case atStart => exact ⟨0, by omega, rfl, fun i hi h => by omega, rfl⟩
  case round =>
   obtain ⟨k, hk, rfl, hall, rfl⟩ := hrel
   have HA := h_ hall
   clear hall
   by_cases hlt : k < ps.length
   ·
    have hltI : (k : Int) < (ps.length : Int) := by omega
    obtain ⟨pb, po, ta, tc, rfl, hpb, hrd⟩ := h.get hlt
    obtain ⟨r, hr⟩ : ∃ x, ps[k] = x := ⟨_, rfl⟩
    have hrd2 := hrd wr (BelowS.of b1)
    rw [hr] at hrd2
    have htm := hrd2.2.1
    rw [List.length_map] at htm
    have g1 : wr.cell? ⟨pb, po + k * 39 + 1, none⟩ = some (.slice ta r.p.tagged.length tc) := hrd2.1 1 _ rfl
    obtain ⟨o, ho⟩ : ∃ o, po + k * 39 = o := ⟨_, rfl⟩
    rw [ho] at g1
    have HR := h_ hr
    clear hrd hr hrd2
    by_cases hbig : 100 < r.p.tagged.length
    ·
     have hbigI : (100 : Int) < (r.p.tagged.length : Int) := by omega
     have hqf : q = false := by
      rw [← HQ.out]
      unfold fewC
      rw [show (ps.all fun x => decide (x.p.tagged.length ≤ 100)) = false from List.all_eq_false.2 ⟨r, HR.out ▸ List.getElem_mem hlt, by simp; omega⟩, Bool.and_false]
     subst hqf
     go_wp2_with fail
     go_ret
     exact ⟨rfl, b1⟩
    ·
     have hbigI : ¬ (100 : Int) < (r.p.tagged.length : Int) := by omega
     have HS := h_ (show ∀ (i : Nat) (hi : i < ps.length), i < k + 1 → ps[i].p.tagged.length ≤ 100 from fun i hi hik => by
      rcases Nat.lt_or_ge i k with h0 | h0
      ·
       exact HA.out i hi h0
      ·
       obtain rfl : i = k := by omega
       rw [HR.out]; omega)
     go_wp2_with fail
     go_roundw
     case rel => exact ⟨k + 1, by omega, by simp, HS.out, by first | rfl | trivial⟩
     case measure => simp [intOf]; omega
   ·
    obtain rfl : k = ps.length := by omega
    have hltI : ¬ (ps.length : Int) < (ps.length : Int) := by omega
    have hqt : q = true := by
     rw [← HQ.out]
     unfold fewC
     rw [decide_eq_true (by omega), Bool.true_and]
     exact List.all_eq_true.2 fun x hx => by
      obtain ⟨i, hi, rfl⟩ := List.getElem_of_mem hx
      exact decide_eq_true (HA.out i hi hi)
    subst hqt
    go_wp2_with fail
    go_ret
    exact ⟨rfl, b1⟩
end
end Go.Proofs.YtfopoijikdmiaaaGreatDoor
