/- Texts of this proof, merged: OfC, RefC, RefD. -/
import Derived.Test.YtcebllbikmgjpaaGreatJ26
import Derived.Test.YtcebllbikmgjpaaGreatJ45
import Derived.Test.YtcebllbikmgjpaaGreatRpXJ
import Derived.Test.YtcebllbikmgjpaaGreatAplJ
set_option linter.unusedSimpArgs false
set_option linter.unusedVariables false
set_option maxHeartbeats 8000000
set_option maxRecDepth 20000
namespace Go.Proofs.YtcebllbikmgjpaaGreat
section
open Go.RowKit Go.Shelf
theorem xportInfo : (Tryz.prog.info? 85).map (fun i => (i.zero.map (·.cells.size), i.size, i.bytes)) = some (some 39, 39, 104) := by kernel_rfl
theorem pxr_load {W : World} {b o : Nat} {ta : Option Addr} {cap : Nat} {x : PortX} (h : W.rangeAt b o (portXV ta cap x)) : (loadS 57 (.pointer (some ⟨b, o, none⟩))).run Tryz.prog W = .ok (.agg (portXV ta cap x).toArray) W := run_loadS_at h (by simp [portXV])
def fewC (ps : List PortX) : Bool := decide (ps.length ≤ 50) && ps.all fun x => decide (x.p.tagged.length ≤ 100)
theorem ofC_any (id : Vector UInt8 8) (ma he de ageing : Int) (pa : Option Addr) (cap : Nat) (ps : List PortX) (w : World) (h : PXOff [] w pa ps) (hn : ps.length ≤ 1000) :
  Calls Tryz.prog 10 #[.agg (confV id ma he de ageing pa ps.length cap).toArray] w fun e w' => (∃ pa', (∃ cap', e = .returned (.agg (confV id ma he de ageing pa' ps.length cap').toArray)) ∧ PXOff [] w' pa' ps) ∧ Below w.heap.size w w' := by
 have hnI : (ps.length : Int) ≤ 1000 := by omega
 unfold confV
 go_enter Tryz.func10, Tryz.ntmps10
 obtain ⟨w1, hw1⟩ : ∃ x, w.alloc (.cells (u8v id ++ [Value.int .i64 ma, Value.int .i64 he, Value.int .i64 de, Value.int .i64 ageing, Value.slice pa ps.length cap]).toArray 25) = x := ⟨_, rfl⟩
 have b1 : Below w.heap.size w w1 := by rw [← hw1]; exact ba_
 have z1 : w1.heap.size = w.heap.size + 1 := by rw [← hw1, alloc_sizeW]
 have rC1 : row w1 w.heap.size = (u8v id ++ [Value.int .i64 ma, Value.int .i64 he, Value.int .i64 de, Value.int .i64 ageing, Value.slice pa ps.length cap]).toArray := by rw [← hw1]; exact row_alloc_at _ _ _ rfl
 have hz : (zeros 1 (Value.int .i64 0)).tail = [] := rfl
 have hz2 : (zeros 1 (Value.int .i64 0) ++ [Value.slice none 0 0]).tail = [Value.slice none 0 0] := rfl
 go_wp2_with fail
 obtain ⟨w3, hw3⟩ : ∃ x, (w1.alloc (.cells (zeros 8 (Value.int .u8 0) ++ (zeros 4 (Value.int .i64 0) ++ [Value.slice none 0 0])).toArray 41)).alloc (.cells (u8v id ++ [Value.int .i64 ma, Value.int .i64 he, Value.int .i64 de, Value.int .i64 ageing, Value.slice none 0 0]).toArray 41) = x := ⟨_, rfl⟩
 have b3 : Below w1.heap.size w1 w3 := by rw [← hw3]; exact Below.alloc (ba_) (by simp) _
 have z3 : w3.heap.size = w.heap.size + 3 := by rw [← hw3, alloc_sizeW, alloc_sizeW, z1]
 have rR3 : row w3 (w.heap.size + 1) = (zeros 8 (Value.int .u8 0) ++ (zeros 4 (Value.int .i64 0) ++ [Value.slice none 0 0])).toArray := by rw [← hw3]; simp [go_sem, z1]
 have rX3 : row w3 (w.heap.size + 1 + 1) = (u8v id ++ [Value.int .i64 ma, Value.int .i64 he, Value.int .i64 de, Value.int .i64 ageing, Value.slice none 0 0]).toArray := by rw [← hw3]; simp [go_sem, z1]
 have rC3 := (row_below b3 (by omega)).trans rC1
 have B3 : Below w.heap.size w w3 := b1.trans (b3.mono (by omega))
 rw [hw3]
 (try clear hw1)
 have q0 : w.heap.size + 1 + 1 < w3.heap.size := by omega
 clear hw3 rC1 b1 b3 hz hz2 z1 z3
 go_loopw [4] (fun i wr => ∃ (k : Nat) (ppa : Option Addr) (ppc : Nat) (rows : List (List Value)), k ≤ ps.length ∧ i = .int .i64 k ∧ rows.length = k ∧ OwnL wr w3.heap.size 85 39 (.slice ppa k ppc) rows ∧
  (∀ (q : Nat) (r : PortX), q < k → ps[q]? = some r → ∃ ta tc, rows[q]? = some (portXV ta tc r) ∧ ElemsOff [] w ta 1 (r.p.tagged.map fun v => [Value.int .i64 v])) ∧ row wr (w.heap.size + 1 + 1) = (u8v id ++ [Value.int .i64 ma, Value.int .i64 he, Value.int .i64 de, Value.int .i64 ageing, Value.slice ppa k ppc]).toArray ∧ BelowBut w3.heap.size (w.heap.size + 1 + 1) w3 wr) (fun i _ => ps.length - (intOf i).toNat)
 case atStart => exact ⟨0, none, 0, [], by omega, rfl, rfl, OwnL.nil _ _ _ _, (fun q r hq _ => by omega), rX3, BelowBut.of (Below.refl _ _)⟩
 case round =>
  obtain ⟨k, ppa, ppc, rows, hk, rfl, hrl, hown, hrows, rX, cb⟩ := hrel
  have zb := cb.size
  have rC := (cb.row (show w.heap.size < w3.heap.size by omega) (by omega)).trans rC3
  have rR := (cb.row (show w.heap.size + 1 < w3.heap.size by omega) (by omega)).trans rR3
  have cbw : Below w.heap.size w wr := B3.trans ((cb.mono (show w.heap.size ≤ w3.heap.size by omega)).below (by omega))
  by_cases hlt : k < ps.length
  ·
   have hltI : (k : Int) < (ps.length : Int) := by omega
   obtain ⟨pb, po, ta, tc, rfl, hpb, hrd⟩ := h.get hlt
   obtain ⟨x, hx⟩ : ∃ x, ps[k] = x := ⟨_, rfl⟩
   rw [hx] at hrd
   have hld := pxr_load (hrd wr (BelowS.of cbw)).1
   have hit := (hrd w (BelowS.of (Below.refl _ _))).2
   obtain ⟨o, ho⟩ : ∃ o, po + k * 39 = o := ⟨_, rfl⟩
   rw [ho] at hld
   have HIT := h_ hit
   have HX := h_ hx
   have HRW := h_ hrows
   have HOW := h_ hown
   clear hrd hit hx hrows hown
   unfold portXV at hld
   obtain ⟨w4, hw4⟩ : ∃ y, wr.alloc (.cells (Value.int .i64 x.p.native :: Value.slice ta x.p.tagged.length tc :: Value.int .i64 x.p.hor :: Value.int .i64 x.p.lim :: Value.bool x.link :: Value.int .i64 x.rate :: Value.bool x.greets :: u8v x.psk).toArray 57) = y := ⟨_, rfl⟩
   have b4 : Below wr.heap.size wr w4 := by rw [← hw4]; exact ba_
   have z4 : w4.heap.size = wr.heap.size + 1 := by rw [← hw4, alloc_sizeW]
   have r4 : row w4 wr.heap.size = (Value.int .i64 x.p.native :: Value.slice ta x.p.tagged.length tc :: Value.int .i64 x.p.hor :: Value.int .i64 x.p.lim :: Value.bool x.link :: Value.int .i64 x.rate :: Value.bool x.greets :: u8v x.psk).toArray := by rw [← hw4]; exact row_alloc_at _ _ _ rfl
   have rX4 := (row_below b4 (show w.heap.size + 1 + 1 < wr.heap.size by omega)).trans rX
   have own4 := HOW.out.below b4
   have HO4 := h_ own4
   have hle10 : rows.length ≤ 10000 := by omega
   have HL := h_ hle10
   have k34 : w3.heap.size ≤ w4.heap.size := by omega
   have HZ4 := h_ z4
   clear own4 hle10 z4
   have hf : List.foldl (fun (cs : Array Value) (y : Value × Nat) => cs.setIfInBounds y.2 y.1) #[Value.int .i64 x.p.native, Value.slice ta x.p.tagged.length tc, Value.int .i64 x.p.hor, Value.int .i64 x.p.lim, Value.bool x.link, Value.int .i64 x.rate, Value.bool x.greets, Value.int .u8 0, Value.int .u8 0, Value.int .u8 0, Value.int .u8 0, Value.int .u8 0, Value.int .u8 0, Value.int .u8 0, Value.int .u8 0, Value.int .u8 0, Value.int .u8 0, Value.int .u8 0, Value.int .u8 0, Value.int .u8 0, Value.int .u8 0, Value.int .u8 0, Value.int .u8 0, Value.int .u8 0, Value.int .u8 0, Value.int .u8 0, Value.int .u8 0, Value.int .u8 0, Value.int .u8 0, Value.int .u8 0, Value.int .u8 0, Value.int .u8 0, Value.int .u8 0, Value.int .u8 0, Value.int .u8 0, Value.int .u8 0, Value.int .u8 0, Value.int .u8 0, Value.int .u8 0] ((u8v x.psk).zipIdx 7) = (Value.int .i64 x.p.native :: Value.slice ta x.p.tagged.length tc :: Value.int .i64 x.p.hor :: Value.int .i64 x.p.lim :: Value.bool x.link :: Value.int .i64 x.rate :: Value.bool x.greets :: u8v x.psk).toArray := fold_at (u8v x.psk) [Value.int .i64 x.p.native, Value.slice ta x.p.tagged.length tc, Value.int .i64 x.p.hor, Value.int .i64 x.p.lim, Value.bool x.link, Value.int .i64 x.rate, Value.bool x.greets] [Value.int .u8 0, Value.int .u8 0, Value.int .u8 0, Value.int .u8 0, Value.int .u8 0, Value.int .u8 0, Value.int .u8 0, Value.int .u8 0, Value.int .u8 0, Value.int .u8 0, Value.int .u8 0, Value.int .u8 0, Value.int .u8 0, Value.int .u8 0, Value.int .u8 0, Value.int .u8 0, Value.int .u8 0, Value.int .u8 0, Value.int .u8 0, Value.int .u8 0, Value.int .u8 0, Value.int .u8 0, Value.int .u8 0, Value.int .u8 0, Value.int .u8 0, Value.int .u8 0, Value.int .u8 0, Value.int .u8 0, Value.int .u8 0, Value.int .u8 0, Value.int .u8 0, Value.int .u8 0] (by simp)
   have hx39 : (Value.int .i64 x.p.native :: Value.slice ta x.p.tagged.length tc :: Value.int .i64 x.p.hor :: Value.int .i64 x.p.lim :: Value.bool x.link :: Value.int .i64 x.rate :: Value.bool x.greets :: u8v x.psk).length = 39 := by simp
   have hx1 : ones (Value.int .i64 x.p.native :: Value.slice ta x.p.tagged.length tc :: Value.int .i64 x.p.hor :: Value.int .i64 x.p.lim :: Value.bool x.link :: Value.int .i64 x.rate :: Value.bool x.greets :: u8v x.psk) = true := by simp
   have HX39 := h_ hx39
   have HX1 := h_ hx1
   clear hx39 hx1
   go_wp2_with (at_builtin; (refine wpList_appendB rfl rfl Tryz.underlying39 xportInfo (by decide) (by decide) w3.heap.size _ _ rfl HO4.out (Value.int .i64 x.p.native :: Value.slice ta x.p.tagged.length tc :: Value.int .i64 x.p.hor :: Value.int .i64 x.p.lim :: Value.bool x.link :: Value.int .i64 x.rate :: Value.bool x.greets :: u8v x.psk) rfl HX39.out HX1.out HL.out k34 ?_))
   intro v5 w5 hown5 b5 hk5
   obtain ⟨ppa5, ppc5, hv5, _⟩ := hown5.elems
   simp only [List.length_append, List.length_singleton, hrl] at hv5
   subst hv5
   have z5 : w4.heap.size ≤ w5.heap.size := b5.size
   have rX5 := (row_beside HO4.out (show w.heap.size + 1 + 1 < w4.heap.size by omega) (show w.heap.size + 1 + 1 < w3.heap.size by omega) hk5).trans rX4
   obtain ⟨w6, hw6⟩ : ∃ y, w5.setRow (w.heap.size + 1 + 1) (u8v id ++ [Value.int .i64 ma, Value.int .i64 he, Value.int .i64 de, Value.int .i64 ageing, Value.slice ppa5 (k + 1) ppc5]).toArray = y := ⟨_, rfl⟩
   have rX6 : row w6 (w.heap.size + 1 + 1) = (u8v id ++ [Value.int .i64 ma, Value.int .i64 he, Value.int .i64 de, Value.int .i64 ageing, Value.slice ppa5 (k + 1) ppc5]).toArray := by rw [← hw6]; exact row_setRow_same (by rw [rX5]; simp) (by rw [rX5]; simp)
   have hk6 : ∀ X, w3.heap.size ≤ X → w6.heap[X]? = w5.heap[X]? := fun X hX => by rw [← hw6]; exact setRow_block_other _ _ _ (by omega)
   have cb6 : BelowBut w3.heap.size (w.heap.size + 1 + 1) w3 w6 := by rw [← hw6]; exact ((cb.trans ((BelowBut.of b4).mono (by omega))).trans (BelowBut.of b5)).trans (BelowBut.set _ _)
   have HO6 := h_ (hown5.keep fun X hX => hk6 X (hown5.blk hX).1)
   have hrows6 : ∀ (q : Nat) (r : PortX), q < k + 1 → ps[q]? = some r → ∃ ta' tc', (rows ++ [(Value.int .i64 x.p.native :: Value.slice ta x.p.tagged.length tc :: Value.int .i64 x.p.hor :: Value.int .i64 x.p.lim :: Value.bool x.link :: Value.int .i64 x.rate :: Value.bool x.greets :: u8v x.psk)])[q]? = some (portXV ta' tc' r) ∧ ElemsOff [] w ta' 1 (r.p.tagged.map fun v => [Value.int .i64 v]) := by
    intro q r hq hr
    by_cases hqk : q < k
    ·
     obtain ⟨ta', tc', e1, e2⟩ := HRW.out q r hqk hr
     exact ⟨ta', tc', by rw [List.getElem?_append_left (by omega)]; exact e1, e2⟩
    ·
     have hqe : q = k := by omega
     subst hqe
     rw [List.getElem?_eq_getElem hlt, HX.out] at hr
     cases hr
     exact ⟨ta, tc, by rw [List.getElem?_append_right (by omega), hrl, Nat.sub_self]; rfl, HIT.out⟩
   have HRW6 := h_ hrows6
   clear hrows6 hown5 hk5 hk6 HRW HO4 HOW b4 b5 rX4 rX r4 hld
   go_wp2_with fail
   (try rw [hw6])
   (try clear hw6)
   go_roundw
   case rel => exact ⟨k + 1, ppa5, ppc5, _, by omega, by simp, by simp [hrl], HO6.out, HRW6.out, rX6, cb6⟩
   case measure => simp [intOf]; omega
  ·
   obtain rfl : k = ps.length := by omega
   have hltI : ¬ (ps.length : Int) < (ps.length : Int) := by omega
   have HOW := h_ hown
   have HRW := h_ hrows
   have hC1 : ones (u8v id ++ [Value.int .i64 ma, Value.int .i64 he, Value.int .i64 de, Value.int .i64 ageing, Value.slice ppa ps.length ppc]) = true := by simp
   clear hown hrows
   obtain ⟨w7, hw7⟩ : ∃ y, wr.setRow (w.heap.size + 1) (u8v id ++ [Value.int .i64 ma, Value.int .i64 he, Value.int .i64 de, Value.int .i64 ageing, Value.slice ppa ps.length ppc]).toArray = y := ⟨_, rfl⟩
   have rR7 : row w7 (w.heap.size + 1) = (u8v id ++ [Value.int .i64 ma, Value.int .i64 he, Value.int .i64 de, Value.int .i64 ageing, Value.slice ppa ps.length ppc]).toArray := by rw [← hw7]; exact row_setRow_same (by rw [rR]; simp) (by rw [rR]; simp)
   have B7 : Below w.heap.size w w7 := by rw [← hw7]; exact Below.setRow cbw (by omega) _
   have hk7 : ∀ X, w3.heap.size ≤ X → w7.heap[X]? = wr.heap[X]? := fun X hX => by rw [← hw7]; exact setRow_block_other _ _ _ (by omega)
   have HO7 := h_ (HOW.out.keep fun X hX => hk7 X (HOW.out.blk hX).1)
   clear hk7
   go_wp2_with fail
   (try rw [hw7])
   (try clear hw7)
   (try simp only [Exit.inBlock, Exit.then])
   refine bodyPost_ret (results_1 rfl (resOk_row rfl ?_)) rfl ?_
   ·
    rw [rR7]; simp
   refine ⟨⟨ppa, ⟨ppc, by rw [rR7]⟩, ?_⟩, B7⟩
   obtain ⟨a', c', e, he⟩ := HO7.out.off [] (fun s hs => by cases hs)
   simp only [Value.slice.injEq] at e
   obtain ⟨rfl, _, rfl⟩ := e
   refine ⟨by have := he.1; unfold maxLen; omega, fun q r hr => ?_⟩
   obtain ⟨ta, tc, e1, e2⟩ := HRW.out q r (List.getElem?_eq_some_iff.1 hr).1 hr
   obtain ⟨b, off, e3, hb, hn2, hra⟩ := he.2 q _ e1
   exact ⟨b, off, ta, tc, e3, hb, hn2, hra, e2.below B7⟩
end
section
open Go.RowKit Go.Shelf
theorem r17One_any (a : Option Addr) (cap : Nat) (ma he de : Int) (w : World) (h : IntsAt w a [1]) : Calls Tryz.prog 43 #[.slice a 1 cap, .int .i64 ma, .int .i64 he, .int .i64 de] w fun e w' => e = .returned (.bool (rightT ma he de)) ∧ w' = w := by
 obtain ⟨q, hq⟩ : ∃ q, rightT ma he de = q := ⟨_, rfl⟩
 rw [hq]
 have HB := h_ hq
 clear hq
 obtain ⟨b, off, rfl, hb, hr⟩ := h.2 0 _ rfl
 have hc := hr w rfl 0 _ rfl
 simp only [Nat.zero_mul, Nat.add_zero] at hc
 go_enter Tryz.func43, Tryz.ntmps43
 go_wp2_with fail
 refine wp_loop_rounds 2 ?_
 rw [rounds_succ]
 go_wp2_with fail
 rw [rounds_succ]
 by_cases h1 : 1 ≤ he
 ·
  have b1 := decide_eq_true h1
  by_cases h2 : he ≤ 100
  ·
   have b2 := decide_eq_true h2
   obtain ⟨e1, e2⟩ := two_he h1 h2
   by_cases h3 : 2 * he < ma
   ·
    have b3 := decide_eq_true h3
    by_cases h4 : ma ≤ 1000
    ·
     have b4 := decide_eq_true h4
     by_cases h5 : 1 ≤ de
     ·
      have b5 := decide_eq_true h5
      by_cases h6 : de ≤ 1000
      ·
       have b6 := decide_eq_true h6
       go_wp2_with fail
       go_ret
       exact ⟨by rw [show q = true from by rw [← HB.out]; unfold rightT; simp; omega]; rfl, rfl⟩
      ·
       have b6 := decide_eq_false h6
       go_wp2_with fail
       go_ret
       exact ⟨by rw [show q = false from by rw [← HB.out]; unfold rightT; simp; omega]; rfl, rfl⟩
     ·
      have b5 := decide_eq_false h5
      go_wp2_with fail
      go_ret
      exact ⟨by rw [show q = false from by rw [← HB.out]; unfold rightT; simp; omega]; rfl, rfl⟩
    ·
     have b4 := decide_eq_false h4
     go_wp2_with fail
     go_ret
     exact ⟨by rw [show q = false from by rw [← HB.out]; unfold rightT; simp; omega]; rfl, rfl⟩
   ·
    have b3 := decide_eq_false h3
    go_wp2_with fail
    go_ret
    exact ⟨by rw [show q = false from by rw [← HB.out]; unfold rightT; simp; omega]; rfl, rfl⟩
  ·
   have b2 := decide_eq_false h2
   go_wp2_with fail
   go_ret
   exact ⟨by rw [show q = false from by rw [← HB.out]; unfold rightT; simp; omega]; rfl, rfl⟩
 ·
  have b1 := decide_eq_false h1
  go_wp2_with fail
  go_ret
  exact ⟨by rw [show q = false from by rw [← HB.out]; unfold rightT; simp; omega]; rfl, rfl⟩
theorem fewC_any (id : Vector UInt8 8) (ma he de ageing : Int) (pa : Option Addr) (cap : Nat) (ps : List PortX) (w : World) (h : PXOff [] w pa ps) :
  Calls Tryz.prog 8 #[.agg (confV id ma he de ageing pa ps.length cap).toArray] w fun e w' => e = .returned (.int .i64 (if fewC ps then 1 else 0)) ∧ Below w.heap.size w w' := by
 obtain ⟨q, hq⟩ : ∃ q, fewC ps = q := ⟨_, rfl⟩
 rw [hq]
 have HQ := h_ hq
 clear hq
 unfold confV
 go_enter Tryz.func8, Tryz.ntmps8
 obtain ⟨w1, hw1⟩ : ∃ x, w.alloc (.cells (u8v id ++ [Value.int .i64 ma, Value.int .i64 he, Value.int .i64 de, Value.int .i64 ageing, Value.slice pa ps.length cap]).toArray 25) = x := ⟨_, rfl⟩
 have b1 : Below w.heap.size w w1 := by rw [← hw1]; exact ba_
 have z1 : w1.heap.size = w.heap.size + 1 := by rw [← hw1, alloc_sizeW]
 have r1 : row w1 w.heap.size = (u8v id ++ [Value.int .i64 ma, Value.int .i64 he, Value.int .i64 de, Value.int .i64 ageing, Value.slice pa ps.length cap]).toArray := by rw [← hw1]; exact row_alloc_at _ _ _ rfl
 by_cases h50 : 50 < ps.length
 ·
  have h50I : (50 : Int) < (ps.length : Int) := by omega
  have hqf : q = false := by rw [← HQ.out]; unfold fewC; rw [decide_eq_false (by omega)]; rfl
  subst hqf
  go_wp2_with fail
  go_ret
  exact ⟨rfl, b1⟩
 ·
  have h50I : ¬ (50 : Int) < (ps.length : Int) := by omega
  have hnI : (ps.length : Int) ≤ 50 := by omega
  go_wp2_with fail
  (try rw [hw1])
  (try clear hw1)
  have HZ1 := h_ z1
  clear z1
  go_loopw [3] (fun i wr => ∃ k : Nat, k ≤ ps.length ∧ i = .int .i64 k ∧ (∀ (i : Nat) (hi : i < ps.length), i < k → ps[i].p.tagged.length ≤ 100) ∧ wr = w1) (fun i _ => ps.length - (intOf i).toNat)
  case atStart => exact ⟨0, by omega, rfl, fun i hi h => by omega, rfl⟩
  case round =>
   obtain ⟨k, hk, rfl, hall, rfl⟩ := hrel
   have HA := h_ hall
   clear hall
   by_cases hlt : k < ps.length
   ·
    have hltI : (k : Int) < (ps.length : Int) := by omega
    obtain ⟨pb, po, ta, tc, rfl, hpb, hrd⟩ := h.get hlt
    obtain ⟨r, hr⟩ : ∃ x, ps[k] = x := ⟨_, rfl⟩
    have hrd2 := hrd wr (BelowS.of b1)
    rw [hr] at hrd2
    have htm := hrd2.2.1
    rw [List.length_map] at htm
    have g1 : wr.cell? ⟨pb, po + k * 39 + 1, none⟩ = some (.slice ta r.p.tagged.length tc) := hrd2.1 1 _ rfl
    obtain ⟨o, ho⟩ : ∃ o, po + k * 39 = o := ⟨_, rfl⟩
    rw [ho] at g1
    have HR := h_ hr
    clear hrd hr hrd2
    by_cases hbig : 100 < r.p.tagged.length
    ·
     have hbigI : (100 : Int) < (r.p.tagged.length : Int) := by omega
     have hqf : q = false := by
      rw [← HQ.out]
      unfold fewC
      rw [show (ps.all fun x => decide (x.p.tagged.length ≤ 100)) = false from List.all_eq_false.2 ⟨r, HR.out ▸ List.getElem_mem hlt, by simp; omega⟩, Bool.and_false]
     subst hqf
     go_wp2_with fail
     go_ret
     exact ⟨rfl, b1⟩
    ·
     have hbigI : ¬ (100 : Int) < (r.p.tagged.length : Int) := by omega
     have HS := h_ (show ∀ (i : Nat) (hi : i < ps.length), i < k + 1 → ps[i].p.tagged.length ≤ 100 from fun i hi hik => by
      rcases Nat.lt_or_ge i k with h0 | h0
      ·
       exact HA.out i hi h0
      ·
       obtain rfl : i = k := by omega
       rw [HR.out]; omega)
     go_wp2_with fail
     go_roundw
     case rel => exact ⟨k + 1, by omega, by simp, HS.out, by first | rfl | trivial⟩
     case measure => simp [intOf]; omega
   ·
    obtain rfl : k = ps.length := by omega
    have hltI : ¬ (ps.length : Int) < (ps.length : Int) := by omega
    have hqt : q = true := by
     rw [← HQ.out]
     unfold fewC
     rw [decide_eq_true (by omega), Bool.true_and]
     exact List.all_eq_true.2 fun x hx => by
      obtain ⟨i, hi, rfl⟩ := List.getElem_of_mem hx
      exact decide_eq_true (HA.out i hi hi)
    subst hqt
    go_wp2_with fail
    go_ret
    exact ⟨rfl, b1⟩
end
section
open Go.RowKit Go.Shelf
theorem rportInfo : (Tryz.prog.info? 131).map (fun i => (i.zero.map (·.cells.size), i.size, i.bytes)) = some (some 5, 5, 56) := by kernel_rfl
theorem rightC_bad {ma he de ageing : Int} {ps : List PortX} {k : Nat} (hk : k < ps.length) (h : rightX ps[k] = false) : rightC ma he de ageing ps = false := by
 unfold rightC
 rw [show ps.all rightX = false from List.all_eq_false.2 ⟨ps[k], List.getElem_mem hk, by rw [h]; decide⟩]
 rfl
theorem r23Right_any (id : Vector UInt8 8) (ma he de ageing : Int) (pa : Option Addr) (cap : Nat) (ps : List PortX) (w : World) (h : PXOff [] w pa ps) (hn : ps.length ≤ 1000) :
  Calls Tryz.prog 20 #[.agg (confV id ma he de ageing pa ps.length cap).toArray] w fun e w' => e = .returned (.bool (rightC ma he de ageing ps)) ∧ Below w.heap.size w w' := by
 have hnI : (ps.length : Int) ≤ 1000 := by omega
 unfold confV
 go_enter Tryz.func20, Tryz.ntmps20
 obtain ⟨w1, hw1⟩ : ∃ x, w.alloc (.cells (u8v id ++ [Value.int .i64 ma, Value.int .i64 he, Value.int .i64 de, Value.int .i64 ageing, Value.slice pa ps.length cap]).toArray 25) = x := ⟨_, rfl⟩
 have b1 : Below w.heap.size w w1 := by rw [← hw1]; exact ba_
 have z1 : w1.heap.size = w.heap.size + 1 := by rw [← hw1, alloc_sizeW]
 have rC1 : row w1 w.heap.size = (u8v id ++ [Value.int .i64 ma, Value.int .i64 he, Value.int .i64 de, Value.int .i64 ageing, Value.slice pa ps.length cap]).toArray := by rw [← hw1]; exact row_alloc_at _ _ _ rfl
 obtain ⟨w3, hw3⟩ : ∃ x, w1.alloc (.cells (Value.slice none 0 0 :: Value.int .i64 ageing :: (zeros 2 (Value.slice none 0 0) ++ zeros 5 (Value.int .i64 0))).toArray 129) = x := ⟨_, rfl⟩
 have b3 : Below w1.heap.size w1 w3 := by rw [← hw3]; exact ba_
 have z3 : w3.heap.size = w.heap.size + 2 := by rw [← hw3, alloc_sizeW, z1]
 have rX3 : row w3 (w.heap.size + 1) = #[Value.slice none 0 0, Value.int .i64 ageing, Value.slice none 0 0, Value.slice none 0 0, Value.int .i64 0, Value.int .i64 0, Value.int .i64 0, Value.int .i64 0, Value.int .i64 0] := by rw [← hw3]; exact (row_alloc_at _ _ _ z1.symm).trans rfl
 have rC3 := (row_below b3 (by omega)).trans rC1
 have B3 : Below w.heap.size w w3 := b1.trans (b3.mono (by omega))
 have q0 : w.heap.size + 1 < w3.heap.size := by omega
 go_wp2_with fail
 (try rw [hw3])
 (try clear hw1)
 clear hw3 rC1 b1 b3 z1 z3
 go_loopw [4] (fun i wr => ∃ (k : Nat) (ppa : Option Addr) (ppc : Nat) (rows : List (List Value)), k ≤ ps.length ∧ i = .int .i64 k ∧ rows.length = k ∧ OwnL wr w3.heap.size 131 5 (.slice ppa k ppc) rows ∧
  (∀ (q : Nat) (r : PortX), q < k → ps[q]? = some r → rightX r = true ∧ ∃ ta tc, rows[q]? = some (rportV ta tc ⟨r.p, 0⟩) ∧ IntsAt w ta r.p.tagged) ∧ row wr (w.heap.size + 1) = #[Value.slice ppa k ppc, Value.int .i64 ageing, Value.slice none 0 0, Value.slice none 0 0, Value.int .i64 0, Value.int .i64 0, Value.int .i64 0, Value.int .i64 0, Value.int .i64 0] ∧ BelowBut w3.heap.size (w.heap.size + 1) w3 wr) (fun i _ => ps.length - (intOf i).toNat)
 case atStart => exact ⟨0, none, 0, [], by omega, rfl, rfl, OwnL.nil _ _ _ _, (fun q r hq _ => by omega), rX3, BelowBut.of (Below.refl _ _)⟩
 case round =>
  obtain ⟨k, ppa, ppc, rows, hk, rfl, hrl, hown, hrows, rX, cb⟩ := hrel
  have zb := cb.size
  have rC := (cb.row (show w.heap.size < w3.heap.size by omega) (by omega)).trans rC3
  have cbw : Below w.heap.size w wr := B3.trans ((cb.mono (show w.heap.size ≤ w3.heap.size by omega)).below (by omega))
  by_cases hlt : k < ps.length
  ·
   have hltI : (k : Int) < (ps.length : Int) := by omega
   obtain ⟨pb, po, ta, tc, rfl, hpb, hrd⟩ := h.get hlt
   obtain ⟨x, hx⟩ : ∃ x, ps[k] = x := ⟨_, rfl⟩
   rw [hx] at hrd
   have hld := pxr_load (hrd wr (BelowS.of cbw)).1
   have hit := (hrd w (BelowS.of (Below.refl _ _))).2.elems
   obtain ⟨o, ho⟩ : ∃ o, po + k * 39 = o := ⟨_, rfl⟩
   rw [ho] at hld
   have HIT := h_ (show IntsAt w ta x.p.tagged from hit)
   have HX := h_ hx
   have HRW := h_ hrows
   have HOW := h_ hown
   clear hrd hit hx hrows hown
   unfold portXV at hld
   obtain ⟨w4, hw4⟩ : ∃ y, wr.alloc (.cells (Value.int .i64 x.p.native :: Value.slice ta x.p.tagged.length tc :: Value.int .i64 x.p.hor :: Value.int .i64 x.p.lim :: Value.bool x.link :: Value.int .i64 x.rate :: Value.bool x.greets :: u8v x.psk).toArray 57) = y := ⟨_, rfl⟩
   have b4 : Below wr.heap.size wr w4 := by rw [← hw4]; exact ba_
   have z4 : w4.heap.size = wr.heap.size + 1 := by rw [← hw4, alloc_sizeW]
   have r4 : row w4 wr.heap.size = (Value.int .i64 x.p.native :: Value.slice ta x.p.tagged.length tc :: Value.int .i64 x.p.hor :: Value.int .i64 x.p.lim :: Value.bool x.link :: Value.int .i64 x.rate :: Value.bool x.greets :: u8v x.psk).toArray := by rw [← hw4]; exact row_alloc_at _ _ _ rfl
   have rX4 := (row_below b4 (show w.heap.size + 1 < wr.heap.size by omega)).trans rX
   have HO4 := h_ (HOW.out.below b4)
   have HL := h_ (show rows.length ≤ 10000 by omega)
   have k34 : w3.heap.size ≤ w4.heap.size := by omega
   have B4 : Below w.heap.size w w4 := cbw.trans (b4.mono (by omega))
   obtain ⟨y, hy⟩ : ∃ y, rightX x = y := ⟨_, rfl⟩
   have HY := h_ hy
   clear z4 hy
   obtain ⟨⟨nat, tag, hor, lim⟩, link, rate, greets, psk⟩ := x
   unfold rightX at HY
   dsimp only at *
   cases link with
   | true =>
    by_cases h1 : rate < 1
    ·
     have h1b := decide_eq_true h1
     go_wp2_with fail
     go_ret
     exact ⟨by rw [rightC_bad hlt (by rw [HX.out]; unfold rightX; dsimp only; rw [decide_eq_false (show ¬ 1 ≤ rate by omega)]; rfl)]; rfl, B4⟩
    ·
     have h1b := decide_eq_false h1
     by_cases h2 : 1000000000 < rate
     ·
      have h2b := decide_eq_true h2
      go_wp2_with fail
      go_ret
      exact ⟨by rw [rightC_bad hlt (by rw [HX.out]; unfold rightX; dsimp only; rw [decide_eq_false (show ¬ rate ≤ 1000000000 by omega)]; simp)]; rfl, B4⟩
     ·
      have h2b := decide_eq_false h2
      have hright : rightX ps[k] = true := by rw [HX.out]; unfold rightX; simp; omega
      have HRT := h_ hright
      clear hright
      go_wp2_with (at_builtin; (refine wpList_appendB rfl rfl Tryz.underlying124 rportInfo (by decide) (by decide) w3.heap.size _ _ rfl HO4.out [Value.int .i64 nat, Value.slice ta tag.length tc, Value.int .i64 hor, Value.int .i64 lim, Value.int .i64 0] rfl rfl rfl HL.out k34 ?_))
      intro v5 w5 hown5 b5 hk5
      obtain ⟨ppa5, ppc5, hv5, _⟩ := hown5.elems
      simp only [List.length_append, List.length_singleton, hrl] at hv5
      subst hv5
      have z5 : w4.heap.size ≤ w5.heap.size := b5.size
      have rX5 := (row_beside HO4.out (show w.heap.size + 1 < w4.heap.size by omega) (show w.heap.size + 1 < w3.heap.size by omega) hk5).trans rX4
      obtain ⟨w6, hw6⟩ : ∃ y, w5.setRow (w.heap.size + 1) #[Value.slice ppa5 (k + 1) ppc5, Value.int .i64 ageing, Value.slice none 0 0, Value.slice none 0 0, Value.int .i64 0, Value.int .i64 0, Value.int .i64 0, Value.int .i64 0, Value.int .i64 0] = y := ⟨_, rfl⟩
      have rX6 : row w6 (w.heap.size + 1) = #[Value.slice ppa5 (k + 1) ppc5, Value.int .i64 ageing, Value.slice none 0 0, Value.slice none 0 0, Value.int .i64 0, Value.int .i64 0, Value.int .i64 0, Value.int .i64 0, Value.int .i64 0] := by rw [← hw6]; exact row_setRow_same (by rw [rX5]; simp) (by rw [rX5]; simp)
      have hk6 : ∀ X, w3.heap.size ≤ X → w6.heap[X]? = w5.heap[X]? := fun X hX => by rw [← hw6]; exact setRow_block_other _ _ _ (by omega)
      have cb6 : BelowBut w3.heap.size (w.heap.size + 1) w3 w6 := by rw [← hw6]; exact ((cb.trans ((BelowBut.of b4).mono (by omega))).trans (BelowBut.of b5)).trans (BelowBut.set _ _)
      have HO6 := h_ (hown5.keep fun X hX => hk6 X (hown5.blk hX).1)
      have hrows6 : ∀ (q : Nat) (r : PortX), q < k + 1 → ps[q]? = some r → rightX r = true ∧ ∃ ta' tc', (rows ++ [[Value.int .i64 nat, Value.slice ta tag.length tc, Value.int .i64 hor, Value.int .i64 lim, Value.int .i64 0]])[q]? = some (rportV ta' tc' ⟨r.p, 0⟩) ∧ IntsAt w ta' r.p.tagged := by
       intro q r hq hr
       by_cases hqk : q < k
       ·
        obtain ⟨e0, ta', tc', e1, e2⟩ := HRW.out q r hqk hr
        exact ⟨e0, ta', tc', by rw [List.getElem?_append_left (by omega)]; exact e1, e2⟩
       ·
        have hqe : q = k := by omega
        subst hqe
        rw [List.getElem?_eq_getElem hlt] at hr
        have hrr := HRT.out
        rw [Option.some.inj hr] at hrr
        rw [HX.out] at hr
        cases hr
        exact ⟨hrr, ta, tc, by rw [List.getElem?_append_right (by omega), hrl, Nat.sub_self]; rfl, HIT.out⟩
      have HRW6 := h_ hrows6
      clear hrows6 hown5 hk5 hk6 HRW HO4 HOW b4 b5 rX4 rX r4 hld
      go_wp2_with fail
      (try rw [hw6])
      (try clear hw6)
      go_roundw
      case rel => exact ⟨k + 1, ppa5, ppc5, _, by omega, by simp, by simp [hrl], HO6.out, HRW6.out, rX6, cb6⟩
      case measure => simp [intOf]; omega
   | false =>
    by_cases h1 : rate = 0
    ·
     subst h1
     cases greets with
     | true =>
      go_wp2_with fail
      go_ret
      exact ⟨by rw [rightC_bad hlt (by rw [HX.out]; rfl)]; rfl, B4⟩
     | false =>
      by_cases h3 : psk = Vector.replicate 32 0
      ·
       have h3b : (psk == Vector.replicate 32 0) = true := by simpa using h3
       have hr0 : rightX ps[k] = true := by rw [HX.out]; unfold rightX; simp [h3]
       have HR0 := h_ hr0
       clear h3 hr0
       have hright : rightX ps[k] = true := HR0.out
       have HRT := h_ hright
       clear hright
       go_wp2_with (at_builtin; (refine wpList_appendB rfl rfl Tryz.underlying124 rportInfo (by decide) (by decide) w3.heap.size _ _ rfl HO4.out [Value.int .i64 nat, Value.slice ta tag.length tc, Value.int .i64 hor, Value.int .i64 lim, Value.int .i64 0] rfl rfl rfl HL.out k34 ?_))
       intro v5 w5 hown5 b5 hk5
       obtain ⟨ppa5, ppc5, hv5, _⟩ := hown5.elems
       simp only [List.length_append, List.length_singleton, hrl] at hv5
       subst hv5
       have z5 : w4.heap.size ≤ w5.heap.size := b5.size
       have rX5 := (row_beside HO4.out (show w.heap.size + 1 < w4.heap.size by omega) (show w.heap.size + 1 < w3.heap.size by omega) hk5).trans rX4
       obtain ⟨w6, hw6⟩ : ∃ y, w5.setRow (w.heap.size + 1) #[Value.slice ppa5 (k + 1) ppc5, Value.int .i64 ageing, Value.slice none 0 0, Value.slice none 0 0, Value.int .i64 0, Value.int .i64 0, Value.int .i64 0, Value.int .i64 0, Value.int .i64 0] = y := ⟨_, rfl⟩
       have rX6 : row w6 (w.heap.size + 1) = #[Value.slice ppa5 (k + 1) ppc5, Value.int .i64 ageing, Value.slice none 0 0, Value.slice none 0 0, Value.int .i64 0, Value.int .i64 0, Value.int .i64 0, Value.int .i64 0, Value.int .i64 0] := by rw [← hw6]; exact row_setRow_same (by rw [rX5]; simp) (by rw [rX5]; simp)
       have hk6 : ∀ X, w3.heap.size ≤ X → w6.heap[X]? = w5.heap[X]? := fun X hX => by rw [← hw6]; exact setRow_block_other _ _ _ (by omega)
       have cb6 : BelowBut w3.heap.size (w.heap.size + 1) w3 w6 := by rw [← hw6]; exact ((cb.trans ((BelowBut.of b4).mono (by omega))).trans (BelowBut.of b5)).trans (BelowBut.set _ _)
       have HO6 := h_ (hown5.keep fun X hX => hk6 X (hown5.blk hX).1)
       have hrows6 : ∀ (q : Nat) (r : PortX), q < k + 1 → ps[q]? = some r → rightX r = true ∧ ∃ ta' tc', (rows ++ [[Value.int .i64 nat, Value.slice ta tag.length tc, Value.int .i64 hor, Value.int .i64 lim, Value.int .i64 0]])[q]? = some (rportV ta' tc' ⟨r.p, 0⟩) ∧ IntsAt w ta' r.p.tagged := by
        intro q r hq hr
        by_cases hqk : q < k
        ·
         obtain ⟨e0, ta', tc', e1, e2⟩ := HRW.out q r hqk hr
         exact ⟨e0, ta', tc', by rw [List.getElem?_append_left (by omega)]; exact e1, e2⟩
        ·
         have hqe : q = k := by omega
         subst hqe
         rw [List.getElem?_eq_getElem hlt] at hr
         have hrr := HRT.out
         rw [Option.some.inj hr] at hrr
         rw [HX.out] at hr
         cases hr
         exact ⟨hrr, ta, tc, by rw [List.getElem?_append_right (by omega), hrl, Nat.sub_self]; rfl, HIT.out⟩
       have HRW6 := h_ hrows6
       clear hrows6 hown5 hk5 hk6 HRW HO4 HOW b4 b5 rX4 rX r4 hld
       go_wp2_with fail
       (try rw [hw6])
       (try clear hw6)
       go_roundw
       case rel => exact ⟨k + 1, ppa5, ppc5, _, by omega, by simp, by simp [hrl], HO6.out, HRW6.out, rX6, cb6⟩
       case measure => simp [intOf]; omega
      ·
       have h3b : (psk == Vector.replicate 32 0) = false := by simpa using h3
       have HR0 := h_ (show rightX ps[k] = false by rw [HX.out]; unfold rightX; simp [h3])
       clear h3
       go_wp2_with fail
       go_ret
       exact ⟨by rw [rightC_bad hlt HR0.out]; rfl, B4⟩
    ·
     have h1b : (rate == 0) = false := by simpa using h1
     have h1c : (rate != 0) = true := by simpa using h1
     go_wp2_with fail
     go_ret
     exact ⟨by rw [rightC_bad hlt (by rw [HX.out]; unfold rightX; dsimp only; rw [decide_eq_false h1]; rfl)]; rfl, B4⟩
  ·
   obtain rfl : k = ps.length := by omega
   have hltI : ¬ (ps.length : Int) < (ps.length : Int) := by omega
   have hall : ps.all rightX = true := List.all_eq_true.2 fun r hr => by
    obtain ⟨i, hi, e⟩ := List.getElem_of_mem hr
    exact (hrows i r hi (by rw [List.getElem?_eq_getElem hi, e])).1
   have hrp : RPortsAt wr ppa (ps.map fun x => (⟨x.p, 0⟩ : RPortD)) := by
    obtain ⟨a', c', e, he⟩ := hown.elems
    simp only [Value.slice.injEq] at e
    obtain ⟨rfl, _, rfl⟩ := e
    refine ⟨by rw [List.length_map]; unfold maxLen; omega, fun i r hr => ?_⟩
    rw [List.getElem?_map] at hr
    cases hx : ps[i]? with
    | none => rw [hx] at hr; cases hr
    | some x =>
     rw [hx] at hr
     simp only [Option.map_some, Option.some.injEq] at hr
     subst hr
     obtain ⟨_, ta, tc, e1, e2⟩ := hrows i x (List.getElem?_eq_some_iff.1 hx).1 hx
     obtain ⟨b, off, e3, hb, hra⟩ := he.2 i _ e1
     exact ⟨b, off, ta, tc, e3, hb, hra, e2.below cbw⟩
   have hRR := r22Right_any ⟨ppa, ppc, none, 0, none, 0⟩ ⟨ps.map fun x => (⟨x.p, 0⟩ : RPortD), ageing, [], [], 0, 0, 0, 0, 0⟩ wr hrp
   have hmm : (ps.map fun x => (⟨x.p, 0⟩ : RPortD)).map (·.p) = ps.map (·.p) := by rw [List.map_map]; rfl
   dsimp only at hRR
   rw [hmm] at hRR
   unfold refV at hRR
   dsimp only at hRR
   rw [List.length_map] at hRR
   simp only [List.length_nil] at hRR
   have HRR := h_ hRR
   have hval : rightC ma he de ageing ps = (newOkB ageing (ps.map (·.p)) && rightT ma he de) := by unfold rightC; rw [hall, Bool.true_and]
   have HV := h_ hval
   clear hRR hmm hrp hall hown hrows hval
   cases hnb : newOkB ageing (ps.map (·.p)) with
   | false =>
    rw [hnb] at HRR HV
    go_wp2_with fail
    (with_reducible refine HRR.out.mono ?_)
    rintro e w5 ⟨rfl, b5⟩
    have rC5 := (row_below b5 (by omega)).trans rC
    go_wp2_with fail
    go_ret
    exact ⟨by rw [HV.out]; rfl, cbw.trans (b5.mono (by omega))⟩
   | true =>
    rw [hnb] at HRR HV
    go_wp2_with fail
    (with_reducible refine HRR.out.mono ?_)
    rintro e w5 ⟨rfl, b5⟩
    have z5 := b5.size
    have rC5 := (row_below b5 (by omega)).trans rC
    have B5 : Below w.heap.size w w5 := cbw.trans (b5.mono (by omega))
    obtain ⟨w6, hw6⟩ : ∃ x, w5.alloc (.cells #[Value.int .i64 1] 3) = x := ⟨_, rfl⟩
    have b6 : Below w5.heap.size w5 w6 := by rw [← hw6]; exact ba_
    have r6 : row w6 w5.heap.size = #[Value.int .i64 1] := by rw [← hw6]; exact row_alloc_at _ _ _ rfl
    have hI6 : IntsAt w6 (some ⟨w5.heap.size, 0, none⟩) [1] := elems_one (x := [Value.int .i64 1]) r6 (by decide)
    have rC6 := (row_below b6 (by omega)).trans rC5
    have B6 : Below w.heap.size w w6 := B5.trans (b6.mono (by omega))
    have H17 := h_ (r17One_any (some ⟨w5.heap.size, 0, none⟩) 1 ma he de w6 hI6)
    clear r6 hI6 rC5
    go_wp2_with fail
    (try rw [hw6])
    (try clear hw6)
    (with_reducible refine H17.out.mono ?_)
    rintro e w7 ⟨rfl, rfl⟩
    go_wp2_with fail
    go_ret
    exact ⟨by rw [HV.out]; rfl, B6⟩
end
end Go.Proofs.YtcebllbikmgjpaaGreat
